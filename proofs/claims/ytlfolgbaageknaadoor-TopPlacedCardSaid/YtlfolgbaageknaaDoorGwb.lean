/-
  The calculus of walks: a strings.Builder that the call owns.
-/
import Derived.Test.YtlfolgbaageknaaDoorGwt
import Derived.Test.YtlfolgbaageknaaDoorGwe
import Derived.Lib.Builder
import Derived.Laws.Pointers
import Derived.Laws.Externs
namespace Go.Proofs.YtlfolgbaageknaaDoor
open Go Go.RowKit Go.Lib

variable {P : Program} {ops : Array Oper} {Q : Exit → Act → World → Prop} {C : Cx} {L : Sl} {H : List HA} {rest : List Oper}

section ov
variable {x y : Operand} {t t' ty u : TypeId} {d : Option Tmp} {p : String} {e : Array Edge} {g : Option (Nat × Bool)}
theorem pointee_of (h : P.underlying t = some (.pointer u)) : P.underlying t = some (.pointer (P.pointee t)) := by
  have : P.pointee t = u := by simp [Program.pointee, h]
  rw [this]; exact h
theorem OV.eqlPN {q : Option Addr} (hx : ev L x = some (.pointer q)) (hy : ev L y = some (.pointer none)) (h : P.underlying t = some (.pointer u)) : OV P C L H ⟨d, .binOp .eql t x y t', ty, p, e, g⟩ (.bool q.isNone) := fun a w hf _ => by
  simp [execOp, hf.ev hx, hf.ev hy, eqGuard, run_eql_pointer_nil w t q (pointee_of h)]
theorem OV.neqPN {q : Option Addr} (hx : ev L x = some (.pointer q)) (hy : ev L y = some (.pointer none)) (h : P.underlying t = some (.pointer u)) : OV P C L H ⟨d, .binOp .neq t x y t', ty, p, e, g⟩ (.bool (!q.isNone)) := fun a w hf _ => by
  simp [execOp, hf.ev hx, hf.ev hy, eqGuard, run_neq_pointer_nil w t q (pointee_of h)]
theorem OV.neqPS {q : Addr} (hx : ev L x = some (.pointer (some q))) (hy : ev L y = some (.pointer (some q))) (h : P.underlying t = some (.pointer u)) (hi : (P.info? u).isSome = true) : OV P C L H ⟨d, .binOp .neq t x y t', ty, p, e, g⟩ (.bool false) := fun a w hf _ => by
  obtain ⟨j, hj⟩ := Option.isSome_iff_exists.1 hi
  simp [execOp, hf.ev hx, hf.ev hy, eqGuard, run_neq_ptr_same w q h hj]
theorem OV.toUnsafe {b T : Nat} {cs : List Value} {fr : Nat × Nat} {src dst : TypeId} (hx : ev L x = some (.pointer (some ⟨b, 0, none⟩))) (hb : At C H b (.cells cs.toArray T fr)) (hs : P.underlying src = some (.pointer u)) (hd : P.underlying dst = some .unsafePointer)
    (hi : ((P.info? u).map (fun i => i.size != 0)) = some true) (hn : Nat.blt 0 cs.length = true) : OV P C L H ⟨d, .convert src dst x, ty, p, e, g⟩ (.pointer (some ⟨b, 0, none⟩)) := fun a w hf hp => by
  obtain ⟨j, hj, hz⟩ := Option.map_eq_some_iff.1 hi
  have hsh : w.shape? b = some (T, cs.length) := by simp [World.shape?, hb w hp]
  simp only [execOp, hf.ev hx, Sem.run_bind]
  rw [run_to_unsafe w ⟨b, 0, none⟩ hs hd hj (by simpa using hz) hsh (by simpa using (Nat.blt_eq ▸ hn : 0 < cs.length))]
  rfl
theorem OV.fromUnsafe {b T n : Nat} {cs : List Value} {fr : Nat × Nat} {src dst : TypeId} (hx : ev L x = some (.pointer (some ⟨b, 0, none⟩))) (hb : At C H b (.cells cs.toArray T fr)) (hs : P.underlying src = some .unsafePointer) (hd : P.underlying dst = some (.pointer u))
    (hi : (P.info? u).isSome = true) (hl : liesAt P P.depth T (n / P.cellsOf T) 0 u 1 = true) (hn : cs.length = n := by rfl) : OV P C L H ⟨d, .convert src dst x, ty, p, e, g⟩ (.pointer (some ⟨b, 0, none⟩)) := fun a w hf hp => by
  obtain ⟨j, hj⟩ := Option.isSome_iff_exists.1 hi
  have hsh : w.shape? b = some (T, n) := by simp [World.shape?, hb w hp, hn]
  simp only [execOp, hf.ev hx, Sem.run_bind]
  rw [run_from_unsafe w ⟨b, 0, none⟩ hs hd hj hsh hl]
  rfl
theorem OV.noEscape {f : FuncId} {fn : Func} {ats : Array TypeId} {v : Value} (hx : ev L x = some v) (hf' : P.funcs[f]? = some fn) (hname : (fn.name == "runtime.NumGoroutine") = false) (hb : fn.body.isNone = true) (hn : Extern.findNext fn = none) (he : Extern.find fn = some Extern.AbiNoEscape.same) :
    OV P C L H ⟨d, .call ⟨.value (.func f), #[x], ats⟩, ty, p, e, g⟩ v := fun a w hf _ => by
  have hr : (callFunc f #[a.eval x]).run P w = .ok (.value v) w := by
    rw [run_callFunc_extern hf' hname hb hn he, hf.ev hx, run_noEscape]; rfl
  simp [execOp, resolve, Act.eval, invoke, Deferred.ofValue]
  simpa [Act.eval] using hr
end ov

/-! ### the builder -/
/-- A strings.Builder (type T, its bytes of type e) in block b, which holds the bytes l. -/
def bldP (T e : TypeId) (b : Nat) (l : List UInt8) (w : World) (F : List Nat) : Prop :=
  ∃ q v, (q = .pointer none ∨ q = .pointer (some ⟨b, 0, none⟩)) ∧ F = b :: v.ownBlock.toList ∧ w.heap[b]? = some (.cells [q, v].toArray T (0, 0)) ∧ w.ownsRow 0 e 1 v l.length (l.flatMap byteC)
theorem bldP_keeps (T e : TypeId) (b : Nat) (l : List UInt8) : Keeps (bldP T e b l) := by
  rintro w w' F ⟨q, v, hq, rfl, hb, h1, hr⟩ hk
  refine ⟨q, v, hq, rfl, by rw [hk b (by simp)]; exact hb, h1, ?_⟩
  rcases hr with hr | ⟨g, cap, cur, rfl, h2, hg, h3⟩
  · exact .inl hr
  · exact .inr ⟨g, cap, cur, rfl, h2, by rw [hk g (by simp [Value.ownBlock])]; exact hg, h3⟩
def bld (T e : TypeId) (b : Nat) (l : List UInt8) : HA := .gen (bldP T e b l) (bldP_keeps T e b l)
variable {T e' : TypeId} {b : Nat} {l : List UInt8} {q v : Value} {w : World} {F : List Nat} {A : List HA}
theorem Own.openBld (h : Own w (bld T e' b l :: A) F) : ∃ q v, (q = .pointer none ∨ q = .pointer (some ⟨b, 0, none⟩)) ∧ Own w (.blk b (.cells [q, v].toArray T (0, 0)) :: .row v e' 1 l.length (l.flatMap byteC) :: A) F := by
  obtain ⟨F1, F2, rfl, ⟨q, v, hq, rfl, hb, hr⟩, h2⟩ := h
  exact ⟨q, v, hq, [b], v.ownBlock.toList ++ F2, by simp, ⟨rfl, hb⟩, v.ownBlock.toList, F2, rfl, ⟨rfl, hr⟩, h2⟩
theorem Own.closeBld (hq : q = .pointer none ∨ q = .pointer (some ⟨b, 0, none⟩)) (h : Own w (.blk b (.cells [q, v].toArray T (0, 0)) :: .row v e' 1 l.length (l.flatMap byteC) :: A) F) : Own w (bld T e' b l :: A) F := by
  obtain ⟨F1, F2, rfl, ⟨rfl, hb⟩, F3, F4, rfl, ⟨rfl, hr⟩, h2⟩ := h
  exact ⟨b :: v.ownBlock.toList, F4, by simp, ⟨q, v, hq, rfl, hb, hr⟩, h2⟩
theorem Hp.closeBld (hq : q = .pointer none ∨ q = .pointer (some ⟨b, 0, none⟩)) (h : Hp C (.blk b (.cells [q, v].toArray T (0, 0)) :: .row v e' 1 l.length (l.flatMap byteC) :: A) w) : Hp C (bld T e' b l :: A) w := by
  obtain ⟨F, h1, h2⟩ := h.own
  exact ⟨h.os, h.tape, h.output, h.size, h.keep, h.ro, F, h1.closeBld hq, h2⟩
theorem WL.asBld (e' : TypeId) (h : WL P ops Q C L (bld T e' b [] :: H) rest) : WL P ops Q C L (.blk b (.cells [.pointer none, .slice none 0 0].toArray T (0, 0)) :: H) rest := fun a w hf hp =>
  h a w hf (Hp.closeBld (q := .pointer none) (v := .slice none 0 0) (.inl rfl) (by
    have h1 := hp.nilRow e' 1 byteC
    exact h1.pick [1, 0] rfl |> fun h2 => by
      obtain ⟨F, k1, k2, k3⟩ := hp.own
      obtain ⟨F1, F2, rfl, hb, hA⟩ := k1
      exact ⟨hp.os, hp.tape, hp.output, hp.size, hp.keep, hp.ro, F1 ++ F2, ⟨F1, F2, rfl, hb, [], F2, rfl, ⟨rfl, World.ownsRow_nil w 0 e' 1⟩, hA⟩, k2, k3⟩))
section does
variable {f : FuncId} {args : List Value} {R : List (Nat × Obj)} {S : Out → Prop} {r : Value} {A' : List HA}
theorem Does.openBld (h : ∀ q v, (q = .pointer none ∨ q = .pointer (some ⟨b, 0, none⟩)) → Does P f args R (.blk b (.cells [q, v].toArray T (0, 0)) :: .row v e' 1 l.length (l.flatMap byteC) :: A) S) : Does P f args R (bld T e' b l :: A) S := fun w M hO hn hl hR => by
  obtain ⟨q, v, hq, hO'⟩ := hO.openBld
  exact h q v hq w M hO' hn hl hR
theorem Does.closeBld (h : Does P f args R A (fun o => ∃ q v, (q = .pointer none ∨ q = .pointer (some ⟨b, 0, none⟩)) ∧ o = .ret r (.blk b (.cells [q, v].toArray T (0, 0)) :: .row v e' 1 l.length (l.flatMap byteC) :: A'))) : Does P f args R A (Ret r (bld T e' b l :: A')) := fun w M hO hn hl hR => by
  refine (h w M hO hn hl hR).mono ?_
  rintro en w' ⟨H', hS, hp⟩
  rcases hS with ⟨r, rfl, q, v, hq, ho⟩ | ⟨c, rfl, q, v, hq, ho⟩
  · cases ho
    exact ⟨_, .inl ⟨_, rfl, rfl⟩, hp.closeBld hq⟩
  · cases ho
end does
end Go.Proofs.YtlfolgbaageknaaDoor
