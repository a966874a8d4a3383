/-
  Merged: Gww, Gwf, Gwx, FlowB, Gwg, Gwr, Gws, Gwt, Gwe, Gwb, Gwl, Gwi.
-/
import Derived.Great.Walk
import Derived.Laws.Strings2
import Derived.OrdersHeld
import Derived.LoopN
import Derived.Laws.BytesString
import Derived.Laws.BitsAllLaws
import Derived.Maps.AppendAt
import Derived.Deep.DeepAppendWide
import Derived.Laws.OwnMore
import Derived.Lib.AppendStr
import Derived.Laws.StructEq
import Derived.Lib.Builder
import Derived.Laws.Pointers
import Derived.Laws.Externs
import Derived.Test.YtohnchdnkbadaaaDoorPa0
namespace Go.Proofs.YtohnchdnkbadaaaDoor
open Go Go.RowKit
variable {P : Program} {ops : Array Oper} {Q : Exit → Act → World → Prop} {C : Cx} {L : Sl} {H : List HA} {rest : List Oper} {o : Oper}
def MV (P : Program) (C : Cx) (L : Sl) (H : List HA) (o : Oper) (Z : Obj) (f : Nat → Value) : Prop := ∀ a w, Fr C L a → Hp C H w → (execOp a.eval o).run P w = .ok (.value (f w.heap.size)) (w.alloc Z)
theorem WL.make {Z : Obj} {f : Nat → Value} {d : Nat} (hv : MV P C L H o Z f) (hw : r9 ops L o = some true) (hd : o.dst = some d) (hn : Nat.blt d C.n = true) (h : ∀ b, WL P ops Q C ((d, f b) :: L) (.blk b Z :: H) rest) : WL P ops Q C L H (o :: rest) := by
 intro a w hf hp
 refine w8 (m3 hf hw) ?_
 unfold Oper.wp
 rw [hv a w hf hp]
 simp only [Oper.upon, hd]
 exact h _ _ _ (hf.put hn _) (hp.alloc Z)
section mv
variable {x y z : Operand} {u v : Value} {t t' ty e' : TypeId} {d : Option Tmp} {p : String} {e : Array Edge} {g : Option (Nat × Bool)} {n m : Int} {k k' : IntKind} {b off sz : Nat}
def abm (P : Program) (t : TypeId) : Option (List Value) := ((P.info? t).bind (·.zero)).map (·.cells.toList)
theorem MV.alloc {cs : List Value} (hz : abm P t = some cs) : MV P C L H ⟨d, .alloc t, ty, p, e, g⟩ (.cells cs.toArray t (0, 0)) (fun b => .pointer (some ⟨b, 0, none⟩)) := fun a w _ _ => by
 unfold abm at hz
 cases hq : P.info? t with
 | none => simp [hq] at hz
 | some i =>
  cases hz2 : i.zero with
  | none => simp [hq, hz2] at hz
  | some zv =>
   simp only [hq, hz2, Option.bind_some, Option.map_some, Option.some.injEq] at hz
   subst hz
   have hzr : (zeroValue t).run P w = .ok zv w := by simp [zeroValue, typeInfo, hq, hz2]
   simp only [execOp, Instr.alloc, Sem.run_bind, hzr, Result.andThen_ok, Sem.run_pure, newVar, newRow, newObj, Array.toArray_toList]
   rfl
theorem MV.box {cs : List Value} (hx : ev L x = some v) (hc : v.cells = cs.toArray) : MV P C L H ⟨d, .box t x, ty, p, e, g⟩ (.cells cs.toArray t (0, 0)) (fun b => .pointer (some ⟨b, 0, none⟩)) := fun a w hf _ => by
 simp only [execOp, Instr.box, hf.ev hx, hc, Sem.run_bind, Sem.run_pure, newVar, newRow, newObj]
 rfl
def evs (L : Sl) : List Operand → Option (List Value)
 | [] => some []
 | x :: r => match ev L x, evs L r with
  | some v, some vs => some (v :: vs)
  | _, _ => none
theorem afw {a : Act} (hf : Fr C L a) : ∀ {xs : List Operand} {vs : List Value}, evs L xs = some vs → xs.map a.eval = vs
 | [], vs, h => by simp [evs] at h; simp [h]
 | x :: r, vs, h => by
  unfold evs at h
  split at h
  ·rename_i v ws h1 h2
   simp only [Option.some.injEq] at h
   rw [← h, List.map_cons, hf.ev h1, afw hf h2]
  ·cases h
def evp (L : Sl) : List (Nat × Operand) → Option (List (Nat × Value))
 | [] => some []
 | x :: r => match ev L x.2, evp L r with
  | some v, some vs => some ((x.1, v) :: vs)
  | _, _ => none
theorem al1 {a : Act} (hf : Fr C L a) : ∀ {xs : List (Nat × Operand)} {vs : List (Nat × Value)}, evp L xs = some vs → xs.map (fun q => (q.1, a.eval q.2)) = vs
 | [], vs, h => by simp [evp] at h; simp [h]
 | x :: r, vs, h => by
  unfold evp at h
  split at h
  ·rename_i v ws h1 h2
   simp only [Option.some.injEq] at h
   rw [← h, List.map_cons, hf.ev h1, al1 hf h2]
  ·cases h
theorem OV.build {ps : List (Nat × Operand)} {vs : List (Nat × Value)} {cs : List Value} (hx : evp L ps = some vs) (hb : P.built t vs = some cs.toArray) : OV P C L H ⟨d, .build t ps.toArray, ty, p, e, g⟩ (.agg cs.toArray) := fun a w hf _ => by
 have h1 := al1 hf hx
 have h2 : (ps.toArray.map fun (i, x) => (i, a.eval x)).toList = vs := by simpa using h1
 have h3 := run_build (P := P) w t (ps.toArray.map fun (i, x) => (i, a.eval x)) cs.toArray (by rw [h2]; exact hb)
 simp only [execOp, Sem.run_bind, h3, Result.andThen_ok, Sem.run_pure]
theorem MV.buildSlice {ps : List (Nat × Operand)} {vs : List (Nat × Value)} {cs : List Value} {len : Nat} (hx : evp L ps = some vs) (hs : slB P t e' sz = true) (hb : P.builtSlice e' len vs = some cs.toArray) :
  MV P C L H ⟨d, .buildSlice t len ps.toArray, ty, p, e, g⟩ (.cells cs.toArray e' (0, 0)) (fun b => .slice (some ⟨b, 0, none⟩) len len) := fun a w hf _ => by
 have h1 := al1 hf hx
 have h2 : (ps.toArray.map fun (i, x) => (i, a.eval x)).toList = vs := by simpa using h1
 have hu := (aau hs).1
 unfold Program.builtSlice at hb
 cases hie : P.info? e' with
 | none => simp [hie] at hb
 | some ie =>
  simp only [hie] at hb
  cases hz : ie.zero with
  | none => simp [hz] at hb
  | some z =>
   simp only [hz] at hb
   by_cases hc : len * ie.size > 2 ^ 24 ∨ len * ie.size = 0
   ·simp [hc] at hb
   ·rw [if_neg hc] at hb
    have hc1 : ¬ len * ie.size > 2 ^ 24 := fun h' => hc (.inl h')
    have hc2 : ¬ len * ie.size = 0 := fun h' => hc (.inr h')
    have hfill : Instr.fill (fun i => some (i * ie.size, ie.size)) ((Array.range (len * ie.size)).map (z.cells[· % z.cells.size]!)) (ps.toArray.map fun (i, x) => (i, a.eval x)).toList = some cs.toArray := by rw [h2]; exact hb
    have hzr : (zeroValue e').run P w = .ok z w := by simp [zeroValue, typeInfo, hie, hz]
    have hsr : (sizeOf e').run P w = .ok ie.size w := by simp [sizeOf, typeInfo, hie]
    simp only [execOp, Instr.buildSlice, Sem.run_bind, r8 hu, Result.andThen_ok, hsr, if_neg hc1, if_neg hc2, hzr, Sem.run_pure, hfill, newRow, newObj]
    rfl
end mv
def OpK (P : Program) (o : Oper) (Q : Exit → Act → World → Prop) (C : Cx) (L : Sl) (H : List HA) (L' : Sl) (H' : List HA) : Prop :=
 ∀ K : Act → World → Prop, (∀ a w, Fr C L' a → Hp C H' w → K a w) → ∀ a w, Fr C L a → Hp C H w → o.wp P a w K Q
theorem WL.op {L' : Sl} {H' : List HA} (hop : OpK P o Q C L H L' H') (hw : r9 ops L o = some true) (h : WL P ops Q C L' H' rest) : WL P ops Q C L H (o :: rest) :=
 fun a w hf hp => w8 (m3 hf hw) (hop _ h a w hf hp)
theorem OpK.val {v : Value} {d : Nat} (hv : OV P C L H o v) (hd : o.dst = some d) (hn : Nat.blt d C.n = true) : OpK P o Q C L H ((d, v) :: L) H := by
 intro K hK a w hf hp
 unfold Oper.wp
 rw [hv a w hf hp]
 simp only [Oper.upon, hd]
 exact hK _ _ (hf.put hn v) hp
theorem OpK.store {x y : Operand} {t ty T : TypeId} {p : String} {e : Array Edge} {g : Option (Nat × Bool)} {b off : Nat} {v : Value} {cs vs cs' : List Value} (i : Nat)
  (hx : ev L x = some (.pointer (some ⟨b, off, none⟩))) (hy : ev L y = some v) (hi : H[i]? = some (.blk b (.cells cs.toArray T (0, 0)))) (hv : v.cells = vs.toArray) (hs : s8 P t vs.length = true)
  (hfit : off + vs.length ≤ cs.length) (h1 : vs.all (·.oneCell') = true) (he : cs.take off ++ vs ++ cs.drop (off + vs.length) = cs') :
  OpK P ⟨none, .store t x y, ty, p, e, g⟩ Q C L H L (H.set i (.blk b (.cells cs'.toArray T (0, 0)))) := by
 intro K hK a w hf hp
 have hb := hp.blk hi
 have hrun := run_storeCells_at (P := P) b off T vs 0 cs.toArray w hb (by simpa using hfit) (by simpa using h1)
 simp only [Nat.add_zero] at hrun
 rw [he] at hrun
 have hst : (storeVar t ⟨b, off, none⟩ v).run P w = .ok () (w.setRow b cs'.toArray) := by
  simp only [storeVar, Sem.run_bind, ab5 hs, Result.andThen_ok, hv, List.size_toArray, ne_eq, not_true_eq_false, if_false, hrun]
 unfold Oper.wp
 simp only [execOp, hf.ev hx, hf.ev hy, Instr.storeAt, Instr.sureAddr, Sem.run_bind, Sem.run_pure, Result.andThen_ok, hst, Oper.upon]
 refine hK _ _ (hf.put0 _) (hp.set hi rfl rfl rfl ?_ (fun k hk => setRow_other w b k _ hk) (aab hb))
 simp [World.setRow]
theorem WL.store {x y : Operand} {t ty T : TypeId} {p : String} {e : Array Edge} {g : Option (Nat × Bool)} {b off : Nat} {v : Value} {cs vs cs' : List Value} (i : Nat)
  (hx : ev L x = some (.pointer (some ⟨b, off, none⟩))) (hy : ev L y = some v) (hi : H[i]? = some (.blk b (.cells cs.toArray T (0, 0)))) (hv : v.cells = vs.toArray) (hs : s8 P t vs.length = true)
  (hfit : off + vs.length ≤ cs.length) (h1 : vs.all (·.oneCell') = true) (he : cs.take off ++ vs ++ cs.drop (off + vs.length) = cs') (hw : r9 ops L ⟨none, .store t x y, ty, p, e, g⟩ = some true)
  (h : WL P ops Q C L (H.set i (.blk b (.cells cs'.toArray T (0, 0)))) rest) : WL P ops Q C L H (⟨none, .store t x y, ty, p, e, g⟩ :: rest) :=
 WL.op (OpK.store i hx hy hi hv hs hfit h1 he) hw h
theorem WL.storeA {x y : Operand} {t ty T : TypeId} {p : String} {e : Array Edge} {g : Option (Nat × Bool)} {b n off : Nat} {v : Value} {f : Nat → Value} (i : Nat)
  (hx : ev L x = some (.pointer (some ⟨b, off, none⟩))) (hy : ev L y = some v) (hi : H[i]? = some (.blk b (.cells (arr n f).toArray T (0, 0)))) (hv : v.cells = #[v]) (hs : s8 P t 1 = true)
  (hfit : off < n) (h1 : v.oneCell' = true) (hw : r9 ops L ⟨none, .store t x y, ty, p, e, g⟩ = some true)
  (h : WL P ops Q C L (H.set i (.blk b (.cells (arr n (fun j => if j = off then v else f j)).toArray T (0, 0)))) rest) : WL P ops Q C L H (⟨none, .store t x y, ty, p, e, g⟩ :: rest) := by
 refine WL.store (vs := [v]) i hx hy hi hv hs (by rw [d7]; simp; omega) (by simp [h1]) ?_ hw h
 have : (arr n f).set off v = arr n (fun j => if j = off then v else f j) := ays
 rw [← this, List.set_eq_take_append_cons_drop, d7, if_pos hfit]
 simp
inductive Out where
 | ret (v : Value) (H : List HA)
 | pan (c : List PanicEntry) (H : List HA)
def ahw (S : Out → Prop) (e : Ending) (H' : List HA) : Prop := (∃ v, e = .returned v ∧ S (.ret v H')) ∨ (∃ c, e = .panicked c ∧ S (.pan c H'))
def c8 (P : Program) (f : FuncId) (args : List Value) (R : List (Nat × Obj)) (A : List HA) (S : Out → Prop) : Prop :=
 ∀ w M, Own w A M → M.Nodup → (∀ k ∈ M, k < w.heap.size) → (∀ p ∈ R, w.heap[p.1]? = some p.2 ∧ p.1 ∉ M) → Calls P f args.toArray w (fun e w' => ∃ H', ahw S e H' ∧ Hp ⟨0, [], w, M, R⟩ H' w')
def Ret (v : Value) (A' : List HA) : Out → Prop := fun o => o = .ret v A'
def ROk (C : Cx) (Rest : List HA) : List (Nat × Obj) → Prop
 | [] => True
 | p :: r => ((∃ i : Nat, Rest[i]? = some (HA.blk p.1 p.2)) ∨ p ∈ C.R) ∧ ROk C Rest r
theorem ROk.all {Rest : List HA} : ∀ {R : List (Nat × Obj)}, ROk C Rest R → ∀ p ∈ R, (∃ i : Nat, Rest[i]? = some (HA.blk p.1 p.2)) ∨ p ∈ C.R
 | [], _, p, hp => by cases hp
 | q :: r, h, p, hp => by
  rcases List.mem_cons.1 hp with rfl | hp
  ·exact h.1
  ·exact h.2.all p hp
theorem Own.mem_blk {w : World} : ∀ {H : List HA} {F : List Nat}, Own w H F → ∀ {i b : Nat} {ob : Obj}, H[i]? = some (.blk b ob) → b ∈ F
 | [], _, _, i, b, ob, h => by simp at h
 | x :: H, F, ⟨F1, F2, hF, h1, h2⟩, i, b, ob, h => by
  cases i with
  | zero =>
   simp at h
   subst h
   rw [hF, h1.1]; simp
  | succ i => rw [hF]; exact List.mem_append.2 (.inr (h2.mem_blk (i := i) (by simpa using h)))
theorem atn {f : FuncId} {args : List Value} {R : List (Nat × Obj)} {A Rest : List HA} {S : Out → Prop} {w : World} (hc : c8 P f args R A S) (hp : Hp C (A ++ Rest) w) (hR : ROk C Rest R) :
  Calls P f args.toArray w (fun e w' => ∃ H', ahw S e H' ∧ Hp C (H' ++ Rest) w') := by
 obtain ⟨F, h1, h2, h3⟩ := hp.own
 obtain ⟨F1, F2, rfl, hA, hB⟩ := h1.split
 have hn := List.nodup_append.1 h2
 refine (hc w F1 hA hn.1 (fun k hk => (h3 k (List.mem_append.2 (.inl hk))).1) ?_).mono ?_
 ·intro q hq
  rcases hR.all q hq with ⟨i, hi⟩ | hm
  ·refine ⟨hp.blk (i := A.length + i) (by rw [List.getElem?_append_right (by omega)]; simpa using hi), fun hm => ?_⟩
   exact hn.2.2 q.1 hm q.1 (hB.mem_blk hi) rfl
  ·refine ⟨hp.old hm, fun hk => ?_⟩
   have hro := hp.ro q hm
   have hlt := b6 hro.1
   rcases (h3 q.1 (List.mem_append.2 (.inl hk))).2 with h4 | h4
   ·omega
   ·exact hro.2 h4
 ·rintro e w' ⟨H', hS, hh⟩
  exact ⟨H', hS, hp.call hB h2 h3 hh⟩
theorem adn {a : Act} {f : FuncId} {xs : List Operand} {ats : Array TypeId} {d : Option Tmp} {ty : TypeId} {p : String} {e : Array Edge} {g : Option (Nat × Bool)} {w : World} {vs : List Value} (he : o6 P f = true) (hf : Fr C L a) (hx : evs L xs = some vs) :
  (execOp a.eval ⟨d, .call ⟨.value (.func f), xs.toArray, ats⟩, ty, p, e, g⟩).run P w = .ok (.enter f vs.toArray) w := by
 rw [avv _ _ _ _ _ _ _ _ _ _ he]
 have : xs.toArray.map a.eval = vs.toArray := by rw [List.map_toArray, afw hf hx]
 rw [this]
section call
variable {f : FuncId} {xs : List Operand} {ats : Array TypeId} {d : Nat} {ty : TypeId} {p : String} {e : Array Edge} {g : Option (Nat × Bool)} {vs : List Value} {R : List (Nat × Obj)} {A Rest : List HA} {S : Out → Prop} {v : Value} {A' : List HA}
theorem WL.callS (he : o6 P f = true) (hx : evs L xs = some vs) (hc : c8 P f vs R A S) (hH : H = A ++ Rest) (hR : ROk C Rest R) (hw : r9 ops L ⟨some d, .call ⟨.value (.func f), xs.toArray, ats⟩, ty, p, e, g⟩ = some true) (hn : Nat.blt d C.n = true)
  (h : ∀ r H', S (.ret r H') → WL P ops Q C ((d, r) :: L) (H' ++ Rest) rest) (hpan : ∀ c H', S (.pan c H') → QX Q (.panic c) C L (H' ++ Rest)) : WL P ops Q C L H (⟨some d, .call ⟨.value (.func f), xs.toArray, ats⟩, ty, p, e, g⟩ :: rest) := by
 intro a w hf hp
 subst hH
 refine w8 (m3 hf hw) ?_
 unfold Oper.wp
 rw [adn he hf hx]
 simp only [Oper.upon]
 refine (atn hc hp hR).mono ?_
 rintro en w' ⟨H', hS, hh⟩
 rcases hS with ⟨r, rfl, hS⟩ | ⟨c, rfl, hS⟩
 ·exact h r H' hS _ _ (hf.put hn r) hh
 ·exact hpan c H' hS _ _ hf hh
theorem WL.call (he : o6 P f = true) (hx : evs L xs = some vs) (hc : c8 P f vs R A (Ret v A')) (hH : H = A ++ Rest) (hR : ROk C Rest R) (hw : r9 ops L ⟨some d, .call ⟨.value (.func f), xs.toArray, ats⟩, ty, p, e, g⟩ = some true) (hn : Nat.blt d C.n = true)
  (h : WL P ops Q C ((d, v) :: L) (A' ++ Rest) rest) : WL P ops Q C L H (⟨some d, .call ⟨.value (.func f), xs.toArray, ats⟩, ty, p, e, g⟩ :: rest) :=
 WL.callS he hx hc hH hR hw hn (fun r H' hS => by cases hS; exact h) (fun c H' hS => by cases hS)
theorem c8.ofPure (h : aek P f vs.toArray v) : c8 P f vs [] [] (Ret v []) := fun w M hO hn _ _ => by
 have : M = [] := hO
 subst this
 refine (h w).mono ?_
 rintro en w' ⟨rfl, hb⟩
 exact ⟨[], .inl ⟨v, rfl, rfl⟩, (Hp.start 0 [] w (H := []) rfl hn (fun k hk => by cases hk) (fun p hp => by cases hp)).below hb⟩
theorem c8.weak {S' : Out → Prop} (h : c8 P f vs R A S) (hs : ∀ o, S o → S' o) : c8 P f vs R A S' := fun w M hO hn hl hr => (h w M hO hn hl hr).mono fun en w' ⟨H', hS, hh⟩ => ⟨H', by
  rcases hS with ⟨r, e1, hS⟩ | ⟨c, e1, hS⟩
  ·exact .inl ⟨r, e1, hs _ hS⟩
  ·exact .inr ⟨c, e1, hs _ hS⟩, hh⟩
end call
theorem WL.panic {x : Operand} {ty : TypeId} {p : String} {e : Array Edge} {g : Option (Nat × Bool)} {d : Option Tmp} {t : TypeId} {v : Value} (hx : ev L x = some (.iface t v)) (hw : r9 ops L ⟨d, .panic x, ty, p, e, g⟩ = some true)
  (h : QX Q (.panic [{ v := .iface t v, recovered := false }]) C L H) : WL P ops Q C L H (⟨d, .panic x, ty, p, e, g⟩ :: rest) := by
 intro a w hf hp
 refine w8 (m3 hf hw) ?_
 unfold Oper.wp
 have : (execOp a.eval ⟨d, .panic x, ty, p, e, g⟩).run P w = .halt (.panic (.iface t v)) w := by
  simp [execOp, hf.ev hx, Instr.panic, goPanic]
 rw [this]
 exact h _ _ hf hp
def d8 (P : Program) (fn : Func) (C : Cx) (L : Sl) (H : List HA) (v : Value) : Prop := ∀ a w, Fr C L a → Hp C H w → (results fn a.tmps).run P w = .ok v w
def awi (Q : Exit → Act → World → Prop) : Prop := ∀ c a d v w, Q (.panic c) (a.put d v) w → Q (.panic c) a w
structure Ends (P : Program) (fn : Func) (C : Cx) (S : Out → Prop) (Q : Exit → Act → World → Prop) : Prop where
 ret : ∀ {L : Sl} {H H' : List HA} {v : Value} (idx : List Nat), x5 idx = true → sel H idx = H' → S (.ret v H') → d8 P fn C L H v → QX Q .ret C L H
 norm : ∀ {L : Sl} {H H' : List HA} {v : Value} (idx : List Nat), x5 idx = true → sel H idx = H' → S (.ret v H') → d8 P fn C L H v → QX Q .normal C L H
 pan : ∀ {L : Sl} {H H' : List HA} {c : List PanicEntry} (idx : List Nat), x5 idx = true → sel H idx = H' → S (.pan c H') → QX Q (.panic c) C L H
theorem QX.pick {e : Exit} (idx : List Nat) (hi : x5 idx = true) {H' : List HA} (he : sel H idx = H') (h : QX Q e C L H') : QX Q e C L H := fun a w hf hp => h a w hf (he ▸ hp.pick idx hi)
theorem j4 {b : Bool} {A B : Prop} (h : if b = true then A else B) (hb : b = true) : A := by rw [if_pos hb] at h; exact h
theorem i9 {b : Bool} {A B : Prop} (h : if b = true then A else B) (hb : b = false) : B := by rw [if_neg (by simp [hb])] at h; exact h
theorem bT {b : Bool} {v : Bool} (hb : b = true) : Value.bool v = Value.bool (b && v) := by rw [hb]; rfl
theorem bF {b : Bool} {v : Bool} (hb : b = false) : Value.bool false = Value.bool (b && v) := by rw [hb]; rfl
theorem oT {b : Bool} {v : Bool} (hb : b = true) : Value.bool true = Value.bool (b || v) := by rw [hb]; rfl
theorem oF {b : Bool} {v : Bool} (hb : b = false) : Value.bool v = Value.bool (b || v) := by rw [hb]; rfl
theorem c6 {f : FuncId} {fn : Func} {c : Code} {args : List Value} {R : List (Nat × Obj)} {A : List HA} {S : Out → Prop} {L0 : Sl} {n : Nat} (hf : P.funcs[f]? = some fn) (hb : fn.body = some c) (hnt : fn.ntmps = n) (hl : Nat.ble args.length n = true)
  (hL : (List.range args.length).zip args = L0)
  (h : ∀ w0 M Q, Ends P fn ⟨n, [], w0, M, R⟩ S Q → WC P c Q ⟨n, [], w0, M, R⟩ L0 A) : c8 P f args R A S := by
 intro w M hO hn hlt hR
 subst hnt
 have hle : args.length ≤ fn.ntmps := Nat.le_of_ble_eq_true hl
 refine calls_of_wp hf hb ?_
 refine h w M _ ?_ _ _ ⟨rfl, ?_, ?_⟩ (Hp.start _ _ w hO hn hlt hR)
 ·refine ⟨fun idx hi he hS hr a w' hfr hp => ?_, fun idx hi he hS hr a w' hfr hp => ?_, fun idx hi he hS a w' hfr hp => ?_⟩
  ·exact ⟨hfr.defers, _, hr a w' hfr hp, _, .inl ⟨_, rfl, hS⟩, he ▸ (hp.pick idx hi).ctx⟩
  ·exact ⟨hfr.defers, _, hr a w' hfr hp, _, .inl ⟨_, rfl, hS⟩, he ▸ (hp.pick idx hi).ctx⟩
  ·exact ⟨hfr.defers, _, .inr ⟨_, rfl, hS⟩, he ▸ (hp.pick idx hi).ctx⟩
 ·simp; omega
 ·intro i v hg
  subst hL
  have hm := Sl.get_mem hg
  obtain ⟨j, hj⟩ := List.mem_iff_getElem?.1 hm
  rw [List.getElem?_zip_eq_some] at hj
  obtain ⟨h1, h2⟩ := hj
  have hij : j = i := by
   have h3 := (List.getElem?_eq_some_iff.1 h1)
   obtain ⟨h4, h5⟩ := h3
   simp at h5; exact h5
  subst hij
  have hjl : j < args.length := (List.getElem?_eq_some_iff.1 h2).1
  simp only [List.size_toArray]
  rw [Array.getElem?_append_left (by simpa using hjl)]
  simpa using h2
section res
variable {fn : Func}
theorem d8.none (hr : fn.results = #[]) : d8 P fn C L H (.tuple #[]) := fun _ _ _ _ => results_none hr _ _ _
theorem d8.one {t : Tmp} {v : Value} (hr : fn.results = #[.tmp t]) (ht : L.get t = some v) : d8 P fn C L H v := fun a w hf _ => by
 have := results_tmp hr a.tmps P w
 simpa [Array.getD_eq_getD_getElem?, hf.get _ _ ht] using this
def ak4 (tmps : Array Value) (r : ResultVar) : Sem Value := match r with
 | .tmp t => pure (tmps.getD t undef)
 | .cell q t => do loadVar t (← asAddr (tmps.getD q undef))
theorem adk (fn : Func) (tmps : Array Value) : results fn tmps = (do let vs ← fn.results.mapM (ak4 tmps); pure (if h : vs.size = 1 then vs[0] else .tuple vs)) := rfl
def RV (P : Program) (C : Cx) (L : Sl) (H : List HA) (r : ResultVar) (v : Value) : Prop := ∀ a w, Fr C L a → Hp C H w → (ak4 a.tmps r).run P w = .ok v w
theorem RV.tmp {t : Tmp} {v : Value} (ht : L.get t = some v) : RV P C L H (.tmp t) v := fun a w hf _ => by
 simp [ak4, Array.getD_eq_getD_getElem?, hf.get _ _ ht]
theorem RV.row {q : Tmp} {t T : TypeId} {b : Nat} {cs : List Value} {fr : Nat × Nat} (hq : L.get q = some (.pointer (some ⟨b, 0, none⟩))) (hb : At C H b (.cells cs.toArray T fr)) (ht : RowT P t cs.length) : RV P C L H (.cell q t) (.agg cs.toArray) := fun a w hf hp => by
 have h1 : (loadVar t ⟨b, 0, none⟩).run P w = .ok (.agg cs.toArray) w := aus (hb w hp) (by simpa using ht)
 simp [ak4, Array.getD_eq_getD_getElem?, hf.get _ _ hq, asAddr, h1]
theorem RV.cell {q : Tmp} {t T : TypeId} {b : Nat} {cs : List Value} {v : Value} {fr : Nat × Nat} (hq : L.get q = some (.pointer (some ⟨b, 0, none⟩))) (hb : At C H b (.cells cs.toArray T fr)) (hc : cs[0]? = some v) (ht : abw P t = true) : RV P C L H (.cell q t) v := fun a w hf hp => by
 have hcell : w.cell? ⟨b, 0, none⟩ = some v := by simp [World.cell?, hb w hp, hc]
 have h1 : (loadVar t ⟨b, 0, none⟩).run P w = .ok v w := by simp [loadVar, ab9 ht, hcell]
 simp [ak4, Array.getD_eq_getD_getElem?, hf.get _ _ hq, asAddr, h1]
theorem d8.of1 {r : ResultVar} {v : Value} (hr : fn.results = #[r]) (h0 : RV P C L H r v) : d8 P fn C L H v := fun a w hf hp => by
 rw [adk, hr]
 simp [h0 a w hf hp]
theorem d8.of2 {r s : ResultVar} {v u : Value} (hr : fn.results = #[r, s]) (h0 : RV P C L H r v) (h1 : RV P C L H s u) : d8 P fn C L H (.tuple #[v, u]) := fun a w hf hp => by
 rw [adk, hr]
 simp [h0 a w hf hp, h1 a w hf hp]
theorem d8.of3 {r s q : ResultVar} {v u x : Value} (hr : fn.results = #[r, s, q]) (h0 : RV P C L H r v) (h1 : RV P C L H s u) (h2 : RV P C L H q x) : d8 P fn C L H (.tuple #[v, u, x]) := fun a w hf hp => by
 rw [adk, hr]
 simp [h0 a w hf hp, h1 a w hf hp, h2 a w hf hp]
theorem d8.of4 {r s q z : ResultVar} {v u x y : Value} (hr : fn.results = #[r, s, q, z]) (h0 : RV P C L H r v) (h1 : RV P C L H s u) (h2 : RV P C L H q x) (h3 : RV P C L H z y) : d8 P fn C L H (.tuple #[v, u, x, y]) := fun a w hf hp => by
 rw [adk, hr]
 simp [h0 a w hf hp, h1 a w hf hp, h2 a w hf hp, h3 a w hf hp]
end res
end Go.Proofs.YtohnchdnkbadaaaDoor
namespace Go.Proofs.YtohnchdnkbadaaaDoor
open Go Go.RowKit
variable {P : Program} {ops : Array Oper} {Q : Exit → Act → World → Prop} {C : Cx} {H : List HA} {rest : List Oper} {o : Oper}
def y8 : List (Nat × Obj) → Nat → Option Obj
 | [], _ => none
 | p :: r, i => bif Nat.beq p.1 i then some p.2 else y8 r i
abbrev FSl := o7 → Sl
def FL (P : Program) (ops : Array Oper) (T : World → o7 → Act → Prop) (C : Cx) (L : FSl) (H : List HA) (zl : List (Nat × Obj)) (k : Nat) (l : List Oper) : Prop :=
 ∀ (A : Fam) (w0 : World), (∀ β, Fr C (L β) (A β)) → Hp C H w0 → wpFlowA P ops w0.heap.size w0 (y8 zl) (fun A => ∀ γ, T w0 γ (A γ)) l k A
variable {T : World → o7 → Act → Prop} {L : FSl} {zl : List (Nat × Obj)} {k : Nat}
theorem FL.val {v : Value} {d : Nat} (hv : ∀ β, OV P C (L β) H o v) (hz : y8 zl k = none) (hw : ∀ β, r9 ops (L β) o = some true) (hd : o.dst = some d) (hn : Nat.blt d C.n = true) (h : FL P ops T C (fun β => (d, v) :: L β) H zl (k + 1) rest) : FL P ops T C L H zl k (o :: rest) := by
 intro A w0 hf hp
 refine ⟨fun _ => v, .inr ⟨hz, v, rfl, fun β => .inl ⟨m3 (hf β) (hw β), fun w hb => ?_⟩⟩, ?_⟩
 ·rw [hv β _ w (hf β) (hp.below hb)]
  exact ⟨rfl, Below.refl _ _⟩
 ·rw [hd]; exact h _ w0 (fun β => (hf β).put hn v) hp
theorem FL.skip {d : Nat} (hz : y8 zl k = none) (hw : ∀ β, r9 ops (L β) o = some false) (hd : o.dst = some d) (hn : Nat.blt d C.n = true) (h : FL P ops T C (fun β => (d, undef) :: L β) H zl (k + 1) rest) : FL P ops T C L H zl k (o :: rest) := by
 intro A w0 hf hp
 refine ⟨fun _ => undef, .inr ⟨hz, undef, rfl, fun β => .inr ⟨m3 (hf β) (hw β), rfl⟩⟩, ?_⟩
 rw [hd]; exact h _ w0 (fun β => (hf β).put hn undef) hp
theorem FL.make {Z : Obj} {f : Nat → Value} {d : Nat} (hv : ∀ β, MV P C (L β) H o Z f) (hz : y8 zl k = some Z) (hw : ∀ β, r9 ops (L β) o = some true) (hd : o.dst = some d) (hn : Nat.blt d C.n = true) (h : FL P ops T C (fun β => (d, f (β k)) :: L β) H zl (k + 1) rest) : FL P ops T C L H zl k (o :: rest) := by
 intro A w0 hf hp
 refine ⟨fun β => f (β k), .inl ⟨Z, f, hz, rfl, fun β => ⟨m3 (hf β) (hw β), fun w hb => hv β _ w (hf β) (hp.below hb)⟩⟩, ?_⟩
 rw [hd]; exact h _ w0 (fun β => (hf β).put hn _) hp
theorem FL.call {f : FuncId} {xs : List Operand} {ats : Array TypeId} {d : Nat} {ty : TypeId} {p : String} {e : Array Edge} {g : Option (Nat × Bool)} {vs : List Value} {R : List (Nat × Obj)} {v : Value} (he : o6 P f = true) (hx : ∀ β, evs (L β) xs = some vs)
  (hc : c8 P f vs R [] (Ret v [])) (hR : ROk C H R) (hz : y8 zl k = none) (hw : ∀ β, r9 ops (L β) ⟨some d, .call ⟨.value (.func f), xs.toArray, ats⟩, ty, p, e, g⟩ = some true) (hn : Nat.blt d C.n = true)
  (h : FL P ops T C (fun β => (d, v) :: L β) H zl (k + 1) rest) : FL P ops T C L H zl k (⟨some d, .call ⟨.value (.func f), xs.toArray, ats⟩, ty, p, e, g⟩ :: rest) := by
 intro A w0 hf hp
 refine ⟨fun _ => v, .inr ⟨hz, v, rfl, fun β => .inl ⟨m3 (hf β) (hw β), fun w hb => ?_⟩⟩, ?_⟩
 ·rw [adn he (hf β) (hx β)]
  have hpw := hp.below hb
  refine (hc w [] rfl List.nodup_nil (fun k hk => by cases hk) (fun q hq => ?_)).mono ?_
  ·refine ⟨?_, by simp⟩
   rcases hR.all q hq with ⟨i, hi⟩ | hm
   ·exact hpw.blk hi
   ·exact hpw.old hm
  ·rintro en w' ⟨H', hS, hh⟩
   rcases hS with ⟨r, rfl, hS⟩ | ⟨c, rfl, hS⟩
   ·cases hS; exact ⟨rfl, hh.toBelow⟩
   ·cases hS
 ·exact h _ w0 (fun β => (hf β).put hn v) hp
theorem FL.set {l : List Oper} (i : Nat) {v u : Value} (hL : ∀ β, (L β).get i = some v) (hv : v = u) (h : FL P ops T C (fun β => (i, u) :: L β) H zl k l) : FL P ops T C L H zl k l := fun A w0 hf hp => h A w0 (fun β => ⟨(hf β).defers, (hf β).size, fun j x hj => by
 unfold Sl.get at hj
 cases hb : Nat.beq i j with
 | true =>
  obtain rfl : i = j := Nat.eq_of_beq_eq_true hb
  simp only [hb, cond_true, Option.some.injEq] at hj
  rw [← hj, ← hv]; exact (hf β).get _ _ (hL β)
 | false => simp only [hb, cond_false] at hj; exact (hf β).get _ _ hj⟩) hp
theorem FL.weak {l : List Oper} {L' : FSl} (hs : ∀ β, Sub (L β) (L' β)) (h : FL P ops T C L' H zl k l) : FL P ops T C L H zl k l := fun A w0 hf hp => h A w0 (fun β => (hf β).sub (hs β)) hp
theorem FL.split {l : List Oper} (b : Bool) (ht : b = true → FL P ops T C L H zl k l) (hf : b = false → FL P ops T C L H zl k l) : FL P ops T C L H zl k l := by
 cases b
 ·exact hf rfl
 ·exact ht rfl
theorem FL.nil (h : ∀ (A : Fam) (w0 : World), (∀ β, Fr C (L β) (A β)) → Hp C H w0 → ∀ γ, T w0 γ (A γ)) : FL P ops T C L H zl k [] := fun A w0 hf hp => h A w0 hf hp
theorem aiz {B : Nat} {w0 : World} {Zs : Nat → Option Obj} {Qf : Fam → Prop} : ∀ {l1 l2 : List Oper} {k : Nat} {A : Fam}, wpFlowA P ops B w0 Zs (fun A => wpFlowA P ops B w0 Zs Qf l2 (k + l1.length) A) l1 k A → wpFlowA P ops B w0 Zs Qf (l1 ++ l2) k A
 | [], _, _, _, h => h
 | o :: l1, l2, k, A, ⟨v, hv, h⟩ => ⟨v, hv, aiz (by rw [show k + 1 + l1.length = k + (o :: l1).length by simp; omega]; exact h)⟩
theorem FL.cut {l : List Oper} (n : Nat) (hl : Nat.ble n l.length = true) (Lj : FSl) (hj : FL P ops T C Lj H zl (k + n) (l.drop n)) (h : ∀ T' : World → o7 → Act → Prop, (∀ (A : Fam) (w0 : World), (∀ β, Fr C (Lj β) (A β)) → Hp C H w0 → ∀ γ, T' w0 γ (A γ)) → FL P ops T' C L H zl k (l.take n)) : FL P ops T C L H zl k l := by
 have hn : n ≤ l.length := Nat.le_of_ble_eq_true hl
 intro A w0 hf hp
 have hjoin : ∀ (l1 : List Oper) (k0 : Nat) (A : Fam), wpFlowA P ops w0.heap.size w0 (y8 zl) (fun A => ∀ β, Fr C (Lj β) (A β)) l1 k0 A → wpFlowA P ops w0.heap.size w0 (y8 zl) (fun A => wpFlowA P ops w0.heap.size w0 (y8 zl) (fun A => ∀ γ, T w0 γ (A γ)) (l.drop n) (k + n) A) l1 k0 A := by
  intro l1
  induction l1 with
  | nil => intro k0 A h; exact hj A w0 h hp
  | cons o l1 ih => intro k0 A ⟨v, hv, h⟩; exact ⟨v, hv, ih _ _ h⟩
 have h0 : wpFlowA P ops w0.heap.size w0 (y8 zl) (fun A => ∀ β, Fr C (Lj β) (A β)) (l.take n) k A := by
  have := h (fun w0' γ a => w0' = w0 → Fr C (Lj γ) a) (fun A w0' hf' _ γ _ => hf' γ) A w0 hf hp
  have hm : ∀ (l1 : List Oper) (k0 : Nat) (A : Fam), wpFlowA P ops w0.heap.size w0 (y8 zl) (fun A => ∀ γ, w0 = w0 → Fr C (Lj γ) (A γ)) l1 k0 A → wpFlowA P ops w0.heap.size w0 (y8 zl) (fun A => ∀ β, Fr C (Lj β) (A β)) l1 k0 A := by
   intro l1
   induction l1 with
   | nil => intro k0 A h γ; exact h γ rfl
   | cons o l1 ih => intro k0 A ⟨v, hv, h⟩; exact ⟨v, hv, ih _ _ h⟩
  exact hm _ _ _ this
 have := aiz (l1 := l.take n) (l2 := l.drop n) (k := k) (A := A) (P := P) (ops := ops) (B := w0.heap.size) (w0 := w0) (Zs := y8 zl) (Qf := fun A => ∀ γ, T w0 γ (A γ)) (by
  have hlen : (l.take n).length = n := by simp; omega
  rw [hlen]; exact hjoin _ _ _ h0)
 rwa [List.take_append_drop] at this
def auq (zl : List (Nat × Obj)) (γ : o7) (H : List HA) : List HA := match zl with
 | [] => H
 | p :: r => .blk (γ p.1) p.2 :: auq r γ H
def akf (n : Nat) (zl : List (Nat × Obj)) : Bool := x5 (zl.map (·.1)) && zl.all (fun p => Nat.blt p.1 n)
theorem aez {zl : List (Nat × Obj)} (hn : (zl.map (·.1)).Nodup) {p : Nat × Obj} (hp : p ∈ zl) : y8 zl p.1 = some p.2 := by
 induction zl with
 | nil => cases hp
 | cons q r ih =>
  unfold y8
  rw [List.map_cons, List.nodup_cons] at hn
  rcases List.mem_cons.1 hp with rfl | hp
  ·simp
  ·have hne : ¬ q.1 = p.1 := fun e => hn.1 (e ▸ List.mem_map_of_mem hp)
   have : Nat.beq q.1 p.1 = false := by
    cases hb : Nat.beq q.1 p.1 with
    | false => rfl
    | true => exact absurd (Nat.eq_of_beq_eq_true hb) hne
   rw [this]; exact ih hn.2 hp
theorem atg {n : Nat} {w0 w : World} {γ : o7} (hp : Hp C H w0) (hz : akf n zl = true) (hm : Made w0.heap.size w0 (y8 zl) n γ w) : Hp C (auq zl γ H) w := by
 simp only [akf, Bool.and_eq_true, List.all_eq_true] at hz
 have hnd := aa8 hz.1
 have hb := hp.below hm.below
 obtain ⟨F, h1, h2, h3⟩ := hp.own
 have hF : ∀ k ∈ F, k < w0.heap.size := fun k hk => (h3 k hk).1
 have key : ∀ zl' : List (Nat × Obj), (zl'.map (·.1)).Nodup → (∀ p ∈ zl', p ∈ zl) → Own w (auq zl' γ H) (zl'.map (fun p => γ p.1) ++ F) ∧ (zl'.map (fun p => γ p.1) ++ F).Nodup := by
  intro zl'
  induction zl' with
  | nil => intro _ _; exact ⟨by simpa [auq] using h1.keep fun k hk => hm.below.block k (hF k hk), by simpa using h2⟩
  | cons q r ih =>
   intro hn hsub
   rw [List.map_cons, List.nodup_cons] at hn
   obtain ⟨i1, i2⟩ := ih hn.2 fun p hp => hsub p (List.mem_cons_of_mem _ hp)
   have hqm := hsub q (List.mem_cons_self ..)
   have hq := hm.blk q.1 q.2 (Nat.blt_eq ▸ hz.2 q hqm) (aez hnd hqm)
   refine ⟨⟨[γ q.1], r.map (fun p => γ p.1) ++ F, rfl, ⟨rfl, hq.1⟩, i1⟩, ?_⟩
   show (γ q.1 :: (r.map (fun p => γ p.1) ++ F)).Nodup
   refine List.nodup_cons.2 ⟨fun hmem => ?_, i2⟩
   rcases List.mem_append.1 hmem with hmem | hmem
   ·obtain ⟨p, hp', he⟩ := List.mem_map.1 hmem
    have hpm := hsub p (List.mem_cons_of_mem _ hp')
    have := hm.inj q.1 p.1 q.2 p.2 (Nat.blt_eq ▸ hz.2 q hqm) (Nat.blt_eq ▸ hz.2 p hpm) (aez hnd hqm) (aez hnd hpm) he.symm
    exact hn.1 (this ▸ List.mem_map_of_mem hp')
   ·have := hF _ hmem; omega
 obtain ⟨k1, k2⟩ := key zl hnd fun _ h => h
 refine ⟨hb.os, hb.tape, hb.output, hb.size, hb.keep, hb.ro, _, k1, k2, fun k hk => ?_⟩
 rcases List.mem_append.1 hk with hk | hk
 ·obtain ⟨p, hp', rfl⟩ := List.mem_map.1 hk
  have hq := hm.blk p.1 p.2 (Nat.blt_eq ▸ hz.2 p hp') (aez hnd hp')
  exact ⟨b6 hq.1, .inl (Nat.le_trans hp.size hq.2)⟩
 ·exact ⟨Nat.lt_of_lt_of_le (h3 k hk).1 hm.below.size, (h3 k hk).2⟩
theorem n9 {id : Nat} {l : List Oper} {L : Sl} (n : Nat) (zl : List (Nat × Obj)) (hm : P.follows .mixedOrders = true) (hB : Region.lexTailB .any l.toArray n = true) (hz : akf n zl = true)
  (h : ∀ T : World → o7 → Act → Prop, (∀ (L' : FSl), (∀ γ, WL P l.toArray Q C (L' γ) (auq zl γ H) (l.drop n)) → ∀ (A : Fam) (w0 : World), (∀ β, Fr C (L' β) (A β)) → Hp C H w0 → ∀ γ, T w0 γ (A γ)) → FL P l.toArray T C (fun _ => L) H zl 0 (l.take n)) : WC P (.region id l.toArray true) Q C L H := by
 intro a w hf hp
 refine ajh (y8 zl) n hm hB ?_
 exact h (fun w0 γ a' => ∀ w', Made w0.heap.size w0 (y8 zl) n γ w' → wpList P l.toArray Q (l.drop n) a' w')
  (fun L' hL A w0 hA hw0 γ w' hmade => hL γ (A γ) w' (hA γ) (atg hw0 hz hmade)) (fun _ => a) w.drew (fun _ => hf) hp.drew
theorem ai2 {id : Nat} {l : List Oper} {L : Sl} (zl : List (Nat × Obj)) (hm : P.follows .mixedOrders = true) (hB : ai9 l.toArray = true) (hz : akf l.length zl = true)
  (h : ∀ T : World → o7 → Act → Prop, (∀ (L' : FSl), (∀ γ, QX Q .normal C (L' γ) (auq zl γ H)) → ∀ (A : Fam) (w0 : World), (∀ β, Fr C (L' β) (A β)) → Hp C H w0 → ∀ γ, T w0 γ (A γ)) → FL P l.toArray T C (fun _ => L) H zl 0 l) : WC P (.region id l.toArray true) Q C L H := by
 intro a w hf hp
 refine wp_region_flowA_all (y8 zl) hm hB ?_
 have h1 := h (fun w0 γ a' => ∀ w', Made w0.heap.size w0 (y8 zl) l.length γ w' → Q .normal a' w')
  (fun L' hL A w0 hA hw0 γ w' hmade => hL γ (A γ) w' (hA γ) (atg hw0 hz hmade)) (fun _ => a) w.drew (fun _ => hf) hp.drew
 have hm : ∀ (l1 : List Oper) (k0 : Nat) (A : Fam), wpFlowA P l.toArray w.drew.heap.size w.drew (y8 zl) (fun A => ∀ γ w', Made w.drew.heap.size w.drew (y8 zl) l.length γ w' → Q .normal (A γ) w') l1 k0 A → wpFlowA P l.toArray w.drew.heap.size w.drew (y8 zl) (fun A => ∀ γ w', Made w.drew.heap.size w.drew (y8 zl) l.length γ w' → Q .normal (A γ) w') l1 k0 A := fun _ _ _ h => h
 exact hm _ _ _ h1
def TW (P : Program) (ops : Array Oper) (C : Cx) (HK : List HA) (T : Sl → Prop) : Sl → List Oper → Prop
 | L, [] => T L
 | L, o :: r => ∃ v d, ((r9 ops L o = some true ∧ OV P C L HK o v) ∨ (r9 ops L o = some false ∧ v = undef)) ∧ o.dst = some d ∧ Nat.blt d C.n = true ∧ TW P ops C HK T ((d, v) :: L) r
theorem TW.val {HK : List HA} {T : Sl → Prop} {L : Sl} {v : Value} {d : Nat} (hv : OV P C L HK o v) (hw : r9 ops L o = some true) (hd : o.dst = some d) (hn : Nat.blt d C.n = true) (h : TW P ops C HK T ((d, v) :: L) rest) : TW P ops C HK T L (o :: rest) :=
 ⟨v, d, .inl ⟨hw, hv⟩, hd, hn, h⟩
theorem TW.skip {HK : List HA} {T : Sl → Prop} {L : Sl} {d : Nat} (hw : r9 ops L o = some false) (hd : o.dst = some d) (hn : Nat.blt d C.n = true) (h : TW P ops C HK T ((d, undef) :: L) rest) : TW P ops C HK T L (o :: rest) :=
 ⟨undef, d, .inr ⟨hw, rfl⟩, hd, hn, h⟩
theorem TW.nil {HK : List HA} {T : Sl → Prop} {L : Sl} (h : T L) : TW P ops C HK T L [] := h
def an2 (P : Program) (ops : Array Oper) (Q : Exit → Act → World → Prop) (S : World → Prop) : List Oper → Act → World → Prop
 | [], a, w => Q .normal a w
 | o :: rest, a, w => Region.wanted o (yielded ops a.tmps) = true ∧ o.wp P a w (fun a' w' => S w' ∧ an2 P ops Q S rest a' w') Q
def WLK (P : Program) (ops : Array Oper) (Q : Exit → Act → World → Prop) (C : Cx) (HK : List HA) (L : Sl) (H : List HA) (l : List Oper) : Prop := ∀ a w, Fr C L a → Hp C H w → an2 P ops Q (Hp C HK) l a w
theorem WLK.op {HK H' : List HA} {L L' : Sl} (idx : List Nat) (hi : x5 idx = true) (hk : sel H' idx = HK) (hop : OpK P o Q C L H L' H') (hw : r9 ops L o = some true) (h : WLK P ops Q C HK L' H' rest) : WLK P ops Q C HK L H (o :: rest) :=
 fun a w hf hp => ⟨m3 hf hw, hop _ (fun a' w' hf' hp' => ⟨hk ▸ hp'.pick idx hi, h a' w' hf' hp'⟩) a w hf hp⟩
theorem WLK.nil {HK : List HA} {L : Sl} (h : QX Q .normal C L H) : WLK P ops Q C HK L H [] := fun a w hf hp => h a w hf hp
theorem agq {S : World → Prop} {md : Region.Mode} : ∀ (l : List Oper) (k : Nat) (listed : Array Bool) (a : Act) (w : World), (∀ j, l[j]? = ops[k + j]?) →
  Region.seqB md ops l.length k listed = true → an2 P ops Q S l a w → wpAnyH P md ops Q S l.length listed a w
 | [], _, _, _, _, _, hB, h => ⟨by simpa [Region.seqB] using hB, h⟩
 | o :: l, k, listed, a, w, hl, hB, h => by
  have h0 : ops[k]? = some o := by simpa using (hl 0).symm
  simp only [List.length_cons, Region.seqB, Bool.and_eq_true, decide_eq_true_eq] at hB
  refine ⟨fun h1 => (by rw [hB.1] at h1; cases h1), fun i hi => ?_⟩
  rw [hB.1] at hi
  obtain rfl : i = k := by simpa using hi
  unfold wpOp
  simp only [h0, h.1, if_true]
  refine .inl (Oper.wp_mono (fun a' w' h' => ⟨h'.1, ?_⟩) h.2)
  exact agq l (i + 1) _ a' w' (fun j => by have := hl (j + 1); simpa [Nat.add_assoc, Nat.add_comm 1 j] using this) hB.2 h'.2
theorem awc {g : Nat} {tail : List Oper} {HK : List HA} (hsel : Region.noSelect ops = true) (hq : awi Q) (hg : tail.length = g) : ∀ (l : List Oper) (k : Nat) (listed : Array Bool) (L : Sl) (a : Act) (w : World), (∀ j, j < l.length → l[j]? = ops[k + j]?) → (∀ j, tail[j]? = ops[k + l.length + j]?) →
  Region.lexHead .any ops g l.length k listed = true → Fr C L a → Hp C H w → Hp C HK w → TW P ops C HK (fun L' => WLK P ops Q C HK L' H tail) L l → wpAnyH P .any ops Q (Hp C HK) (l.length + g) listed a w
 | [], k, listed, L, a, w, _, ht, hB, hf, hp, _, h => by
  have := agq (md := .any) (Q := Q) (S := Hp C HK) tail k listed a w (fun j => by simpa using ht j) (by rw [hg]; simpa [Region.lexHead] using hB) (h a w hf hp)
  rw [hg] at this
  simpa using this
 | o :: l, k, listed, L, a, w, hl, ht, hB, hf, hp, hpk, ⟨v, d, hv, hd, hn, h⟩ => by
  have h0 : ops[k]? = some o := by simpa using (hl 0 (by simp)).symm
  simp only [List.length_cons, Region.lexHead, Bool.and_eq_true] at hB
  obtain ⟨⟨hrd, hfr⟩, hB'⟩ := hB
  have hy : YieldsIf P ops (Hp C HK) o v a := by
   rcases hv with ⟨hw, hv⟩ | ⟨hw, rfl⟩
   ·exact .inl ⟨m3 hf hw, fun w' hw' => hv a w' hf hw'⟩
   ·exact .inr ⟨m3 hf hw, rfl⟩
  have ih := awc hsel hq hg l (k + 1) (listed.setIfInBounds k true) ((d, v) :: L) (a.put (some d) v) w (fun j hj => by have := hl (j + 1) (by simp; omega); simpa [Nat.add_assoc, Nat.add_comm 1 j] using this)
   (fun j => by have := ht j; rw [List.length_cons] at this; rw [this]; congr 1; omega) hB' (hf.put hn v) hp hpk h
  rw [show (o :: l).length + g = (l.length + g) + 1 by simp; omega]
  refine wpAnyH_take h0 hsel hfr hrd (fun c a w h => hq c a _ v w h) hy hpk ?_
  rw [hd]; exact ih
def NP (Q : Exit → Act → World → Prop) : Exit → Act → World → Prop
 | .panic _, _, _ => False
 | e, a, w => Q e a w
theorem ahl {id : Nat} {l : List Oper} {L : Sl} (n : Nat) (idx : List Nat) (HK : List HA) (hi : x5 idx = true) (hk : sel H idx = HK) (hm : P.follows .mixedOrders = true) (hB : (Region.noSelect l.toArray && Nat.ble n l.length && Region.lexHead .any l.toArray (l.length - n) n 0 (Array.replicate l.length false)) = true)
  (h : ∀ T : Sl → Prop, (∀ L', WLK P l.toArray (NP Q) C HK L' H (l.drop n) → T L') → TW P l.toArray C HK T L (l.take n)) : WC P (.region id l.toArray true) Q C L H := by
 intro a w hf hp
 simp only [Bool.and_eq_true] at hB
 obtain ⟨⟨hsel, hn⟩, hlex⟩ := hB
 have hn' : n ≤ l.length := Nat.le_of_ble_eq_true hn
 have htl : (l.take n).length = n := by simp; omega
 refine wp_mono (Q := NP Q) (wp_region_any hm ?_) (fun e a w hq => ?_)
 ·have := wpAny_of_held _ _ _ _ (awc (P := P) (ops := l.toArray) (Q := NP Q) (C := C) (H := H) (HK := HK) (g := l.length - n) (tail := l.drop n) hsel (fun _ _ _ _ _ h => h) (by simp) (l.take n) 0 (Array.replicate l.length false) L a w.drew
   (fun j hj => by rw [htl] at hj; simp [hj]) (fun j => by rw [htl]; simp [List.getElem?_drop]) (by rw [htl]; exact hlex) hf hp.drew (hk ▸ hp.drew.pick idx hi) (h _ fun _ hh => hh))
  rw [htl, show n + (l.length - n) = l.length by omega] at this
  simpa using this
 ·cases e <;> first | exact hq | exact hq.elim
end Go.Proofs.YtohnchdnkbadaaaDoor
namespace Go.Proofs.YtohnchdnkbadaaaDoor
open Go Go.RowKit
variable {P : Program} {ops : Array Oper} {Q : Exit → Act → World → Prop} {C : Cx} {L : Sl} {H : List HA} {rest : List Oper} {o : Oper}
def RC (P : Program) (c : Code) (Q : Exit → Act → World → Prop) (n : Nat) (C : Cx) (L : Sl) (H : List HA) : Prop := ∀ a w, Fr C L a → Hp C H w → Code.rounds P c Q n a w
theorem ane {c : Code} (n : Nat) (h : RC P c Q n C L H) : WC P (.loop c) Q C L H := fun a w hf hp => wp_loop_rounds n (h a w hf hp)
theorem RC.succ {c : Code} {n : Nat} (h : ∀ K : Act → World → Prop, (∀ L H, RC P c Q n C L H → KX K C L H) → WC P c (Exit.then K Q) C L H) : RC P c Q (n + 1) C L H :=
 fun a w hf hp => h _ (fun _ _ hr => hr) a w hf hp
section ov
variable {x y z : Operand} {u v : Value} {t t' ty e' : TypeId} {d : Option Tmp} {p : String} {e : Array Edge} {g : Option (Nat × Bool)} {n m : Int} {k k' : IntKind} {b off sz : Nat}
theorem OV.minI (hx : ev L x = some (.int .i64 n)) (hy : ev L y = some (.int .i64 m)) {ts : Array TypeId} : OV P C L H ⟨d, .call ⟨.builtin .min, #[x, y], ts⟩, ty, p, e, g⟩ (.int .i64 (min n m)) := fun a w hf _ => by
 have h : (Builtin.min_ ts ty #[.int .i64 n, .int .i64 m]).run P w = .ok (.int .i64 (min n m)) w := by
  have e1 : min n m = if m < n then m else n := by split <;> omega
  rw [e1]; exact run_min_int2 w _ _ _ _ _ _
 simp only [execOp, resolve, invoke, builtin, Sem.run_bind, Sem.run_pure, Result.andThen_ok, List.map_toArray, List.map_cons, List.map_nil, hf.ev hx, hf.ev hy, h]
theorem OV.shl (hx : ev L x = some (.int k n)) (hy : ev L y = some (.int k' m)) (hb : 0 ≤ m ∧ m ≤ k.bits) : OV P C L H ⟨d, .binOp .shl t x y t', ty, p, e, g⟩ (.int k (k.wrap (n * 2 ^ m.toNat))) := fun a w hf _ => by
 have h := shift_shl k k' n m hb.1 hb.2
 simp [execOp, hf.ev hx, hf.ev hy, eqGuard, binOp, h]
theorem OV.bits_or (hx : ev L x = some (.int k n)) (hy : ev L y = some (.int k m)) : OV P C L H ⟨d, .binOp .or t x y t', ty, p, e, g⟩ (.int k (bits .or k n m)) := fun a w hf _ => by
 simp [execOp, hf.ev hx, hf.ev hy, eqGuard, binOp, intBits_or]
theorem OV.indexM {nn : Nat} {i : Int} {cs vs : List Value} (hx : ev L x = some (.agg cs.toArray)) (hy : ev L y = some (.int k i)) (ht : ao5 P t e' nn sz = true) (hb : 0 ≤ i ∧ i < nn) (hr : RowT P e' sz) (hv : (cs.drop (i.toNat * sz)).take sz = vs) :
  OV P C L H ⟨d, .index t x y, ty, p, e, g⟩ (.agg vs.toArray) := fun a w hf _ => by
 obtain ⟨hu, hs⟩ := am8 ht
 have hagg : (isAgg e').run P w = .ok true w := by
  unfold isAgg
  rcases hr.desc with ⟨_, h⟩ | ⟨_, _, h⟩ <;> (rw [Sem.run_bind, r8 h]; rfl)
 have hp : (part e' cs.toArray (i.toNat * sz)).run P w = .ok (.agg vs.toArray) w := by
  simp only [part, Sem.run_bind, hagg, Result.andThen_ok, if_true, ab5 hs, Sem.run_pure]
  rw [← hv]
  congr 3
  simp [List.extract_eq_take_drop]
 simp [execOp, hf.ev hx, hf.ev hy, Instr.index, r8 hu, asIntOf, hb, ab5 hs, hp]
end ov
theorem ac2 (n : Nat) (g : Nat → Value) (h : ∀ i, (g i).oneCell' = true) : (arr n g).all (·.oneCell') = true := by
 simp [arr, h]
theorem WL.storeA' {x y : Operand} {t ty T : TypeId} {p : String} {e : Array Edge} {g : Option (Nat × Bool)} {b n off : Nat} {v : Value} {f f' : Nat → Value} (i : Nat)
  (hx : ev L x = some (.pointer (some ⟨b, off, none⟩))) (hy : ev L y = some v) (hi : H[i]? = some (.blk b (.cells (arr n f).toArray T (0, 0)))) (hv : v.cells = #[v]) (hs : s8 P t 1 = true)
  (hfit : off < n) (h1 : v.oneCell' = true) (hw : r9 ops L ⟨none, .store t x y, ty, p, e, g⟩ = some true) (hf : ∀ j, (if j = off then v else f j) = f' j)
  (h : WL P ops Q C L (H.set i (.blk b (.cells (arr n f').toArray T (0, 0)))) rest) : WL P ops Q C L H (⟨none, .store t x y, ty, p, e, g⟩ :: rest) := by
 have e1 : (fun j => if j = off then v else f j) = f' := funext hf
 exact WL.storeA i hx hy hi hv hs hfit h1 hw (by rw [e1]; exact h)
theorem OpK.storeW {x y : Operand} {t ty T : TypeId} {p : String} {e : Array Edge} {g : Option (Nat × Bool)} {b n : Nat} {v : Value} {cs vs : List Value} (i : Nat)
  (hx : ev L x = some (.pointer (some ⟨b, 0, none⟩))) (hy : ev L y = some v) (hi : H[i]? = some (.blk b (.cells cs.toArray T (0, 0)))) (hv : v.cells = vs.toArray) (hn : vs.length = n) (hs : s8 P t n = true)
  (hl : vs.length = cs.length) (h1 : vs.all (·.oneCell') = true) : OpK P ⟨none, .store t x y, ty, p, e, g⟩ Q C L H L (H.set i (.blk b (.cells vs.toArray T (0, 0)))) := by
 subst hn
 refine OpK.store (vs := vs) i hx hy hi hv hs (by omega) h1 ?_
 rw [List.drop_eq_nil_of_le (by omega)]; simp
theorem WL.storeW {x y : Operand} {t ty T : TypeId} {p : String} {e : Array Edge} {g : Option (Nat × Bool)} {b n : Nat} {v : Value} {cs vs : List Value} (i : Nat)
  (hx : ev L x = some (.pointer (some ⟨b, 0, none⟩))) (hy : ev L y = some v) (hi : H[i]? = some (.blk b (.cells cs.toArray T (0, 0)))) (hv : v.cells = vs.toArray) (hn : vs.length = n) (hs : s8 P t n = true)
  (hl : vs.length = cs.length) (h1 : vs.all (·.oneCell') = true) (hw : r9 ops L ⟨none, .store t x y, ty, p, e, g⟩ = some true)
  (h : WL P ops Q C L (H.set i (.blk b (.cells vs.toArray T (0, 0)))) rest) : WL P ops Q C L H (⟨none, .store t x y, ty, p, e, g⟩ :: rest) :=
 WL.op (OpK.storeW i hx hy hi hv hn hs hl h1) hw h
end Go.Proofs.YtohnchdnkbadaaaDoor
namespace Go.Proofs.YtohnchdnkbadaaaDoor.SB
open Go Go.RowKit
section
variable {P : Program} {ops : Array Oper} {md : Region.Mode} {B : Nat} {w0 : World} {Zs : Nat → Option Obj} {Ws : Nat → Option (Nat × Obj)}
structure Upd (b : Nat) (Z : Obj) (w w' : World) : Prop where
 os : w'.os = w.os
 tape : w'.tape = w.tape
 output : w'.output = w.output
 size : w'.heap.size = w.heap.size
 oth : ∀ k, k ≠ b → w'.heap[k]? = w.heap[k]?
 blk : w'.heap[b]? = some Z
def arh (b : Nat) (Z : Obj) (w : World) : Result Next → Prop
 | .ok (.value _) w' => Upd b Z w w'
 | .ok .skip w' => Upd b Z w w'
 | _ => False
def s6 (P : Program) (ops : Array Oper) (B : Nat) (w0 : World) (Zs : Nat → Option Obj) (Ws : Nat → Option (Nat × Obj)) (i : Nat) (o : Oper) (v : o7 → Value) (A : Fam) : Prop :=
 (∃ Z, ∃ f : Nat → Value, Zs i = some Z ∧ Ws i = none ∧ v = (fun β => f (β i)) ∧ ∀ β, Region.wanted o (yielded ops (A β).tmps) = true ∧ ∀ w, Below B w0 w → (execOp (A β).eval o).run P w = .ok (.value (f w.heap.size)) (w.alloc Z)) ∨
 (∃ j Z Z', Zs i = none ∧ Ws i = some (j, Z') ∧ Zs j = some Z ∧ o.dst = none ∧ (o.after.toList.any fun e => Region.binds .any e && Nat.beq e.on j) = true ∧ ∀ β, Region.wanted o (yielded ops (A β).tmps) = true ∧ ∀ w, Below B w0 w → w.heap[β j]? = some Z → arh (β j) Z' w ((execOp (A β).eval o).run P w)) ∨
 (Zs i = none ∧ Ws i = none ∧ ∃ u, v = (fun _ => u) ∧ ∀ β, (Region.wanted o (yielded ops (A β).tmps) = true ∧ ∀ w, Below B w0 w → ain P u w ((execOp (A β).eval o).run P w)) ∨
  (Region.wanted o (yielded ops (A β).tmps) = false ∧ u = undef))
theorem s6.of_same {i : Nat} {o : Oper} {v : o7 → Value} {A A' : Fam} (hy : s6 P ops B w0 Zs Ws i o v A) (he : ∀ β, execOp (A' β).eval o = execOp (A β).eval o)
  (hw : ∀ β, Region.wanted o (yielded ops (A' β).tmps) = Region.wanted o (yielded ops (A β).tmps)) : s6 P ops B w0 Zs Ws i o v A' := by
 unfold s6 at *; simp only [he, hw]; exact hy
def flOpA (P : Program) (ops : Array Oper) (B : Nat) (w0 : World) (Zs : Nat → Option Obj) (Ws : Nat → Option (Nat × Obj)) (i : Nat) (K : Fam → Prop) (A : Fam) : Prop :=
 match ops[i]? with
 | none => K A
 | some o => ∃ v, s6 P ops B w0 Zs Ws i o v A ∧ K (A.put o.dst v)
theorem ahf {i : Nat} {A : Fam} {K K' : Fam → Prop} (h : ∀ A, K A → K' A) (hh : flOpA P ops B w0 Zs Ws i K A) : flOpA P ops B w0 Zs Ws i K' A := by
 unfold flOpA at *
 split
 ·exact h _ (by simpa [*] using hh)
 ·rename_i o ho
  simp only [ho] at hh
  obtain ⟨v, hy, hk⟩ := hh
  exact ⟨v, hy, h _ hk⟩
theorem s6.flOpA {i : Nat} {o : Oper} {v : o7 → Value} {A : Fam} (hi : ops[i]? = some o) (hy : s6 P ops B w0 Zs Ws i o v A) {K : Fam → Prop} (h : K (A.put o.dst v)) : flOpA P ops B w0 Zs Ws i K A := by
 unfold SB.flOpA; simp only [hi]; exact ⟨v, hy, h⟩
theorem aiv {i j : Nat} {oi oj : Oper} {v : o7 → Value} (hj : ops[j]? = some oj) (hap : oi.apart ops oj = true)
  (hsi : ∀ cs b, oi.op ≠ .select cs b) (hsj : ∀ cs b, oj.op ≠ .select cs b) {K : Fam → Prop} {A : Fam}
  (hy : s6 P ops B w0 Zs Ws i oi v A) (h : flOpA P ops B w0 Zs Ws j K (A.put oi.dst v)) :
  flOpA P ops B w0 Zs Ws j (fun A' => s6 P ops B w0 Zs Ws i oi v A' ∧ K (A'.put oi.dst v)) A := by
 obtain ⟨h1, h2, h3⟩ := Oper.apart_spec hap
 unfold flOpA at *
 simp only [hj] at *
 obtain ⟨u, hu, hk⟩ := h
 refine ⟨u, hu.of_same (fun β => (execOp_put oj hsj (A β) oi.dst (v β) h1).symm) (fun β => (wanted_put oj (A β) oi.dst (v β) h1).symm), ?_, ?_⟩
 ·exact hy.of_same (fun β => execOp_put oi hsi (A β) oj.dst (u β) h3) (fun β => wanted_put oi (A β) oj.dst (u β) h3)
 ·have e : (A.put oj.dst u).put oi.dst v = (A.put oi.dst v).put oj.dst u := by funext β; exact (Act.put_comm (A β) (v β) (u β) h2).symm
  rw [e]; exact hk
structure Facts (B : Nat) (w0 : World) (Zs : Nat → Option Obj) (Ws : Nat → Option (Nat × Obj)) (listed : Array Bool) (γ : o7) (w : World) : Prop where
 below : Below B w0 w
 blk : ∀ i Z, Zs i = some Z → listed.getD i false = true → B ≤ γ i ∧ ((∀ s Z', Ws s = some (i, Z') → listed.getD s false = false) → w.heap[γ i]? = some Z) ∧ (∀ s Z', Ws s = some (i, Z') → listed.getD s false = true → w.heap[γ i]? = some Z')
 lt : ∀ i Z, Zs i = some Z → listed.getD i false = true → γ i < w.heap.size
 aft : ∀ s i Z', Ws s = some (i, Z') → listed.getD s false = true → listed.getD i false = true
 inj : ∀ i j Z Z', Zs i = some Z → Zs j = some Z' → listed.getD i false = true → listed.getD j false = true → γ i = γ j → i = j
def ab7 (P : Program) (md : Region.Mode) (ops : Array Oper) (B : Nat) (w0 : World) (Zs : Nat → Option Obj) (Ws : Nat → Option (Nat × Obj)) (n : Nat) (L : Array Bool → Fam → Prop) : Nat → Array Bool → Fam → Prop
 | 0, listed, A => L listed A
 | f + 1, listed, A =>
  Region.ready md ops listed ≠ [] ∧ ∀ i ∈ Region.ready md ops listed, i < n ∧ flOpA P ops B w0 Zs Ws i (ab7 P md ops B w0 Zs Ws n L f (listed.setIfInBounds i true)) A
theorem abs {l : Array Bool} {i j : Nat} (h : l.getD j false = true) : (l.setIfInBounds i true).getD j false = true := by
 by_cases e : i = j
 ·subst e
  have : i < l.size := by
   rcases Nat.lt_or_ge i l.size with h2 | h2
   ·exact h2
   ·simp [Array.getD, Nat.not_lt.2 h2] at h
  simp [Array.getD, this]
 ·rw [getD_set_ne false e]; exact h
theorem aco {l : Array Bool} {i : Nat} (h : i < l.size) : (l.setIfInBounds i true).getD i false = true := by simp [Array.getD, h]
theorem Facts.plain {listed : Array Bool} {γ : o7} {w w' : World} {i : Nat} (hf : Facts B w0 Zs Ws listed γ w) (hB : B ≤ w0.heap.size) (hz : Zs i = none) (hw : Ws i = none) (hb : Below w.heap.size w w') : Facts B w0 Zs Ws (listed.setIfInBounds i true) γ w' := by
 have old : ∀ j Z, Zs j = some Z → (listed.setIfInBounds i true).getD j false = true → listed.getD j false = true := fun j Z hj hl => by
  rcases s7 hl with h | h
  ·exact h
  ·rw [h, hz] at hj; cases hj
 have oldS : ∀ s x, Ws s = some x → (listed.setIfInBounds i true).getD s false = listed.getD s false := fun s x hs => by
  refine getD_set_ne false fun e => ?_
  rw [← e, hw] at hs; cases hs
 refine ⟨hf.below.trans (hb.mono (Nat.le_trans hB hf.below.size)), fun j Z hj hl => ?_, fun j Z hj hl => Nat.lt_of_lt_of_le (hf.lt j Z hj (old j Z hj hl)) hb.size, fun s j Z' hs hl => ?_, fun j k Z Z' hj hk hl hl' => hf.inj j k Z Z' hj hk (old j Z hj hl) (old k Z' hk hl')⟩
 ·obtain ⟨h1, h2, h3⟩ := hf.blk j Z hj (old j Z hj hl)
  have hlt := hf.lt j Z hj (old j Z hj hl)
  refine ⟨h1, fun hn => ?_, fun s Z' hs hl' => ?_⟩
  ·rw [hb.block _ hlt]
   exact h2 fun s Z' hs => by rw [← oldS s _ hs]; exact hn s Z' hs
  ·rw [hb.block _ hlt]
   rw [oldS s _ hs] at hl'
   exact h3 s Z' hs hl'
 ·rw [oldS s _ hs] at hl
  have h1 := hf.aft s j Z' hs hl
  by_cases e : i = j
  ·subst e
   exact abs h1
  ·rw [getD_set_ne false e]; exact h1
theorem Facts.made {listed : Array Bool} {γ : o7} {w : World} {i : Nat} {Z : Obj} (hf : Facts B w0 Zs Ws listed γ w) (hB : B ≤ w0.heap.size) (hz : Zs i = some Z) (hw : Ws i = none) (hun : listed.getD i false = false) :
  Facts B w0 Zs Ws (listed.setIfInBounds i true) (fun j => if j = i then w.heap.size else γ j) (w.alloc Z) := by
 have hbw : B ≤ w.heap.size := Nat.le_trans hB hf.below.size
 have oldS : ∀ s x, Ws s = some x → (listed.setIfInBounds i true).getD s false = listed.getD s false := fun s x hs => by
  refine getD_set_ne false fun e => ?_
  rw [← e, hw] at hs; cases hs
 have lt : ∀ j Z', Zs j = some Z' → (listed.setIfInBounds i true).getD j false = true → j ≠ i → γ j < w.heap.size := fun j Z' hj hl hn => by
  rcases s7 hl with h | h
  ·exact hf.lt j Z' hj h
  ·exact absurd h hn
 refine ⟨hf.below.alloc hbw Z, fun j Z' hj hl => ?_, fun j Z' hj hl => ?_, fun s j Z' hs hl => ?_, fun j k Z1 Z2 hj hk hl hl' he => ?_⟩
 ·by_cases hji : j = i
  ·subst hji
   rw [hz] at hj
   obtain rfl := Option.some.inj hj
   simp only [if_pos]
   refine ⟨hbw, fun _ => heap_alloc_new w Z, fun s Z' hs hl' => ?_⟩
   rw [oldS s _ hs] at hl'
   have := hf.aft s j Z' hs hl'
   rw [hun] at this; cases this
  ·simp only [if_neg hji]
   rcases s7 hl with h | h
   ·obtain ⟨h1, h2, h3⟩ := hf.blk j Z' hj h
    have hlt := hf.lt j Z' hj h
    refine ⟨h1, fun hn => ?_, fun s Z2 hs hl' => ?_⟩
    ·rw [heap_alloc_old _ _ (h := hlt)]
     exact h2 fun s Z' hs => by rw [← oldS s _ hs]; exact hn s Z' hs
    ·rw [heap_alloc_old _ _ (h := hlt)]
     rw [oldS s _ hs] at hl'
     exact h3 s Z2 hs hl'
   ·exact absurd h hji
 ·by_cases hji : j = i
  ·subst hji; simp only [if_pos]; rw [World.size_alloc]; omega
  ·simp only [if_neg hji]; rw [World.size_alloc]; have := lt j Z' hj hl hji; omega
 ·rw [oldS s _ hs] at hl
  exact abs (hf.aft s j Z' hs hl)
 ·by_cases h1 : j = i <;> by_cases h2 : k = i
  ·rw [h1, h2]
  ·rw [if_pos h1, if_neg h2] at he
   have := lt k Z2 hk hl' h2
   omega
  ·rw [if_neg h1, if_pos h2] at he
   have := lt j Z1 hj hl h1
   omega
  ·rw [if_neg h1, if_neg h2] at he
   rcases s7 hl with h3 | h3
   ·rcases s7 hl' with h4 | h4
    ·exact hf.inj j k Z1 Z2 hj hk h3 h4 he
    ·exact absurd h4 h2
   ·exact absurd h3 h1
theorem Facts.stored {listed : Array Bool} {γ : o7} {w w' : World} {i j : Nat} {Z Z' : Obj} (hf : Facts B w0 Zs Ws listed γ w) (hz : Zs i = none) (hws : Ws i = some (j, Z')) (hzj : Zs j = some Z) (hj : listed.getD j false = true)
  (hin : i < listed.size) (huniq : ∀ s t x y, Ws s = some (x, y) → Ws t = some (x, Z') → s = t) (hu : Upd (γ j) Z' w w') : Facts B w0 Zs Ws (listed.setIfInBounds i true) γ w' := by
 have old : ∀ k Z, Zs k = some Z → (listed.setIfInBounds i true).getD k false = true → listed.getD k false = true := fun k Z hk hl => by
  rcases s7 hl with h | h
  ·exact h
  ·rw [h, hz] at hk; cases hk
 have hbj := (hf.blk j Z hzj hj).1
 refine ⟨⟨hu.os.trans hf.below.os, hu.tape.trans hf.below.tape, hu.output.trans hf.below.output, by rw [hu.size]; exact hf.below.size, fun k hk => ?_⟩, fun k Zk hk hl => ?_, fun k Zk hk hl => by rw [hu.size]; exact hf.lt k Zk hk (old k Zk hk hl), fun s k Z2 hs hl => ?_, fun k l Z1 Z2 hk hl h1 h2 => hf.inj k l Z1 Z2 hk hl (old k Z1 hk h1) (old l Z2 hl h2)⟩
 ·rw [hu.oth k (by omega)]; exact hf.below.block k hk
 ·obtain ⟨h1, h2, h3⟩ := hf.blk k Zk hk (old k Zk hk hl)
  refine ⟨h1, fun hn => ?_, fun s Z2 hs hl' => ?_⟩
  ·by_cases e : k = j
   ·subst e
    have := hn i Z' hws
    rw [aco hin] at this; cases this
   ·rw [hu.oth _ (fun e2 => e (hf.inj k j Zk Z hk hzj (old k Zk hk hl) hj e2))]
    refine h2 fun s Z2 hs => ?_
    have h4 := hn s Z2 hs
    cases hb : listed.getD s false with
    | false => rfl
    | true => rw [abs hb] at h4; cases h4
  ·by_cases e : k = j
   ·subst e
    have e2 : s = i := huniq s i k Z2 hs hws
    subst e2
    rw [hws] at hs
    obtain ⟨_, rfl⟩ := Prod.mk.inj (Option.some.inj hs)
    exact hu.blk
   ·rw [hu.oth _ (fun e2 => e (hf.inj k j Zk Z hk hzj (old k Zk hk hl) hj e2))]
    rcases s7 hl' with h | h
    ·exact h3 s Z2 hs h
    ·subst h
     rw [hws] at hs
     exact absurd (Prod.mk.inj (Option.some.inj hs)).1.symm e
 ·rcases s7 hl with h | h
  ·exact abs (hf.aft s k Z2 hs h)
  ·subst h
   rw [hws] at hs
   obtain ⟨rfl, _⟩ := Prod.mk.inj (Option.some.inj hs)
   exact abs hj
theorem o9 {n g : Nat} {L : Array Bool → Fam → Prop} {Q' : Exit → Act → World → Prop} (hB : B ≤ w0.heap.size) (hmd : md = .any) (huniq : ∀ s t x y z, Ws s = some (x, y) → Ws t = some (x, z) → s = t)
  (hL : ∀ listed A γ w, Facts B w0 Zs Ws listed γ w → L listed A → wpAny P md ops Q' g listed (A γ) w) :
  ∀ (f : Nat) (listed : Array Bool) (A : Fam) (γ : o7) (w : World), listed.size = ops.size → ae1 listed A → Facts B w0 Zs Ws listed γ w → ab7 P md ops B w0 Zs Ws n L f listed A → wpAny P md ops Q' (f + g) listed (A γ) w
 | 0, listed, A, γ, w, _, _, hF, h => by rw [Nat.zero_add]; exact hL _ _ _ _ hF h
 | f + 1, listed, A, γ, w, hsz, hA, hF, h => by
  rw [show f + 1 + g = (f + g) + 1 by omega]
  refine ⟨fun h0 => absurd h0 h.1, fun i hi => ?_⟩
  have hh := (h.2 i hi).2
  obtain ⟨hun, o, ho, _⟩ := mem_ready.1 hi
  have hin : i < ops.size := (Array.getElem?_eq_some_iff.1 ho).1
  have hnow : ∀ j, listed.getD j false = true → (listed.setIfInBounds i true).getD j false = true := fun j hj => by
   by_cases e : i = j
   ·subst e; simp [Array.getD, hsz, hin]
   ·rw [getD_set_ne false e]; exact hj
  have hset : (listed.setIfInBounds i true).getD i false = true := by simp [Array.getD, hsz, hin]
  have hsz' : (listed.setIfInBounds i true).size = ops.size := by simpa using hsz
  unfold flOpA at hh
  unfold wpOp
  simp only [ho] at hh ⊢
  obtain ⟨v, hv, hk⟩ := hh
  rcases hv with ⟨Z, fv, hz, hws, rfl, hg⟩ | ⟨j, Z, Z', hz, hws, hzj, hdst, haf, hg⟩ | ⟨hz, hws, u, rfl, hg⟩
  ·obtain ⟨hw, hx⟩ := hg γ
   simp only [hw, if_true]
   refine .inl ?_
   unfold Oper.wp
   rw [hx w hF.below]
   simp only [Oper.upon]
   have hF' := hF.made hB hz hws (getD_both hun)
   have hA' : ae1 (listed.setIfInBounds i true) (A.put o.dst (fun β => fv (β i))) := fun β β' hb => by
    show (A β).put o.dst (fv (β i)) = (A β').put o.dst (fv (β' i))
    rw [hA β β' (fun j hj => hb j (hnow j hj)), hb i hset]
   have := o9 hB hmd huniq hL f _ _ _ _ hsz' hA' hF' hk
   have e : (A.put o.dst (fun β => fv (β i))) (fun j => if j = i then w.heap.size else γ j) = (A γ).put o.dst (fv w.heap.size) := by
    show (A _).put o.dst _ = _
    rw [hA _ γ (fun j hj => by
     by_cases e : j = i
     ·subst e; rw [getD_both hun] at hj; cases hj
     ·simp [e])]
    simp
   rw [e] at this
   exact this
  ·obtain ⟨hw, hx⟩ := hg γ
   simp only [hw, if_true]
   refine .inl ?_
   obtain ⟨_, o2, ho2, hall⟩ := mem_ready.1 hi
   rw [ho] at ho2
   obtain rfl := Option.some.inj ho2
   obtain ⟨ed, hem, heb⟩ := List.any_eq_true.1 haf
   simp only [Bool.and_eq_true] at heb
   have hjl0 := hall ed (Array.mem_toList_iff.1 hem) (by rw [hmd]; exact heb.1)
   have hjl : listed.getD j false = true := by rw [← Nat.eq_of_beq_eq_true heb.2]; exact hjl0
   have hbl := hF.blk j Z hzj hjl
   have hZ : w.heap[γ j]? = some Z := hbl.2.1 fun s Z2 hs => by
    have e2 : s = i := huniq s i j Z2 Z' hs hws
    rw [e2]; exact getD_both hun
   have hS := hx w hF.below hZ
   have hA' : ae1 (listed.setIfInBounds i true) (A.put o.dst v) := fun β β' hb => by
    show (A β).put o.dst (v β) = (A β').put o.dst (v β')
    rw [hdst]; exact hA β β' (fun k hk => hb k (hnow k hk))
   have hput : ∀ u, (A γ).put o.dst u = (A.put o.dst v) γ := fun u => by show _ = (A γ).put o.dst (v γ); rw [hdst]; rfl
   unfold Oper.wp
   generalize (execOp (A γ).eval o).run P w = r at hS ⊢
   cases r with
   | ok m w' =>
    cases m <;> simp only [arh] at hS <;> simp only [Oper.upon]
    all_goals (rw [hput]; exact o9 hB hmd huniq hL f _ _ _ _ hsz' hA' (hF.stored hz hws hzj hjl (by rw [hsz]; exact hin) (fun s t x y h1 h2 => huniq s t x y _ h1 h2) hS) hk)
   | halt x w' => simp only [arh] at hS
  ·have hA' : ae1 (listed.setIfInBounds i true) (A.put o.dst (fun _ => u)) := fun β β' hb => by
    show (A β).put o.dst u = (A β').put o.dst u
    rw [hA β β' (fun j hj => hb j (hnow j hj))]
   rcases hg γ with ⟨hw, hx⟩ | ⟨hw, rfl⟩
   ·simp only [hw, if_true]
    refine .inl ?_
    unfold Oper.wp
    have hg' := hx w hF.below
    generalize (execOp (A γ).eval o).run P w = r at hg' ⊢
    cases r with
    | ok m w' =>
     cases m <;> simp only [ain] at hg' <;> simp only [Oper.upon]
     case enter f' args => exact hg'.mono fun e w'' ⟨he, hs⟩ => by subst he; exact o9 hB hmd huniq hL f _ _ _ _ hsz' hA' (hF.plain hB hz hws hs) hk
     all_goals (obtain ⟨rfl, hs⟩ := hg'; exact o9 hB hmd huniq hL f _ _ _ _ hsz' hA' (hF.plain hB hz hws hs) hk)
    | halt x w' => simp only [ain] at hg'
   ·simp only [hw, Bool.false_eq_true, if_false]
    exact o9 hB hmd huniq hL f _ _ _ _ hsz' hA' (hF.plain hB hz hws (Below.refl _ _)) hk
theorem ad7 {n i : Nat} {oi : Oper} {v : o7 → Value} {L : Array Bool → Fam → Prop} {Inv : Array Bool → Prop} (hi : ops[i]? = some oi) (hsel : ∀ (j : Nat) (o : Oper) cs b, ops[j]? = some o → o.op ≠ .select cs b)
  (hr : HeadRule md ops n Inv) (hin : i < n) (hdone : ∀ listed A, L listed A → ∀ j ∈ Region.ready md ops listed, n ≤ j) :
  ∀ (f : Nat) (listed : Array Bool) (A : Fam), Inv listed →
   (∀ j oj, ops[j]? = some oj → j ≠ i → listed.getD j true = false → (∀ e ∈ oj.after, Region.binds md e = true → e.on ≠ i) → oi.apart ops oj = true) →
   i ∈ Region.ready md ops listed → s6 P ops B w0 Zs Ws i oi v A →
   ab7 P md ops B w0 Zs Ws n L f (listed.setIfInBounds i true) (A.put oi.dst v) → ab7 P md ops B w0 Zs Ws n L (f + 1) listed A := by
 intro f
 induction f with
 | zero =>
  intro listed A inv _ hri hy H
  refine ⟨fun h => (by rw [h] at hri; cases hri), fun j hj => ?_⟩
  have hjn := hr.first listed i inv hin (mem_ready.1 hri).1 j hj
  refine ⟨hjn, ?_⟩
  by_cases hji : j = i
  ·subst hji; exact hy.flOpA hi H
  ·have := hdone _ _ H j (ready_mono hj hji)
   omega
 | succ f ih =>
  intro listed A inv hfree hri hy H
  refine ⟨fun h => (by rw [h] at hri; cases hri), fun j hj => ?_⟩
  have hjn := hr.first listed i inv hin (mem_ready.1 hri).1 j hj
  refine ⟨hjn, ?_⟩
  by_cases hji : j = i
  ·subst hji; exact hy.flOpA hi H
  ·have h1 := (H.2 j (ready_mono hj hji)).2
   obtain ⟨hjun, oj, hoj, hall⟩ := mem_ready.1 hj
   have hnot : ∀ e ∈ oj.after, Region.binds md e = true → e.on ≠ i := fun e he hb heq => by
    have h1 := hall e he hb
    rw [heq, getD_both (mem_ready.1 hri).1] at h1
    cases h1
   have h2 := aiv hoj (hfree j oj hoj hji hjun hnot) (fun cs b => hsel i oi cs b hi) (fun cs b => hsel j oj cs b hoj) hy h1
   refine ahf (fun A' h3 => ih (listed.setIfInBounds j true) A' (hr.step _ _ inv hj hjn) ?_ (ready_mono hri (Ne.symm hji)) h3.1 ?_) h2
   ·intro k ok hk hki hun hno
    refine hfree k ok hk hki ?_ hno
    by_cases hjk : j = k
    ·subst hjk; exact hjun
    ·rw [getD_set_ne true hjk] at hun; exact hun
   ·rw [Array.setIfInBounds_comm _ _ hji]
    exact h3.2
def wpFlowA (P : Program) (ops : Array Oper) (B : Nat) (w0 : World) (Zs : Nat → Option Obj) (Ws : Nat → Option (Nat × Obj)) (Q : Fam → Prop) : List Oper → Nat → Fam → Prop
 | [], _, A => Q A
 | o :: rest, k, A => ∃ v, s6 P ops B w0 Zs Ws k o v A ∧ wpFlowA P ops B w0 Zs Ws Q rest (k + 1) (A.put o.dst v)
theorem ab1 {n g : Nat} {L : Array Bool → Fam → Prop} {Lq : Fam → Prop} {Inv : Array Bool → Prop} (hsel : Region.noSelect ops = true) (hr : HeadRule md ops n Inv)
  (hdone : ∀ listed A, L listed A → ∀ j ∈ Region.ready md ops listed, n ≤ j)
  (hend : ∀ listed A, Region.seqB md ops g n listed = true → (∀ j, j < n → listed.getD j false = true) → Lq A → L listed A) :
  ∀ (l : List Oper) (k : Nat) (listed : Array Bool) (A : Fam), (∀ j, j < l.length → l[j]? = ops[k + j]?) → k + l.length = n → Inv listed → listed.size = ops.size → (∀ j, j < k → listed.getD j false = true) →
  Region.lexHead md ops g l.length k listed = true → wpFlowA P ops B w0 Zs Ws Lq l k A → ab7 P md ops B w0 Zs Ws n L l.length listed A
 | [], k, listed, A, _, hk, _, _, hls, hB, h => by
  have : k = n := by simpa using hk
  subst this
  exact hend _ _ (by simpa [Region.lexHead] using hB) hls h
 | o :: l, k, listed, A, hl, hk, inv, hsz, hls, hB, h => by
  have h0 : ops[k]? = some o := by simpa using (hl 0 (by simp)).symm
  have hin : k < ops.size := (Array.getElem?_eq_some_iff.1 h0).1
  simp only [List.length_cons, Region.lexHead, Bool.and_eq_true] at hB
  obtain ⟨⟨hrd, hf⟩, hB'⟩ := hB
  have hkn : k < n := by simp only [List.length_cons] at hk; omega
  have hr' : k ∈ Region.ready md ops listed := by simpa using hrd
  obtain ⟨v, hy, hK⟩ := h
  refine ad7 h0 (Region.noSelect_spec hsel) hr hkn hdone l.length listed A inv (Region.free_spec h0 hf) hr' hy
   (ab1 hsel hr hdone hend l (k + 1) _ _ (fun j hj => by have := hl (j + 1) (by simp; omega); simpa [Nat.add_assoc, Nat.add_comm 1 j] using this) (by simp only [List.length_cons] at hk; omega) (hr.step _ _ inv hr' hkn) (by simpa using hsz) (fun j hj => ?_) hB' hK)
  by_cases e : k = j
  ·subst e; simp [Array.getD, hsz, hin]
  ·rw [getD_set_ne false e]; exact hls j (by omega)
structure Made (B : Nat) (w0 : World) (Zs : Nat → Option Obj) (Ws : Nat → Option (Nat × Obj)) (n : Nat) (γ : o7) (w : World) : Prop where
 below : Below B w0 w
 blk : ∀ i Z, i < n → Zs i = some Z → B ≤ γ i ∧ γ i < w.heap.size ∧ ((∀ s Z', Ws s ≠ some (i, Z')) → w.heap[γ i]? = some Z) ∧ (∀ s Z', s < n → Ws s = some (i, Z') → w.heap[γ i]? = some Z')
 inj : ∀ i j Z Z', i < n → j < n → Zs i = some Z → Zs j = some Z' → γ i = γ j → i = j
theorem wp_region_flowA_all {id : Nat} {Q : Exit → Act → World → Prop} {a : Act} {w : World} {l : List Oper} (Zs : Nat → Option Obj) (Ws : Nat → Option (Nat × Obj)) (hm : P.follows .mixedOrders = true) (hB : ai9 l.toArray = true) (huniq : ∀ s t x y z, Ws s = some (x, y) → Ws t = some (x, z) → s = t)
  (h : wpFlowA P l.toArray w.drew.heap.size w.drew Zs Ws (fun A => ∀ γ w', Made w.drew.heap.size w.drew Zs Ws l.length γ w' → Q .normal (A γ) w') l 0 (fun _ => a)) : (Code.region id l.toArray true).wp P Q a w := by
 simp only [ai9, Bool.and_eq_true] at hB
 refine wp_region_any hm ?_
 have H := ab1 (md := .any) (n := l.toArray.size) (g := 0)
  (L := fun listed a' => Region.ready .any l.toArray listed = [] ∧ (∀ j, j < l.length → listed.getD j false = true) ∧ ∀ γ w', Made w.drew.heap.size w.drew Zs Ws l.length γ w' → Q .normal (a' γ) w') (Inv := fun _ => True) hB.1
  ⟨fun _ _ _ _ _ => trivial, fun listed i _ _ _ j hj => by obtain ⟨_, o, ho, _⟩ := mem_ready.1 hj; exact (Array.getElem?_eq_some_iff.1 ho).1⟩
  (fun listed a' hL j hj => by rw [hL.1] at hj; cases hj)
  (fun listed a' hs hls hq => ⟨by simpa [Region.seqB] using hs, fun j hj => hls j (by simpa using hj), hq⟩)
  l 0 (Array.replicate l.toArray.size false) (fun _ => a) (fun j hj => by simp) (by simp) trivial (by simp) (fun j hj => by omega) (by simpa using hB.2) h
 have := o9 (Q' := Q) (g := 0) (Nat.le_refl _) rfl huniq (fun listed' A' γ w' hF hL => by
  have hM : Made w.drew.heap.size w.drew Zs Ws l.length γ w' := ⟨hF.below, fun i Z hi hz => by
   obtain ⟨h1, h2, h3⟩ := hF.blk i Z hz (hL.2.1 i hi)
   exact ⟨h1, hF.lt i Z hz (hL.2.1 i hi), fun hn => h2 fun s Z' hs => absurd hs (hn s Z'), fun s Z' hsn hs => h3 s Z' hs (hL.2.1 s hsn)⟩, fun i j Z Z' hi hj hz hz' => hF.inj i j Z Z' hz hz' (hL.2.1 i hi) (hL.2.1 j hj)⟩
  exact ⟨hL.1, hL.2.2 γ w' hM⟩) _ _ _ (fun _ => 0) _ (by simp) (fun _ _ _ => rfl)
  ⟨Below.refl _ _, fun i Z _ hl => (by rw [getD_replicate_false] at hl; cases hl), fun i Z _ hl => (by rw [getD_replicate_false] at hl; cases hl), fun s i Z' _ hl => (by rw [getD_replicate_false] at hl; cases hl), fun i j Z Z' _ _ hl => (by rw [getD_replicate_false] at hl; cases hl)⟩ H
 simpa using this
end
end Go.Proofs.YtohnchdnkbadaaaDoor.SB
namespace Go.Proofs.YtohnchdnkbadaaaDoor
open Go Go.RowKit
variable {P : Program} {ops : Array Oper} {Q : Exit → Act → World → Prop} {C : Cx} {H : List HA} {rest : List Oper} {o : Oper}
def aca : List (Nat × Nat × Obj) → Nat → Option (Nat × Obj)
 | [], _ => none
 | p :: r, i => bif Nat.beq p.1 i then some p.2 else aca r i
def FS (P : Program) (ops : Array Oper) (T : World → o7 → Act → Prop) (C : Cx) (L : FSl) (H : List HA) (zl : List (Nat × Obj)) (wl : List (Nat × Nat × Obj)) (k : Nat) (l : List Oper) : Prop :=
 ∀ (A : Fam) (w0 : World), (∀ β, Fr C (L β) (A β)) → Hp C H w0 → SB.wpFlowA P ops w0.heap.size w0 (y8 zl) (aca wl) (fun A => ∀ γ, T w0 γ (A γ)) l k A
variable {T : World → o7 → Act → Prop} {L : FSl} {zl : List (Nat × Obj)} {wl : List (Nat × Nat × Obj)} {k : Nat}
theorem FS.val {v : Value} {d : Nat} (hv : ∀ β, OV P C (L β) H o v) (hz : y8 zl k = none) (hz2 : aca wl k = none) (hw : ∀ β, r9 ops (L β) o = some true) (hd : o.dst = some d) (hn : Nat.blt d C.n = true) (h : FS P ops T C (fun β => (d, v) :: L β) H zl wl (k + 1) rest) : FS P ops T C L H zl wl k (o :: rest) := by
 intro A w0 hf hp
 refine ⟨fun _ => v, .inr (.inr ⟨hz, hz2, v, rfl, fun β => .inl ⟨m3 (hf β) (hw β), fun w hb => ?_⟩⟩), ?_⟩
 ·rw [hv β _ w (hf β) (hp.below hb)]
  exact ⟨rfl, Below.refl _ _⟩
 ·rw [hd]; exact h _ w0 (fun β => (hf β).put hn v) hp
theorem FS.skip {d : Nat} (hz : y8 zl k = none) (hz2 : aca wl k = none) (hw : ∀ β, r9 ops (L β) o = some false) (hd : o.dst = some d) (hn : Nat.blt d C.n = true) (h : FS P ops T C (fun β => (d, undef) :: L β) H zl wl (k + 1) rest) : FS P ops T C L H zl wl k (o :: rest) := by
 intro A w0 hf hp
 refine ⟨fun _ => undef, .inr (.inr ⟨hz, hz2, undef, rfl, fun β => .inr ⟨m3 (hf β) (hw β), rfl⟩⟩), ?_⟩
 rw [hd]; exact h _ w0 (fun β => (hf β).put hn undef) hp
theorem FS.make {Z : Obj} {f : Nat → Value} {d : Nat} (hv : ∀ β, MV P C (L β) H o Z f) (hz : y8 zl k = some Z) (hz2 : aca wl k = none) (hw : ∀ β, r9 ops (L β) o = some true) (hd : o.dst = some d) (hn : Nat.blt d C.n = true) (h : FS P ops T C (fun β => (d, f (β k)) :: L β) H zl wl (k + 1) rest) : FS P ops T C L H zl wl k (o :: rest) := by
 intro A w0 hf hp
 refine ⟨fun β => f (β k), .inl ⟨Z, f, hz, hz2, rfl, fun β => ⟨m3 (hf β) (hw β), fun w hb => hv β _ w (hf β) (hp.below hb)⟩⟩, ?_⟩
 rw [hd]; exact h _ w0 (fun β => (hf β).put hn _) hp
theorem FS.call {f : FuncId} {xs : List Operand} {ats : Array TypeId} {d : Nat} {ty : TypeId} {p : String} {e : Array Edge} {g : Option (Nat × Bool)} {vs : List Value} {R : List (Nat × Obj)} {v : Value} (he : o6 P f = true) (hx : ∀ β, evs (L β) xs = some vs)
  (hc : c8 P f vs R [] (Ret v [])) (hR : ROk C H R) (hz : y8 zl k = none) (hz2 : aca wl k = none) (hw : ∀ β, r9 ops (L β) ⟨some d, .call ⟨.value (.func f), xs.toArray, ats⟩, ty, p, e, g⟩ = some true) (hn : Nat.blt d C.n = true)
  (h : FS P ops T C (fun β => (d, v) :: L β) H zl wl (k + 1) rest) : FS P ops T C L H zl wl k (⟨some d, .call ⟨.value (.func f), xs.toArray, ats⟩, ty, p, e, g⟩ :: rest) := by
 intro A w0 hf hp
 refine ⟨fun _ => v, .inr (.inr ⟨hz, hz2, v, rfl, fun β => .inl ⟨m3 (hf β) (hw β), fun w hb => ?_⟩⟩), ?_⟩
 ·rw [adn he (hf β) (hx β)]
  have hpw := hp.below hb
  refine (hc w [] rfl List.nodup_nil (fun k hk => by cases hk) (fun q hq => ?_)).mono ?_
  ·refine ⟨?_, by simp⟩
   rcases hR.all q hq with ⟨i, hi⟩ | hm
   ·exact hpw.blk hi
   ·exact hpw.old hm
  ·rintro en w' ⟨H', hS, hh⟩
   rcases hS with ⟨r, rfl, hS⟩ | ⟨c, rfl, hS⟩
   ·cases hS; exact ⟨rfl, hh.toBelow⟩
   ·cases hS
 ·exact h _ w0 (fun β => (hf β).put hn v) hp
theorem FS.set {l : List Oper} (i : Nat) {v u : Value} (hL : ∀ β, (L β).get i = some v) (hv : v = u) (h : FS P ops T C (fun β => (i, u) :: L β) H zl wl k l) : FS P ops T C L H zl wl k l := fun A w0 hf hp => h A w0 (fun β => ⟨(hf β).defers, (hf β).size, fun j x hj => by
 unfold Sl.get at hj
 cases hb : Nat.beq i j with
 | true =>
  obtain rfl : i = j := Nat.eq_of_beq_eq_true hb
  simp only [hb, cond_true, Option.some.injEq] at hj
  rw [← hj, ← hv]; exact (hf β).get _ _ (hL β)
 | false => simp only [hb, cond_false] at hj; exact (hf β).get _ _ hj⟩) hp
theorem FS.weak {l : List Oper} {L' : FSl} (hs : ∀ β, Sub (L β) (L' β)) (h : FS P ops T C L' H zl wl k l) : FS P ops T C L H zl wl k l := fun A w0 hf hp => h A w0 (fun β => (hf β).sub (hs β)) hp
theorem FS.split {l : List Oper} (b : Bool) (ht : b = true → FS P ops T C L H zl wl k l) (hf : b = false → FS P ops T C L H zl wl k l) : FS P ops T C L H zl wl k l := by
 cases b
 ·exact hf rfl
 ·exact ht rfl
theorem FS.nil (h : ∀ (A : Fam) (w0 : World), (∀ β, Fr C (L β) (A β)) → Hp C H w0 → ∀ γ, T w0 γ (A γ)) : FS P ops T C L H zl wl k [] := fun A w0 hf hp => h A w0 hf hp
theorem ai3 {B : Nat} {w0 : World} {Zs : Nat → Option Obj} {Ws : Nat → Option (Nat × Obj)} {Qf : Fam → Prop} : ∀ {l1 l2 : List Oper} {k : Nat} {A : Fam}, SB.wpFlowA P ops B w0 Zs Ws (fun A => SB.wpFlowA P ops B w0 Zs Ws Qf l2 (k + l1.length) A) l1 k A → SB.wpFlowA P ops B w0 Zs Ws Qf (l1 ++ l2) k A
 | [], _, _, _, h => h
 | o :: l1, l2, k, A, ⟨v, hv, h⟩ => ⟨v, hv, ai3 (by rw [show k + 1 + l1.length = k + (o :: l1).length by simp; omega]; exact h)⟩
theorem FS.cut {l : List Oper} (n : Nat) (hl : Nat.ble n l.length = true) (Lj : FSl) (hj : FS P ops T C Lj H zl wl (k + n) (l.drop n)) (h : ∀ T' : World → o7 → Act → Prop, (∀ (A : Fam) (w0 : World), (∀ β, Fr C (Lj β) (A β)) → Hp C H w0 → ∀ γ, T' w0 γ (A γ)) → FS P ops T' C L H zl wl k (l.take n)) : FS P ops T C L H zl wl k l := by
 have hn : n ≤ l.length := Nat.le_of_ble_eq_true hl
 intro A w0 hf hp
 have hjoin : ∀ (l1 : List Oper) (k0 : Nat) (A : Fam), SB.wpFlowA P ops w0.heap.size w0 (y8 zl) (aca wl) (fun A => ∀ β, Fr C (Lj β) (A β)) l1 k0 A → SB.wpFlowA P ops w0.heap.size w0 (y8 zl) (aca wl) (fun A => SB.wpFlowA P ops w0.heap.size w0 (y8 zl) (aca wl) (fun A => ∀ γ, T w0 γ (A γ)) (l.drop n) (k + n) A) l1 k0 A := by
  intro l1
  induction l1 with
  | nil => intro k0 A h; exact hj A w0 h hp
  | cons o l1 ih => intro k0 A ⟨v, hv, h⟩; exact ⟨v, hv, ih _ _ h⟩
 have h0 : SB.wpFlowA P ops w0.heap.size w0 (y8 zl) (aca wl) (fun A => ∀ β, Fr C (Lj β) (A β)) (l.take n) k A := by
  have := h (fun w0' γ a => w0' = w0 → Fr C (Lj γ) a) (fun A w0' hf' _ γ _ => hf' γ) A w0 hf hp
  have hm : ∀ (l1 : List Oper) (k0 : Nat) (A : Fam), SB.wpFlowA P ops w0.heap.size w0 (y8 zl) (aca wl) (fun A => ∀ γ, w0 = w0 → Fr C (Lj γ) (A γ)) l1 k0 A → SB.wpFlowA P ops w0.heap.size w0 (y8 zl) (aca wl) (fun A => ∀ β, Fr C (Lj β) (A β)) l1 k0 A := by
   intro l1
   induction l1 with
   | nil => intro k0 A h γ; exact h γ rfl
   | cons o l1 ih => intro k0 A ⟨v, hv, h⟩; exact ⟨v, hv, ih _ _ h⟩
  exact hm _ _ _ this
 have := ai3 (l1 := l.take n) (l2 := l.drop n) (k := k) (A := A) (P := P) (ops := ops) (B := w0.heap.size) (w0 := w0) (Zs := y8 zl) (Ws := aca wl) (Qf := fun A => ∀ γ, T w0 γ (A γ)) (by
  have hlen : (l.take n).length = n := by simp; omega
  rw [hlen]; exact hjoin _ _ _ h0)
 rwa [List.take_append_drop] at this
theorem FS.store {x y : Operand} {t ty Tt : TypeId} {p : String} {e : Array Edge} {g : Option (Nat × Bool)} {off j : Nat} {v : Value} {cs vs cs' : List Value}
  (hx : ∀ β, ev (L β) x = some (.pointer (some ⟨β j, off, none⟩))) (hy : ∀ β, ev (L β) y = some v) (hz : y8 zl k = none) (hj : y8 zl j = some (.cells cs.toArray Tt (0, 0))) (hz2 : aca wl k = some (j, .cells cs'.toArray Tt (0, 0)))
  (haf : (e.toList.any fun e => Region.binds .any e && Nat.beq e.on j) = true) (hv : v.cells = vs.toArray) (hs : s8 P t vs.length = true) (hfit : off + vs.length ≤ cs.length) (h1 : vs.all (·.oneCell') = true) (he : cs.take off ++ vs ++ cs.drop (off + vs.length) = cs')
  (hw : ∀ β, r9 ops (L β) ⟨none, .store t x y, ty, p, e, g⟩ = some true) (h : FS P ops T C L H zl wl (k + 1) rest) : FS P ops T C L H zl wl k (⟨none, .store t x y, ty, p, e, g⟩ :: rest) := by
 intro A w0 hf hp
 refine ⟨fun _ => undef, .inr (.inl ⟨j, _, _, hz, hz2, hj, rfl, haf, fun β => ⟨m3 (hf β) (hw β), fun w hb hZ => ?_⟩⟩), ?_⟩
 ·have hrun := run_storeCells_at (P := P) (β j) off Tt vs 0 cs.toArray w hZ (by simpa using hfit) (by simpa using h1)
  simp only [Nat.add_zero] at hrun
  rw [he] at hrun
  have hst : (storeVar t ⟨β j, off, none⟩ v).run P w = .ok () (w.setRow (β j) cs'.toArray) := by
   simp only [storeVar, Sem.run_bind, ab5 hs, Result.andThen_ok, hv, List.size_toArray, ne_eq, not_true_eq_false, if_false, hrun]
  simp only [execOp, (hf β).ev (hx β), (hf β).ev (hy β), Instr.storeAt, Instr.sureAddr, Sem.run_bind, Sem.run_pure, Result.andThen_ok, hst]
  exact ⟨rfl, rfl, rfl, by simp [World.setRow], fun k hk => setRow_other w (β j) k _ hk, aab hZ⟩
 ·exact h _ w0 (fun β => (hf β).put0 _) hp
theorem FS.storeW {x y : Operand} {t ty Tt : TypeId} {p : String} {e : Array Edge} {g : Option (Nat × Bool)} {j : Nat} {v : Value} {cs vs : List Value} {n : Nat}
  (hx : ∀ β, ev (L β) x = some (.pointer (some ⟨β j, 0, none⟩))) (hy : ∀ β, ev (L β) y = some v) (hz : y8 zl k = none) (hj : y8 zl j = some (.cells cs.toArray Tt (0, 0))) (hz2 : aca wl k = some (j, .cells vs.toArray Tt (0, 0)))
  (haf : (e.toList.any fun e => Region.binds .any e && Nat.beq e.on j) = true) (hv : v.cells = vs.toArray) (hl : vs.length = n) (hs : s8 P t n = true) (hl2 : cs.length = vs.length) (h1 : vs.all (·.oneCell') = true)
  (hw : ∀ β, r9 ops (L β) ⟨none, .store t x y, ty, p, e, g⟩ = some true) (h : FS P ops T C L H zl wl (k + 1) rest) : FS P ops T C L H zl wl k (⟨none, .store t x y, ty, p, e, g⟩ :: rest) :=
 FS.store (cs := cs) (vs := vs) (cs' := vs) hx hy hz hj hz2 haf hv (hl ▸ hs) (by omega) h1 (by
  rw [Nat.zero_add, ← hl2, List.drop_length]; simp) hw h
def fin (wl : List (Nat × Nat × Obj)) (i : Nat) (Z : Obj) : Obj := match wl with
 | [] => Z
 | p :: r => bif Nat.beq p.2.1 i then p.2.2 else fin r i Z
def ap6 (zl : List (Nat × Obj)) (wl : List (Nat × Nat × Obj)) (γ : o7) (H : List HA) : List HA := match zl with
 | [] => H
 | p :: r => .blk (γ p.1) (fin wl p.1 p.2) :: ap6 r wl γ H
def apj (n : Nat) (wl : List (Nat × Nat × Obj)) : Bool := x5 (wl.map (·.1)) && x5 (wl.map (·.2.1)) && wl.all (fun p => Nat.blt p.1 n)
theorem aj5 {wl : List (Nat × Nat × Obj)} {s : Nat} {x : Nat × Obj} (h : aca wl s = some x) : (s, x) ∈ wl := by
 induction wl with
 | nil => cases h
 | cons q r ih =>
  unfold aca at h
  cases hb : Nat.beq q.1 s with
  | true =>
   rw [hb] at h
   have e1 : q.1 = s := Nat.eq_of_beq_eq_true hb
   have e2 : q.2 = x := by simpa using h
   rw [← e1, ← e2]; exact List.mem_cons_self ..
  | false => rw [hb] at h; exact List.mem_cons_of_mem _ (ih h)
theorem ayf {wl : List (Nat × Nat × Obj)} (hn : (wl.map (·.1)).Nodup) {p : Nat × Nat × Obj} (hp : p ∈ wl) : aca wl p.1 = some p.2 := by
 induction wl with
 | nil => cases hp
 | cons q r ih =>
  unfold aca
  rw [List.map_cons, List.nodup_cons] at hn
  rcases List.mem_cons.1 hp with rfl | hp
  ·simp
  ·have hne : ¬ q.1 = p.1 := fun e => hn.1 (e ▸ List.mem_map_of_mem hp)
   have : Nat.beq q.1 p.1 = false := by
    cases hb : Nat.beq q.1 p.1 with
    | false => rfl
    | true => exact absurd (Nat.eq_of_beq_eq_true hb) hne
   rw [this]; exact ih hn.2 hp
theorem atf {α β : Type} {f : α → β} : ∀ {l : List α}, (l.map f).Nodup → ∀ {x y : α}, x ∈ l → y ∈ l → f x = f y → x = y
 | [], _, _, _, hx, _, _ => by cases hx
 | a :: l, hn, x, y, hx, hy, he => by
  rw [List.map_cons, List.nodup_cons] at hn
  rcases List.mem_cons.1 hx with e1 | hx2
  ·rcases List.mem_cons.1 hy with e2 | hy2
   ·rw [e1, e2]
   ·rw [e1] at he; exact absurd (he ▸ List.mem_map_of_mem hy2) hn.1
  ·rcases List.mem_cons.1 hy with e2 | hy2
   ·rw [e2] at he; exact absurd (he ▸ List.mem_map_of_mem hx2) hn.1
   ·exact atf hn.2 hx2 hy2 he
theorem arx {n : Nat} (hw : apj n wl = true) : ∀ s t x y z, aca wl s = some (x, y) → aca wl t = some (x, z) → s = t := fun s t x y z h1 h2 => by
 simp only [apj, Bool.and_eq_true] at hw
 have := atf (aa8 hw.1.2) (aj5 h1) (aj5 h2) rfl
 exact (Prod.mk.inj this).1
theorem axn {i : Nat} {Z : Obj} (h : ∀ p ∈ wl, p.2.1 ≠ i) : fin wl i Z = Z := by
 induction wl with
 | nil => rfl
 | cons q r ih =>
  unfold fin
  have : Nat.beq q.2.1 i = false := by
   cases hb : Nat.beq q.2.1 i with
   | false => rfl
   | true => exact absurd (Nat.eq_of_beq_eq_true hb) (h q (List.mem_cons_self ..))
  rw [this]; exact ih fun p hp => h p (List.mem_cons_of_mem _ hp)
theorem aw0 {i : Nat} {Z : Obj} (hn : (wl.map (·.2.1)).Nodup) {p : Nat × Nat × Obj} (hp : p ∈ wl) (hi : p.2.1 = i) : fin wl i Z = p.2.2 := by
 induction wl with
 | nil => cases hp
 | cons q r ih =>
  unfold fin
  rw [List.map_cons, List.nodup_cons] at hn
  rcases List.mem_cons.1 hp with rfl | hp
  ·simp [hi]
  ·have : Nat.beq q.2.1 i = false := by
    cases hb : Nat.beq q.2.1 i with
    | false => rfl
    | true => exact absurd ((Nat.eq_of_beq_eq_true hb).trans hi.symm ▸ List.mem_map_of_mem (f := (·.2.1)) hp) hn.1
   rw [this]; exact ih hn.2 hp
theorem awv {n : Nat} {w0 w : World} {γ : o7} (hp : Hp C H w0) (hz : akf n zl = true) (hw : apj n wl = true) (hm : SB.Made w0.heap.size w0 (y8 zl) (aca wl) n γ w) : Hp C (ap6 zl wl γ H) w := by
 simp only [akf, Bool.and_eq_true, List.all_eq_true] at hz
 simp only [apj, Bool.and_eq_true, List.all_eq_true] at hw
 have hnd := aa8 hz.1
 have hwd := aa8 hw.1.1
 have hwd2 := aa8 hw.1.2
 have hb := hp.below hm.below
 obtain ⟨F, h1, h2, h3⟩ := hp.own
 have hF : ∀ k ∈ F, k < w0.heap.size := fun k hk => (h3 k hk).1
 have hq : ∀ q ∈ zl, w.heap[γ q.1]? = some (fin wl q.1 q.2) ∧ w0.heap.size ≤ γ q.1 := fun q hqm => by
  obtain ⟨g1, _, g3, g4⟩ := hm.blk q.1 q.2 (Nat.blt_eq ▸ hz.2 q hqm) (aez hnd hqm)
  refine ⟨?_, g1⟩
  by_cases hex : ∃ p ∈ wl, p.2.1 = q.1
  ·obtain ⟨p, hpm, he⟩ := hex
   rw [aw0 hwd2 hpm he]
   exact g4 p.1 p.2.2 (Nat.blt_eq ▸ hw.2 p hpm) (by rw [ayf hwd hpm, ← he])
  ·rw [axn fun p hpm he => hex ⟨p, hpm, he⟩]
   exact g3 fun s Z' hs => hex ⟨_, aj5 hs, rfl⟩
 have key : ∀ zl' : List (Nat × Obj), (zl'.map (·.1)).Nodup → (∀ p ∈ zl', p ∈ zl) → Own w (ap6 zl' wl γ H) (zl'.map (fun p => γ p.1) ++ F) ∧ (zl'.map (fun p => γ p.1) ++ F).Nodup := by
  intro zl'
  induction zl' with
  | nil => intro _ _; exact ⟨by simpa [ap6] using h1.keep fun k hk => hm.below.block k (hF k hk), by simpa using h2⟩
  | cons q r ih =>
   intro hn hsub
   rw [List.map_cons, List.nodup_cons] at hn
   obtain ⟨i1, i2⟩ := ih hn.2 fun p hp => hsub p (List.mem_cons_of_mem _ hp)
   have hqm := hsub q (List.mem_cons_self ..)
   have hq1 := hq q hqm
   refine ⟨⟨[γ q.1], r.map (fun p => γ p.1) ++ F, rfl, ⟨rfl, hq1.1⟩, i1⟩, ?_⟩
   show (γ q.1 :: (r.map (fun p => γ p.1) ++ F)).Nodup
   refine List.nodup_cons.2 ⟨fun hmem => ?_, i2⟩
   rcases List.mem_append.1 hmem with hmem | hmem
   ·obtain ⟨p, hp', he⟩ := List.mem_map.1 hmem
    have hpm := hsub p (List.mem_cons_of_mem _ hp')
    have := hm.inj q.1 p.1 q.2 p.2 (Nat.blt_eq ▸ hz.2 q hqm) (Nat.blt_eq ▸ hz.2 p hpm) (aez hnd hqm) (aez hnd hpm) he.symm
    exact hn.1 (this ▸ List.mem_map_of_mem hp')
   ·have := hF _ hmem; omega
 obtain ⟨k1, k2⟩ := key zl hnd fun _ h => h
 refine ⟨hb.os, hb.tape, hb.output, hb.size, hb.keep, hb.ro, _, k1, k2, fun k hk => ?_⟩
 rcases List.mem_append.1 hk with hk | hk
 ·obtain ⟨p, hp', rfl⟩ := List.mem_map.1 hk
  have hq1 := hq p hp'
  exact ⟨b6 hq1.1, .inl (Nat.le_trans hp.size hq1.2)⟩
 ·exact ⟨Nat.lt_of_lt_of_le (h3 k hk).1 hm.below.size, (h3 k hk).2⟩
theorem asm {id : Nat} {l : List Oper} {L : Sl} (zl : List (Nat × Obj)) (wl : List (Nat × Nat × Obj)) (hm : P.follows .mixedOrders = true) (hB : ai9 l.toArray = true) (hz : akf l.length zl = true) (hw : apj l.length wl = true)
  (h : ∀ T : World → o7 → Act → Prop, (∀ (L' : FSl), (∀ γ, QX Q .normal C (L' γ) (ap6 zl wl γ H)) → ∀ (A : Fam) (w0 : World), (∀ β, Fr C (L' β) (A β)) → Hp C H w0 → ∀ γ, T w0 γ (A γ)) → FS P l.toArray T C (fun _ => L) H zl wl 0 l) : WC P (.region id l.toArray true) Q C L H := by
 intro a w hf hp
 refine SB.wp_region_flowA_all (y8 zl) (aca wl) hm hB (arx hw) ?_
 have h1 := h (fun w0 γ a' => ∀ w', SB.Made w0.heap.size w0 (y8 zl) (aca wl) l.length γ w' → Q .normal a' w')
  (fun L' hL A w0 hA hw0 γ w' hmade => hL γ (A γ) w' (hA γ) (awv hw0 hz hw hmade)) (fun _ => a) w.drew (fun _ => hf) hp.drew
 have hm : ∀ (l1 : List Oper) (k0 : Nat) (A : Fam), SB.wpFlowA P l.toArray w.drew.heap.size w.drew (y8 zl) (aca wl) (fun A => ∀ γ w', SB.Made w.drew.heap.size w.drew (y8 zl) (aca wl) l.length γ w' → Q .normal (A γ) w') l1 k0 A → SB.wpFlowA P l.toArray w.drew.heap.size w.drew (y8 zl) (aca wl) (fun A => ∀ γ w', SB.Made w.drew.heap.size w.drew (y8 zl) (aca wl) l.length γ w' → Q .normal (A γ) w') l1 k0 A := fun _ _ _ h => h
 exact hm _ _ _ h1
end Go.Proofs.YtohnchdnkbadaaaDoor
namespace Go.Proofs.YtohnchdnkbadaaaDoor
open Go Go.RowKit
variable {P : Program} {ops : Array Oper} {Q : Exit → Act → World → Prop} {C : Cx} {L : Sl} {H : List HA} {rest : List Oper} {o : Oper} {w : World}
def o8 : Value → Nat
 | .slice (some a) _ _ => a.block
 | _ => 0
theorem anb : ∀ {Fs : List (List Nat)} {i : Nat} {F F' : List Nat}, Fs.flatten.Nodup → Fs[i]? = some F → F'.Nodup → (∀ k ∈ F', k ∈ F ∨ ∀ G ∈ Fs, k ∉ G) → (Fs.set i F').flatten.Nodup
 | [], i, F, F', _, h, _, _ => by simp at h
 | G :: Fs, 0, F, F', hn, h, hF, hk => by
  simp at h
  subst h
  rw [List.flatten_cons, List.nodup_append] at hn
  rw [List.set_cons_zero, List.flatten_cons, List.nodup_append]
  refine ⟨hF, hn.2.1, fun x hx y hy e => ?_⟩
  subst e
  obtain ⟨G', hG', hxG⟩ := List.mem_flatten.1 hy
  rcases hk x hx with h1 | h1
  ·exact hn.2.2 x h1 x hy rfl
  ·exact h1 G' (List.mem_cons_of_mem _ hG') hxG
 | G :: Fs, i + 1, F, F', hn, h, hF, hk => by
  simp at h
  rw [List.flatten_cons, List.nodup_append] at hn
  rw [List.set_cons_succ, List.flatten_cons, List.nodup_append]
  refine ⟨hn.1, anb hn.2.1 h hF fun k hkk => (hk k hkk).imp_right fun h1 G' hG' => h1 G' (List.mem_cons_of_mem _ hG'), fun x hx y hy e => ?_⟩
  subst e
  obtain ⟨G', hG', hxG⟩ := List.mem_flatten.1 hy
  rcases List.mem_or_eq_of_mem_set hG' with h1 | h1
  ·exact hn.2.2 x hx x (List.mem_flatten.2 ⟨G', h1, hxG⟩) rfl
  ·subst h1
   rcases hk x hxG with h2 | h2
   ·exact hn.2.2 x hx x (List.mem_flatten.2 ⟨F, List.mem_of_getElem? h, h2⟩) rfl
   ·exact h2 G (List.mem_cons_self ..) hx
theorem anv {w' : World} : ∀ {Fs : List (List Nat)} {H : List HA} {i : Nat} {x' : HA} {F' : List Nat}, Fs.length = H.length → (∀ (j : Nat) (h : HA) (f : List Nat), H[j]? = some h → j ≠ i → Fs[j]? = some f → h.at w' f) → x'.at w' F' → Own w' (H.set i x') (Fs.set i F').flatten
 | [], [], i, x', F', _, _, _ => by simp [Own]
 | [], _ :: _, _, _, _, hl, _, _ => by simp at hl
 | _ :: _, [], _, _, _, hl, _, _ => by simp at hl
 | F :: Fs, h0 :: H, 0, x', F', hl, hall, hx => by
  refine ⟨F', Fs.flatten, by simp, hx, ?_⟩
  have := anv (w' := w') (Fs := Fs) (H := H) (i := H.length) (x' := x') (F' := F') (by simpa using hl) (fun j h f hh _ hf => hall (j + 1) h f (by simpa using hh) (by omega) (by simpa using hf)) hx
  have hl' : Fs.length = H.length := by simpa using hl
  rwa [List.set_eq_of_length_le (Nat.le_refl _), List.set_eq_of_length_le (by omega)] at this
 | F :: Fs, h0 :: H, i + 1, x', F', hl, hall, hx => by
  refine ⟨F, (Fs.set i F').flatten, by simp, hall 0 h0 F (by simp) (by omega) (by simp), ?_⟩
  exact anv (by simpa using hl) (fun j h f hh hn hf => hall (j + 1) h f (by simpa using hh) (by omega) (by simpa using hf)) hx
theorem Hp.swap (h : Hp C H w) {w' : World} {i : Nat} {x x' : HA} (hi : H[i]? = some x) (hos : w'.os = w.os) (htape : w'.tape = w.tape) (hout : w'.output = w.output) (hsz : w.heap.size ≤ w'.heap.size)
  (hoth : ∀ F, x.at w F → ∀ k, k < w.heap.size → k ∉ F → w'.heap[k]? = w.heap[k]?)
  (hst : ∀ F, x.at w F → F.Nodup → ∃ F', x'.at w' F' ∧ F'.Nodup ∧ (∀ k ∈ F', (k ∈ F ∨ w.heap.size ≤ k) ∧ k < w'.heap.size)) : Hp C (H.set i x') w' := by
 obtain ⟨F0, h1, h2, h3⟩ := h.own
 obtain ⟨Fs, hl, rfl, hall⟩ := h1.parts
 have hlt : i < Fs.length := by rw [hl]; exact (List.getElem?_eq_some_iff.1 hi).1
 have hfi : Fs[i]? = some Fs[i] := List.getElem?_eq_getElem hlt
 have hx := hall i _ _ hi hfi
 obtain ⟨F', k1, k2, k3⟩ := hst _ hx (alb h2 hfi)
 have hmem : ∀ G ∈ Fs, ∀ k ∈ G, k < w.heap.size ∧ (C.w0.heap.size ≤ k ∨ k ∈ C.M) := fun G hG k hk => h3 k (List.mem_flatten.2 ⟨G, hG, hk⟩)
 refine ⟨hos.trans h.os, htape.trans h.tape, hout.trans h.output, Nat.le_trans h.size hsz, fun k hk hM => ?_, h.ro, (Fs.set i F').flatten, ?_, ?_, fun k hk => ?_⟩
 ·rw [hoth _ hx k (by have := h.size; omega) (fun hm => by
   rcases (hmem _ (List.mem_of_getElem? hfi) k hm).2 with h4 | h4
   ·omega
   ·exact hM h4)]
  exact h.keep k hk hM
 ·refine anv hl (fun j hj f hjj hne hf => ?_) k1
  refine HA.at_keep (hall j hj f hjj hf) fun k hk => hoth _ hx k (hmem f (List.mem_of_getElem? hf) k hk).1 fun hm => ?_
  exact ad8 h2 hf hfi hne k hk hm
 ·refine anb h2 hfi k2 fun k hk => ?_
  rcases (k3 k hk).1 with h4 | h4
  ·exact .inl h4
  ·exact .inr fun G hG hkG => by have := (hmem G hG k hkG).1; omega
 ·obtain ⟨G, hG, hkG⟩ := List.mem_flatten.1 hk
  rcases List.mem_or_eq_of_mem_set hG with h4 | h4
  ·exact ⟨Nat.lt_of_lt_of_le (hmem G h4 k hkG).1 hsz, (hmem G h4 k hkG).2⟩
  ·subst h4
   refine ⟨(k3 k hkG).2, ?_⟩
   rcases (k3 k hkG).1 with h5 | h5
   ·exact (hmem _ (List.mem_of_getElem? hfi) k h5).2
   ·exact .inl (Nat.le_trans h.size h5)
theorem Hp.row (h : Hp C H w) {i : Nat} {v : Value} {t : TypeId} {sz n : Nat} {xs : List Value} (hi : H[i]? = some (.row v t sz n xs)) : w.ownsRow 0 t sz v n xs := by
 obtain ⟨F, h1, _, _⟩ := h.own
 obtain ⟨Fs, hl, _, hall⟩ := h1.parts
 have hlt : i < Fs.length := by rw [hl]; exact (List.getElem?_eq_some_iff.1 hi).1
 exact (hall i _ _ hi (List.getElem?_eq_getElem hlt)).2
section lists
variable {α : Type} {f : α → List Value} {sz : Nat}
theorem aas (hf : ∀ x, (f x).length = sz) : ∀ l : List α, (l.flatMap f).length = l.length * sz
 | [] => by simp
 | x :: l => by rw [List.flatMap_cons, List.length_append, hf, aas hf l, List.length_cons, Nat.add_mul]; omega
theorem ac3 (hf : ∀ x, (f x).length = sz) : ∀ (l : List α) (i : Nat), (l.flatMap f).drop (i * sz) = (l.drop i).flatMap f
 | l, 0 => by simp
 | [], i + 1 => by simp
 | x :: l, i + 1 => by
  rw [List.flatMap_cons, Nat.add_mul, Nat.one_mul, Nat.add_comm, ← List.drop_drop, List.drop_left' (hf x), ac3 hf l i]; rfl
theorem aom [Inhabited α] (hf : ∀ x, (f x).length = sz) {l : List α} {i : Nat} (hi : i < l.length) : ((l.flatMap f).drop (i * sz)).take sz = f (l.getD i default) := by
 rw [ac3 hf, List.drop_eq_getElem_cons hi, List.flatMap_cons, List.take_left' (hf _), List.getD_eq_getElem?_getD, List.getElem?_eq_getElem hi]; rfl
theorem aky [Inhabited α] (hf : ∀ x, (f x).length = sz) {l : List α} {i o : Nat} {u : Value} (hi : i < l.length) (hu : (f (l.getD i default))[o]? = some u) : (l.flatMap f)[i * sz + o]? = some u := by
 have ho : o < sz := by rw [← hf (l.getD i default)]; exact (List.getElem?_eq_some_iff.1 hu).1
 rw [← aom hf hi, List.getElem?_take, if_pos ho, List.getElem?_drop] at hu
 exact hu
theorem aqu [Inhabited α] (hf : ∀ x, (f x).length = sz) {l : List α} {i : Nat} (hi : i < l.length) (x : α) : (l.flatMap f).take (i * sz) ++ f x ++ (l.flatMap f).drop (i * sz + sz) = (l.set i x).flatMap f := by
 have h1 : ∀ (l : List α) (i : Nat), (l.flatMap f).take (i * sz) = (l.take i).flatMap f := by
  intro l
  induction l with
  | nil => intro i; simp
  | cons y l ih =>
   intro i
   cases i with
   | zero => simp
   | succ i =>
    rw [List.flatMap_cons, Nat.add_mul, Nat.one_mul, Nat.add_comm, List.take_append, hf, List.take_of_length_le (by rw [hf]; omega), show sz + i * sz - sz = i * sz by omega, ih i]; rfl
 have h2 : i * sz + sz = (i + 1) * sz := by rw [Nat.add_mul, Nat.one_mul]
 rw [h1, h2, ac3 hf, List.set_eq_take_append_cons_drop, if_pos hi]
 simp [List.flatMap_append]
theorem amp [Inhabited α] (hf : ∀ x, (f x).length = sz) {l : List α} {i o : Nat} (hi : i < l.length) (ho : o < sz) {u : Value} {x : α} (he : (f (l.getD i default)).set o u = f x) :
  (l.flatMap f).take (i * sz + o) ++ [u] ++ (l.flatMap f).drop (i * sz + o + 1) = (l.set i x).flatMap f := by
 have hlen := aas hf l
 have hlt : i * sz + o < (l.flatMap f).length := by
  rw [hlen]
  have : (i + 1) * sz ≤ l.length * sz := Nat.mul_le_mul_right _ hi
  rw [Nat.add_mul, Nat.one_mul] at this; omega
 have h1 : (l.flatMap f).take (i * sz + o) ++ [u] ++ (l.flatMap f).drop (i * sz + o + 1) = (l.flatMap f).set (i * sz + o) u := by
  rw [List.set_eq_take_append_cons_drop, if_pos hlt]; simp
 rw [h1, ← aqu hf hi x, ← he, ← aom hf hi]
 have hl2 : ((l.flatMap f).drop (i * sz)).length ≥ sz := by
  rw [List.length_drop, hlen]
  have : (i + 1) * sz ≤ l.length * sz := Nat.mul_le_mul_right _ hi
  rw [Nat.add_mul, Nat.one_mul] at this; omega
 generalize l.flatMap f = ys at hlt hl2 ⊢
 refine List.ext_getElem? fun j => ?_
 rw [List.length_drop] at hl2
 have e1 : (ys.take (i * sz)).length = i * sz := by rw [List.length_take]; omega
 have e2 : (((ys.drop (i * sz)).take sz).set o u).length = sz := by rw [List.length_set, List.length_take, List.length_drop]; omega
 rw [List.append_assoc]
 by_cases c1 : j < i * sz
 ·rw [List.getElem?_append_left (by rw [e1]; exact c1), List.getElem?_take, if_pos c1, List.getElem?_set_ne (by omega)]
 ·rw [List.getElem?_append_right (by rw [e1]; omega), e1]
  by_cases c2 : j < i * sz + sz
  ·rw [List.getElem?_append_left (by rw [e2]; omega)]
   by_cases c3 : j = i * sz + o
   ·subst c3
    rw [List.getElem?_set_self hlt, show i * sz + o - i * sz = o by omega, List.getElem?_set_self (by rw [List.length_take, List.length_drop]; omega)]
   ·rw [List.getElem?_set_ne (by omega), List.getElem?_set_ne (by omega), List.getElem?_take, if_pos (by omega), List.getElem?_drop]
    congr 1; omega
  ·rw [List.getElem?_append_right (by rw [e2]; omega), e2, List.getElem?_set_ne (by omega), List.getElem?_drop]
   congr 1; omega
end lists
section ov
variable {x y : Operand} {t e' ty T : TypeId} {d : Option Tmp} {p : String} {e : Array Edge} {g : Option (Nat × Bool)} {v : Value} {k : IntKind} {sz n : Nat} {xs : List Value} {α : Type} [Inhabited α] {f : α → List Value} {l : List α}
theorem OV.lenRow (i : Nat) (hx : ev L x = some v) (hi : H[i]? = some (.row v T sz n xs)) (ht : slB P t e' sz = true) : OV P C L H ⟨d, .call ⟨.builtin .len, #[x], #[t]⟩, ty, p, e, g⟩ (.int .i64 (n : Int)) := fun a w hf hp => by
 rcases (hp.row hi).2 with ⟨rfl, rfl⟩ | ⟨b, cap, cur, rfl, _⟩
 ·exact OV.lenS hx ht a w hf hp
 ·exact OV.lenS hx ht a w hf hp
theorem OV.indexRow (i : Nat) {j : Int} (hx : ev L x = some v) (hy : ev L y = some (.int k j)) (hi : H[i]? = some (.row v T sz n xs)) (ht : slB P t e' sz = true) (hb : 0 ≤ j ∧ j < n) : OV P C L H ⟨d, .indexAddr t x y, ty, p, e, g⟩ (.pointer (some ⟨o8 v, j.toNat * sz, none⟩)) := fun a w hf hp => by
 rcases (hp.row hi).2 with ⟨rfl, rfl⟩ | ⟨b, cap, cur, rfl, _⟩
 ·exact absurd hb.2 (by omega)
 ·exact OV.indexSl hx hy ht hb (by simp) a w hf hp
theorem Hp.row_cells (hp : Hp C H w) {i : Nat} (hi : H[i]? = some (.row v T sz n xs)) (hne : xs ≠ []) : ∃ cur : List Value, w.heap[o8 v]? = some (.cells cur.toArray T (0, 0)) ∧ cur.take xs.length = xs := by
 obtain ⟨hl, hr⟩ := hp.row hi
 rcases hr with ⟨rfl, rfl⟩ | ⟨b, cap, cur, rfl, _, hb, _, _, _, ht⟩
 ·exact absurd (List.eq_nil_of_length_eq_zero (by simpa using hl)) hne
 ·exact ⟨cur.toList, by simpa [o8] using hb, by rw [hl]; exact ht⟩
theorem OV.loadRow1 (i : Nat) {off : Nat} {u : Value} (hx : ev L x = some (.pointer (some ⟨o8 v, off, none⟩))) (hi : H[i]? = some (.row v T sz n xs)) (hc : xs[off]? = some u) (ht : abw P t = true) : OV P C L H ⟨d, .load t x, ty, p, e, g⟩ u := fun a w hf hp => by
 obtain ⟨cur, h1, h2⟩ := hp.row_cells hi (fun h => by subst h; simp at hc)
 have hlt : off < xs.length := (List.getElem?_eq_some_iff.1 hc).1
 have hcell : w.cell? ⟨o8 v, off, none⟩ = some u := by
  rw [← h2, List.getElem?_take, if_pos hlt] at hc
  simp [World.cell?, h1, hc]
 simp [execOp, hf.ev hx, Instr.loadAt, Instr.sureAddr, loadVar, ab9 ht, hcell]
theorem OV.loadEF (i : Nat) {j o : Nat} {u : Value} (hx : ev L x = some (.pointer (some ⟨o8 v, j * sz + o, none⟩))) (hi : H[i]? = some (.row v T sz l.length (l.flatMap f))) (hf' : ∀ x, (f x).length = sz) (hj : j < l.length) (hu : (f (l.getD j default))[o]? = some u) (ht : abw P t = true) : OV P C L H ⟨d, .load t x, ty, p, e, g⟩ u :=
 OV.loadRow1 i hx hi (aky hf' hj hu) ht
theorem OV.loadE1 (i : Nat) {j : Nat} {u : Value} (hx : ev L x = some (.pointer (some ⟨o8 v, j * 1, none⟩))) (hi : H[i]? = some (.row v T 1 l.length (l.flatMap f))) (hf' : ∀ x, (f x).length = 1) (hj : j < l.length) (hu : (f (l.getD j default))[0]? = some u) (ht : abw P t = true) : OV P C L H ⟨d, .load t x, ty, p, e, g⟩ u :=
 OV.loadRow1 i hx hi (by have := aky hf' hj hu; simpa using this) ht
end ov
section st
variable {x y : Operand} {t ty T : TypeId} {p : String} {e : Array Edge} {g : Option (Nat × Bool)} {v u : Value} {sz n off : Nat} {xs vs xs' : List Value} {α : Type} [Inhabited α] {f : α → List Value} {l : List α}
theorem OpK.storeRow (i : Nat) (hx : ev L x = some (.pointer (some ⟨o8 v, off, none⟩))) (hy : ev L y = some u) (hi : H[i]? = some (.row v T sz n xs)) (hv : u.cells = vs.toArray) (hs : s8 P t vs.length = true) (hne : vs ≠ []) (hfit : off + vs.length ≤ xs.length) (h1 : vs.all (·.oneCell') = true)
  (he : xs.take off ++ vs ++ xs.drop (off + vs.length) = xs') : OpK P ⟨none, .store t x y, ty, p, e, g⟩ Q C L H L (H.set i (.row v T sz n xs')) := by
 intro K hK a w hf hp
 obtain ⟨hl, hr⟩ := hp.row hi
 have hvl : 0 < vs.length := by
  rcases vs with _ | _
  ·exact absurd rfl hne
  ·simp
 rcases hr with ⟨rfl, rfl⟩ | ⟨b, cap, cur, rfl, _, hb, hn, hm, hcs, htk⟩
 ·have : xs = [] := List.eq_nil_of_length_eq_zero (by simpa using hl)
  subst this; simp at hfit; exact absurd hfit.2 hne
 have hlc : n * sz ≤ cur.size := by rw [hcs]; exact Nat.mul_le_mul_right _ hn
 have hrun := run_storeCells_at (P := P) b off T vs 0 cur w hb (by omega) (by simpa using h1)
 simp only [Nat.add_zero] at hrun
 have hst : (storeVar t ⟨b, off, none⟩ u).run P w = .ok () (w.setRow b (cur.toList.take off ++ vs ++ cur.toList.drop (off + vs.length)).toArray) := by
  simp only [storeVar, Sem.run_bind, ab5 hs, Result.andThen_ok, hv, List.size_toArray, ne_eq, not_true_eq_false, if_false, hrun]
 unfold Oper.wp
 simp only [o8] at hx
 simp only [execOp, hf.ev hx, hf.ev hy, Instr.storeAt, Instr.sureAddr, Sem.run_bind, Sem.run_pure, Result.andThen_ok, hst, Oper.upon]
 refine hK _ _ (hf.put0 _) (hp.swap hi rfl rfl rfl (by simp [World.setRow]) (fun F hF k _ hk => setRow_other w b k _ (fun e => hk (by rw [hF.1, e]; simp [Value.ownBlock]))) (fun F hF hFn => ⟨F, ⟨hF.1, ?_, .inr ⟨b, cap, _, rfl, Nat.zero_le _, aab hb, hn, hm, ?_, ?_⟩⟩, hFn, fun k hk => ⟨.inl hk, ?_⟩⟩))
 ·rw [← he, List.length_append, List.length_append, List.length_take, List.length_drop]; omega
 ·simp only [List.size_toArray, List.length_append, List.length_take, List.length_drop, Array.length_toList]; omega
 ·have hcl : cur.toList.length = cur.size := Array.length_toList
  have hA : (cur.toList.take off ++ vs).length = off + vs.length := by rw [List.length_append, List.length_take]; omega
  rw [← he, ← htk, List.take_append, List.take_of_length_le (by omega), hA, List.take_take, Nat.min_eq_left (by omega), List.drop_take]
 ·rw [hF.1] at hk
  simp [Value.ownBlock] at hk
  subst hk
  simp only [World.setRow, Array.size_modify]; exact b6 hb
theorem WL.storeE (i : Nat) {j : Nat} {z : α} (hx : ev L x = some (.pointer (some ⟨o8 v, j * sz, none⟩))) (hy : ev L y = some u) (hi : H[i]? = some (.row v T sz l.length (l.flatMap f))) (hf' : ∀ x, (f x).length = sz) (h0 : 0 < sz) (hj : j < l.length) (hv : u.cells = (f z).toArray) (hs : s8 P t sz = true) (h1 : (f z).all (·.oneCell') = true)
  (hw : r9 ops L ⟨none, .store t x y, ty, p, e, g⟩ = some true) (h : WL P ops Q C L (H.set i (.row v T sz (l.set j z).length ((l.set j z).flatMap f))) rest) : WL P ops Q C L H (⟨none, .store t x y, ty, p, e, g⟩ :: rest) := by
 refine WL.op (OpK.storeRow (xs' := (l.set j z).flatMap f) i hx hy hi hv (by rw [hf']; exact hs) (fun e => by have := hf' z; rw [e, List.length_nil] at this; omega) ?_ h1 (by rw [hf']; exact aqu hf' hj z)) hw (by rw [List.length_set] at h; exact h)
 rw [aas hf', hf']
 have : (j + 1) * sz ≤ l.length * sz := Nat.mul_le_mul_right _ hj
 rw [Nat.add_mul, Nat.one_mul] at this; exact this
theorem WL.storeEF (i : Nat) {j o : Nat} {z : α} (hx : ev L x = some (.pointer (some ⟨o8 v, j * sz + o, none⟩))) (hy : ev L y = some u) (hi : H[i]? = some (.row v T sz l.length (l.flatMap f))) (hf' : ∀ x, (f x).length = sz) (hj : j < l.length) (ho : o < sz) (hv : u.cells = #[u]) (hs : s8 P t 1 = true) (h1 : u.oneCell' = true) (he : (f (l.getD j default)).set o u = f z)
  (hw : r9 ops L ⟨none, .store t x y, ty, p, e, g⟩ = some true) (h : WL P ops Q C L (H.set i (.row v T sz (l.set j z).length ((l.set j z).flatMap f))) rest) : WL P ops Q C L H (⟨none, .store t x y, ty, p, e, g⟩ :: rest) := by
 refine WL.op (OpK.storeRow (vs := [u]) i hx hy hi hv hs (by simp) ?_ (by simp [h1]) (amp hf' hj ho he)) hw (by rw [List.length_set] at h; exact h)
 rw [aas hf']
 have : (j + 1) * sz ≤ l.length * sz := Nat.mul_le_mul_right _ hj
 rw [Nat.add_mul, Nat.one_mul] at this; simp only [List.length_cons, List.length_nil]; omega
end st
def ajd (P : Program) (e : TypeId) : Option (List Value × Nat × Nat) := match P.info? e with
 | some i => match i.zero with
  | some z => some (z.cells.toList, i.size, i.bytes)
  | none => none
 | none => none
theorem ag7 {e : TypeId} {zs : List Value} {sz bytes : Nat} (h : ajd P e = some (zs, sz, bytes)) : ∃ i z, P.info? e = some i ∧ i.zero = some z ∧ z.cells = zs.toArray ∧ i.size = sz ∧ i.bytes = bytes := by
 unfold ajd at h
 cases hq : P.info? e with
 | none => simp [hq] at h
 | some i =>
  cases hz : i.zero with
  | none => simp [hq, hz] at h
  | some z => simp [hq, hz] at h; exact ⟨i, z, rfl, hz, by rw [← h.1], h.2.1, h.2.2⟩
theorem amx {w : World} {t ty e : TypeId} {i : TypeInfo} {z : Value} {size bytes : Nat} (ht : P.underlying t = some (.slice e)) (hi : P.info? e = some i) (hz : i.zero = some z)
  (hsize : i.size = size) (hby : i.bytes = bytes) {v : Value} {n : Nat} {xs : List Value} (hown : w.ownsRow 0 e size v n xs)
  {a : Addr} {m c : Nat} {news : List Value} (hl : news.length = m * size) (hnews : ∀ j u, news[j]? = some u → w.cell? (a.add j) = some u) (h1 : ∀ u ∈ news, u.oneCell' = true)
  (h63 : n + m ≤ 9223372036854775807) (hbytes : ((n + m) + (n + m) / 4 + 192) * bytes ≤ 281474976710656) {v' : Value} {w' : World} (hr : (Builtin.append_ #[t, t] ty #[v, .slice (some a) m c]).run P w = .ok v' w') {k : Nat} (hk : v'.ownBlock = some k) : v.ownBlock = some k ∨ w.heap.size ≤ k := by
 subst hsize
 subst hby
 rcases hown.2 with ⟨rfl, rfl⟩ | ⟨g, cap, cur, rfl, _, hg, hnc, _, hcs, _⟩
 ·by_cases hm : m = 0
  ·subst hm
   have hn : news = [] := List.eq_nil_of_length_eq_zero (by simpa using hl)
   subst hn
   have : (Builtin.append_ #[t, t] ty #[.slice none 0 0, .slice (some a) 0 c]).run P w = .ok (.slice none 0 0) w := by
    simp [Builtin.append_, run_underlying ht, sizeOf, typeInfo, hi, Builtin.lenOf, Builtin.firstCells, loadCells, loadCellsFrom]
   rw [this] at hr
   cases hr
   simp [Value.ownBlock] at hk
  ·rw [run_append_nil (P := P) w t ty e i z ht hi hz a m c news hl hnews (by omega) (by omega) (by have hb := hbytes; simp only [Nat.zero_add] at hb; exact Nat.le_trans (Nat.mul_le_mul_right _ (by omega)) hb)] at hr
   cases hr
   simp [Value.ownBlock] at hk
   exact .inr (by omega)
 ·by_cases hroom : n + m ≤ cap
  ·have hfit : n * i.size + news.length ≤ cur.size := by rw [hl, hcs, ← Nat.add_mul]; exact Nat.mul_le_mul_right _ hroom
   rw [run_append_room (P := P) w t ty e i ht hi g n cap cur hg a m c news hl hnews h1 hroom hfit] at hr
   cases hr
   exact .inl hk
  ·have holds : ∀ j u, xs[j]? = some u → w.cell? ((⟨g, 0, none⟩ : Addr).add j) = some u := hown.cells (g := g) rfl
   rw [run_append_grow (P := P) w t ty e i z ht hi hz ⟨g, 0, none⟩ n cap xs hown.1 holds a m c news hl hnews (by omega) (by omega) (growslice_fits_wide (by omega) hbytes)] at hr
   cases hr
   simp [Value.ownBlock] at hk
   exact .inr (by omega)
section ap
variable {s x y z : Operand} {t e' ty T : TypeId} {p : String} {e : Array Edge} {v : Value} {k k' : IntKind} {sz bytes : Nat} {zs cs : List Value} {α : Type} {f : α → List Value} {l ms : List α} {d : Nat}
theorem WL.append (i j : Nat) {b : Nat} {m c : Nat} (hs : ev L s = some v) (hx : ev L x = some (.slice (some ⟨b, 0, none⟩) m c)) (hi : H[i]? = some (.row v e' sz l.length (l.flatMap f))) (hj : H[j]? = some (.blk b (.cells cs.toArray T (0, 0)))) (hc : cs = ms.flatMap f) (hm : ms.length = m)
  (hf' : ∀ x, (f x).length = sz) (h0 : 0 < sz) (h1 : cs.all (·.oneCell') = true) (ht : slB P t e' sz = true) (hinf : ajd P e' = some (zs, sz, bytes)) (hzs : zs.length = sz) (hb : ((l.length + m) + (l.length + m) / 4 + 192) * bytes ≤ 281474976710656 ∧ l.length + m ≤ 9223372036854775807)
  (hw : r9 ops L ⟨some d, .call ⟨.builtin .append, #[s, x], #[t, t]⟩, ty, p, e, none⟩ = some true) (hn : Nat.blt d C.n = true)
  (h : ∀ v', WL P ops Q C ((d, v') :: L) (H.set i (.row v' e' sz (l ++ ms).length ((l ++ ms).flatMap f))) rest) : WL P ops Q C L H (⟨some d, .call ⟨.builtin .append, #[s, x], #[t, t]⟩, ty, p, e, none⟩ :: rest) := by
 intro a w hf hp
 obtain ⟨inf, z, q1, q2, q3, q4, q5⟩ := ag7 hinf
 have hblk := hp.blk hj
 subst hm
 have hlen : cs.length = ms.length * sz := by rw [hc, aas hf']
 have hnews : ∀ q u, cs[q]? = some u → w.cell? ((⟨b, 0, none⟩ : Addr).add q) = some u := fun q u hq => by
  rw [Addr.add_mid, Nat.zero_add]; simp [World.cell?, hblk, hq]
 have hone : ∀ u ∈ cs, u.oneCell' = true := fun u hu => (List.all_eq_true.1 h1) u hu
 obtain ⟨v', w', hr, r1, r2, _⟩ := run_append_own_wide (P := P) w 0 t ty e' inf z sz bytes (aau ht).1 q1 q2 q4 q5 (by rw [q3]; simpa using hzs) h0 v l.length (l.flatMap f) (hp.row hi) ⟨b, 0, none⟩ ms.length c cs hlen hnews hone (by simp only [maxLen]; omega) hb.1 (Nat.zero_le _)
 refine w8 (m3 hf hw) ?_
 unfold Oper.wp execOp
 simp only [resolve, invoke, builtin, Sem.run_bind, Sem.run_pure, Result.andThen_ok, List.map_toArray, List.map_cons, List.map_nil, hf.ev hs, hf.ev hx, hr]
 refine h v' _ w' (hf.put hn v') (hp.swap hi r2.os r2.tape r2.output r2.size (fun F hF k hk hkF => r2.block k hk (fun e => hkF (by rw [hF.1, ← e]; simp))) (fun F hF _ => ⟨v'.ownBlock.toList, ⟨rfl, by rw [List.length_append, List.flatMap_append, ← hc]; exact r1⟩, by cases v'.ownBlock <;> simp, fun k hk => ?_⟩))
 have hk' : v'.ownBlock = some k := by simpa using hk
 refine ⟨?_, (r1.lt k hk').2⟩
 rcases amx (aau ht).1 q1 q2 q4 q5 (hp.row hi) hlen hnews hone hb.2 hb.1 hr hk' with h4 | h4
 ·exact .inl (by rw [hF.1, h4]; simp)
 ·exact .inr h4
end ap
end Go.Proofs.YtohnchdnkbadaaaDoor
namespace Go.Proofs.YtohnchdnkbadaaaDoor
open Go Go.RowKit
variable {P : Program} {ops : Array Oper} {Q : Exit → Act → World → Prop} {C : Cx} {L : Sl} {H : List HA} {rest : List Oper} {o : Oper} {w : World}
theorem Hp.nilRow (h : Hp C H w) (T : TypeId) (sz : Nat) {α : Type} (f : α → List Value) : Hp C (.row (.slice none 0 0) T sz ([] : List α).length (([] : List α).flatMap f) :: H) w := by
 obtain ⟨F, h1, h2, h3⟩ := h.own
 exact ⟨h.os, h.tape, h.output, h.size, h.keep, h.ro, F, ⟨[], F, rfl, ⟨rfl, World.ownsRow_nil w 0 T sz⟩, h1⟩, h2, h3⟩
theorem WL.nilRow (T : TypeId) (sz : Nat) {α : Type} (f : α → List Value) (h : WL P ops Q C L (.row (.slice none 0 0) T sz ([] : List α).length (([] : List α).flatMap f) :: H) rest) : WL P ops Q C L H rest := fun a w hf hp => h a w hf (hp.nilRow T sz f)
theorem WC.nilRow {c : Code} (T : TypeId) (sz : Nat) {α : Type} (f : α → List Value) (h : WC P c Q C L (.row (.slice none 0 0) T sz ([] : List α).length (([] : List α).flatMap f) :: H)) : WC P c Q C L H := fun a w hf hp => h a w hf (hp.nilRow T sz f)
theorem QX.nilRow {e : Exit} (T : TypeId) (sz : Nat) {α : Type} (f : α → List Value) (h : QX Q e C L (.row (.slice none 0 0) T sz ([] : List α).length (([] : List α).flatMap f) :: H)) : QX Q e C L H := fun a w hf hp => h a w hf (hp.nilRow T sz f)
theorem Hp.newRow (h : Hp C H w) {w' : World} {g : Nat} {v : Value} {T : TypeId} {sz n : Nat} {xs : List Value} (hg : w.grownBy w' none) (hv : v.ownBlock = some g) (hge : w.heap.size ≤ g) (hr : w'.ownsRow 0 T sz v n xs) : Hp C (.row v T sz n xs :: H) w' := by
 obtain ⟨F, h1, h2, h3⟩ := h.own
 refine ⟨hg.os.trans h.os, hg.tape.trans h.tape, hg.output.trans h.output, Nat.le_trans h.size hg.size, fun k hk hM => ?_, h.ro, g :: F, ⟨[g], F, rfl, ⟨by rw [hv]; rfl, hr⟩, h1.keep fun k hk => hg.block k (h3 k hk).1 (by simp)⟩, ?_, fun k hk => ?_⟩
 ·rw [hg.block k (by have := h.size; omega) (by simp)]; exact h.keep k hk hM
 ·exact List.nodup_cons.2 ⟨fun hm => by have := (h3 _ hm).1; omega, h2⟩
 ·rcases List.mem_cons.1 hk with rfl | hk
  ·exact ⟨(hr.lt k hv).2, .inl (Nat.le_trans h.size hge)⟩
  ·exact ⟨Nat.lt_of_lt_of_le (h3 k hk).1 hg.size, (h3 k hk).2⟩
section mk
variable {x y : Operand} {t e' ty : TypeId} {p : String} {e : Array Edge} {g : Option (Nat × Bool)} {k k' : IntKind} {sz bytes : Nat} {zs : List Value} {d : Nat} {α : Type} {f : α → List Value}
theorem avp {z : Array Value} {f : α → List Value} {zero : α} {sz : Nat} (hz : z.toList = f zero) (hf' : ∀ x, (f x).length = sz) (n : Nat) : (madeCells z (n * sz)).toList = (List.replicate n zero).flatMap f := by
 have hsz : z.size = sz := by rw [← Array.length_toList, hz, hf']
 refine List.ext_getElem? fun j => ?_
 have hl : ((List.replicate n zero).flatMap f).length = n * sz := by rw [aas hf', List.length_replicate]
 by_cases hj : j < n * sz
 ·have h0 : 0 < sz := by
   rcases Nat.eq_zero_or_pos sz with h | h
   ·subst h; simp at hj
   ·exact h
  have hq : j / sz < n := Nat.div_lt_of_lt_mul (by rw [Nat.mul_comm]; exact hj)
  have hr := Nat.mod_lt j h0
  have e1 : j = j / sz * sz + j % sz := (Nat.div_add_mod' j sz).symm
  have h2 : ((List.replicate n zero).flatMap f)[j]? = (f zero)[j % sz]? := by
   have h3 := congrArg (fun l => l[j % sz]?) (ac3 (f := f) hf' (List.replicate n zero) (j / sz))
   simp only [List.getElem?_drop] at h3
   rw [← e1] at h3
   rw [h3, List.drop_replicate, show n - j / sz = (n - j / sz - 1) + 1 by omega, List.replicate_succ, List.flatMap_cons, List.getElem?_append_left (by rw [hf']; exact hr)]
  rw [h2, ← hz]
  simp [madeCells, hj, hsz]
  rw [getElem!_pos z (j % sz) (by omega), Array.getElem?_eq_getElem (by omega)]
 ·have hm : (madeCells z (n * sz)).toList.length = n * sz := by rw [Array.length_toList, size_madeCells]
  rw [List.getElem?_eq_none (by omega), List.getElem?_eq_none (by omega)]
theorem WL.makeRow [Inhabited α] {c : Int} {zero : α} (hx : ev L x = some (.int k c)) (hy : ev L y = some (.int k' c)) (ht : slB P t e' sz = true) (hinf : ajd P e' = some (zs, sz, bytes)) (hb : 0 ≤ c ∧ (bytes : Int) * c ≤ 281474976710656 ∧ c ≤ 9223372036854775807)
  (f : α → List Value) (hz : zs = f zero) (hf' : ∀ x, (f x).length = sz)
  (hw : r9 ops L ⟨some d, .makeSlice t x y, ty, p, e, g⟩ = some true) (hn : Nat.blt d C.n = true)
  (h : ∀ v, WL P ops Q C ((d, v) :: L) (.row v e' sz (List.replicate c.toNat zero).length ((List.replicate c.toNat zero).flatMap f) :: H) rest) : WL P ops Q C L H (⟨some d, .makeSlice t x y, ty, p, e, g⟩ :: rest) := by
 intro a w hf hp
 obtain ⟨inf, z, q1, q2, q3, q4, q5⟩ := ag7 hinf
 obtain ⟨c, rfl⟩ : ∃ n : Nat, c = n := ⟨c.toNat, by omega⟩
 have hb1 : inf.bytes * c ≤ 281474976710656 := by
  have h2 := hb.2.1
  rw [q5]
  have : ((bytes * c : Nat) : Int) ≤ 281474976710656 := by rw [Int.natCast_mul]; exact h2
  omega
 obtain ⟨w', hr, r1, r2⟩ := run_make_full (P := P) w 0 t e' inf z sz (aau ht).1 q1 q2 q4 k k' c hb1 (by simp only [maxLen]; omega) (Nat.zero_le _)
 refine w8 (m3 hf hw) ?_
 unfold Oper.wp
 simp only [execOp, hf.ev hx, hf.ev hy, Sem.run_bind, hr, Result.andThen_ok, Sem.run_pure, Oper.upon]
 refine h _ _ w' (hf.put hn _) (hp.newRow r2 rfl (Nat.le_refl _) ?_)
 rw [avp (zero := zero) (f := f) (by rw [q3]; exact hz) hf'] at r1
 rw [List.length_replicate, Int.toNat_natCast]; exact r1
end mk
theorem WL.storeSl {x y : Operand} {t ty T T' : TypeId} {p : String} {e : Array Edge} {g : Option (Nat × Bool)} {b off sz n : Nat} {v : Value} {xs cs cs' : List Value} (i k : Nat)
  (hx : ev L x = some (.pointer (some ⟨b, off, none⟩))) (hy : ev L y = some v) (hi : H[i]? = some (.blk b (.cells cs.toArray T (0, 0)))) (hk : H[k]? = some (.row v T' sz n xs)) (hs : s8 P t 1 = true)
  (hfit : off + 1 ≤ cs.length) (he : cs.take off ++ [v] ++ cs.drop (off + 1) = cs') (hw : r9 ops L ⟨none, .store t x y, ty, p, e, g⟩ = some true)
  (h : WL P ops Q C L (H.set i (.blk b (.cells cs'.toArray T (0, 0)))) rest) : WL P ops Q C L H (⟨none, .store t x y, ty, p, e, g⟩ :: rest) := by
 refine WL.op (fun K hK a w hf hp => ?_) hw h
 rcases (hp.row hk).2 with ⟨rfl, _⟩ | ⟨_, _, _, rfl, _⟩
 ·exact OpK.store (vs := [_]) i hx hy hi rfl hs hfit rfl he K hK a w hf hp
 ·exact OpK.store (vs := [_]) i hx hy hi rfl hs hfit rfl he K hK a w hf hp
end Go.Proofs.YtohnchdnkbadaaaDoor
namespace Go.Proofs.YtohnchdnkbadaaaDoor
open Go Go.RowKit
variable {P : Program} {C : Cx} {L : Sl} {H : List HA}
def abp (P : Program) (ft : TypeId) (a b : Value) (r : Bool) : Prop := ∀ d w, (Op.equalIn (d + 1) ft a b).run P w = .ok r w
theorem abp.int {ft : TypeId} {k k' : IntKind} {a b : Int} (h : P.underlying ft = some (.int k')) : abp P ft (.int k a) (.int k b) (decide (a = b)) := fun d w => by
 rw [run_equalIn_int w d ft k k' a b h]
 congr 1
theorem abp.bool {ft : TypeId} {a b : Bool} (h : P.underlying ft = some .bool) : abp P ft (.bool a) (.bool b) (a == b) := fun d w => run_equalIn_bool w d ft a b h
theorem abp.str {ft : TypeId} {a b : List UInt8} (h : P.underlying ft = some .string) : abp P ft (st a) (st b) (decide (a = b)) := fun d w => by
 rw [run_equalIn_string w d ft _ _ h]
 congr 1; rw [ByteArray.toList_eq, ByteArray.toList_eq, Bool.eq_iff_iff]; simp
def ap8 (P : Program) (xs ys : List Value) : List Field → List Bool → Prop
 | [], [] => True
 | f :: fs, r :: rs => (f.name == "_") = false ∧ abw P f.type = true ∧ (∃ a b, xs[f.offset]? = some a ∧ ys[f.offset]? = some b ∧ abp P f.type a b r) ∧ ap8 P xs ys fs rs
 | _, _ => False
def y5 : List Bool → Bool
 | [] => true
 | [r] => r
 | r :: rs => r && y5 rs
theorem aqe (r : Bool) (rs : List Bool) : y5 (r :: rs) = (r && y5 rs) := by
 cases rs <;> simp [y5]
theorem akg {xs ys : List Value} {d : Nat} {w : World} : ∀ {fs : List Field} {rs : List Bool}, ap8 P xs ys fs rs → (Op.eqFields (d + 1) xs.toArray ys.toArray fs).run P w = .ok (y5 rs) w
 | [], [], _ => by simp [Op.eqFields, y5]
 | f :: fs, r :: rs, ⟨hn, hs, ⟨a, b, ha, hb, hr⟩, h⟩ => by
  have ih := akg (d := d) (w := w) h
  have hn' : ¬ f.name = "_" := by simpa using hn
  have p1 : (part f.type xs.toArray f.offset).run P w = .ok a w := by simp [part, ab9 hs, ha]
  have p2 : (part f.type ys.toArray f.offset).run P w = .ok b w := by simp [part, ab9 hs, hb]
  rw [aqe]
  simp only [Op.eqFields, hn', ne_eq, not_false_eq_true, if_true, Sem.run_bind, p1, p2, Result.andThen_ok, hr d w]
  cases r
  ·simp
  ·simpa using ih
 | [], _ :: _, h => h.elim
 | _ :: _, [], h => h.elim
theorem ahp {t : TypeId} {xs ys : List Value} {fs : Array Field} {rs : List Bool} (hu : P.underlying t = some (.struct fs)) (hp : P.stoodInHeld t = false) (hF : ap8 P xs ys fs.toList rs) (w : World) : (Op.equalIn 10000 t (.agg xs.toArray) (.agg ys.toArray)).run P w = .ok (y5 rs) w := by
 have hfo : P.fieldsOf t = fs := by simp [Program.fieldsOf, hu]
 rw [run_equalIn_struct w 9999 t _ _ (by rw [hfo]; exact hu) hp, hfo]
 exact akg hF
section ov
variable {x y : Operand} {t t' ty : TypeId} {d : Option Tmp} {p : String} {e : Array Edge} {g : Option (Nat × Bool)} {xs ys : List Value} {fs : Array Field} {rs : List Bool}
theorem OV.eqlF (hx : ev L x = some (.agg xs.toArray)) (hy : ev L y = some (.agg ys.toArray)) (hu : P.underlying t = some (.struct fs)) (hp : P.stoodInHeld t = false) (hm : P.eqGuardType P.depth t = false) (hF : ap8 P xs ys fs.toList rs) :
  OV P C L H ⟨d, .binOp .eql t x y t', ty, p, e, g⟩ (.bool (y5 rs)) := fun a w hf _ => by
 simp only [execOp, hf.ev hx, hf.ev hy, Sem.run_bind, run_eqGuard_agg w .eql t x y _ _ hm, Result.andThen_ok, run_eql_struct, ahp hu hp hF, Sem.run_pure]
theorem OV.neqF (hx : ev L x = some (.agg xs.toArray)) (hy : ev L y = some (.agg ys.toArray)) (hu : P.underlying t = some (.struct fs)) (hp : P.stoodInHeld t = false) (hm : P.eqGuardType P.depth t = false) (hF : ap8 P xs ys fs.toList rs) :
  OV P C L H ⟨d, .binOp .neq t x y t', ty, p, e, g⟩ (.bool (!y5 rs)) := fun a w hf _ => by
 simp only [execOp, hf.ev hx, hf.ev hy, Sem.run_bind, run_eqGuard_agg w .neq t x y _ _ hm, Result.andThen_ok, run_neq_struct, ahp hu hp hF, Sem.run_pure]
end ov
end Go.Proofs.YtohnchdnkbadaaaDoor
namespace Go.Proofs.YtohnchdnkbadaaaDoor
open Go Go.RowKit
variable {P : Program} {ops : Array Oper} {Q : Exit → Act → World → Prop} {C : Cx} {L : Sl} {H : List HA} {rest : List Oper} {w : World}
def am9 (v : Value) : Nat := match v with
 | .slice (some a) _ _ => a.off
 | _ => 0
def acx (v : Value) (R : List (Nat × Obj)) (n : Nat) (xs : List Value) : Prop :=
 (n = 0 ∧ xs = [] ∧ (∃ a c, v = .slice a 0 c) ∧ R = []) ∨
 ∃ b off cap, ∃ cs : List Value, ∃ T fr, v = .slice (some ⟨b, off, none⟩) n cap ∧ R = [(b, .cells cs.toArray T fr)] ∧ (cs.drop off).take xs.length = xs
def LIn (C : Cx) (v : Value) (n : Nat) (xs : List Value) : Prop := ∃ R, acx v R n xs ∧ ∀ p ∈ R, p ∈ C.R
theorem LIn.mk {v : Value} {R : List (Nat × Obj)} {n : Nat} {xs : List Value} (h : acx v R n xs) (hR : ∀ p ∈ R, p ∈ C.R) : LIn C v n xs := ⟨R, h, hR⟩
section ov
variable {x y : Operand} {t e' ty : TypeId} {d : Option Tmp} {p : String} {e : Array Edge} {g : Option (Nat × Bool)} {v : Value} {k : IntKind} {sz n : Nat} {xs : List Value} {α : Type} [Inhabited α] {f : α → List Value} {l : List α}
theorem OV.lenIn (h : LIn C v n xs) (hx : ev L x = some v) (ht : slB P t e' sz = true) : OV P C L H ⟨d, .call ⟨.builtin .len, #[x], #[t]⟩, ty, p, e, g⟩ (.int .i64 (n : Int)) := by
 obtain ⟨R, hi, _⟩ := h
 rcases hi with ⟨rfl, _, ⟨a, c, rfl⟩, _⟩ | ⟨b, off, cap, cs, T, fr, rfl, _⟩ <;> exact OV.lenS hx ht
theorem OV.indexIn (h : LIn C v n xs) {j : Int} (hx : ev L x = some v) (hy : ev L y = some (.int k j)) (ht : slB P t e' sz = true) (hb : 0 ≤ j ∧ j < n) : OV P C L H ⟨d, .indexAddr t x y, ty, p, e, g⟩ (.pointer (some ⟨o8 v, am9 v + j.toNat * sz, none⟩)) := by
 obtain ⟨R, hi, _⟩ := h
 rcases hi with ⟨rfl, _⟩ | ⟨b, off, cap, cs, T, fr, rfl, _⟩
 ·omega
 ·exact OV.indexSl hx hy ht hb rfl
theorem LIn.at (h : LIn C v n xs) (hne : xs ≠ []) : ∃ b off, ∃ cs : List Value, ∃ T fr, o8 v = b ∧ am9 v = off ∧ At C H b (.cells cs.toArray T fr) ∧ (cs.drop off).take xs.length = xs := by
 obtain ⟨R, hi, hR⟩ := h
 rcases hi with ⟨_, h0, _⟩ | ⟨b, off, cap, cs, T, fr, rfl, rfl, hc⟩
 ·exact absurd h0 hne
 ·exact ⟨b, off, cs, T, fr, rfl, rfl, At.old (hR _ (by simp)), hc⟩
theorem OV.loadIn1 (h : LIn C v n xs) {off : Nat} {u : Value} (hx : ev L x = some (.pointer (some ⟨o8 v, am9 v + off, none⟩))) (hc : xs[off]? = some u) (ht : abw P t = true) : OV P C L H ⟨d, .load t x, ty, p, e, g⟩ u := by
 obtain ⟨b, o, cs, T, fr, hb, ho, hA, hcs⟩ := h.at (H := H) (fun h => by subst h; simp at hc)
 rw [hb, ho] at hx
 refine OV.load hx hA ?_ ht
 have hlt : off < xs.length := (List.getElem?_eq_some_iff.1 hc).1
 rw [← hcs, List.getElem?_take, if_pos hlt, List.getElem?_drop] at hc
 exact hc
theorem OV.loadInM (h : LIn C v n xs) {off : Nat} {vs : List Value} (hx : ev L x = some (.pointer (some ⟨o8 v, am9 v + off, none⟩))) (hv : (xs.drop off).take vs.length = vs) (hne : vs ≠ []) (ht : RowT P t vs.length) : OV P C L H ⟨d, .load t x, ty, p, e, g⟩ (.agg vs.toArray) := by
 obtain ⟨b, o, cs, T, fr, hb, ho, hA, hcs⟩ := h.at (H := H) (fun h => by subst h; simp at hv; exact hne hv)
 rw [hb, ho] at hx
 refine OV.loadM hx hA ?_ ht
 have hle : vs.length ≤ xs.length - off := by
  have := congrArg List.length hv
  rw [List.length_take, List.length_drop] at this; omega
 generalize xs.length = N at hcs hle
 rw [← hcs, List.drop_take, List.take_take, Nat.min_eq_left hle, List.drop_drop] at hv
 exact hv
theorem OV.loadInE (h : LIn C v l.length (l.flatMap f)) {j : Nat} (hx : ev L x = some (.pointer (some ⟨o8 v, am9 v + j * sz, none⟩))) (hf' : ∀ x, (f x).length = sz) (h0 : 0 < sz) (hj : j < l.length) (ht : RowT P t sz) : OV P C L H ⟨d, .load t x, ty, p, e, g⟩ (.agg (f (l.getD j default)).toArray) :=
 OV.loadInM h hx (by rw [hf']; exact aom hf' hj) (fun h => by have := hf' (l.getD j default); rw [h, List.length_nil] at this; omega) (by rw [hf']; exact ht)
theorem OV.loadInEF (h : LIn C v l.length (l.flatMap f)) {j o : Nat} {u : Value} (hx : ev L x = some (.pointer (some ⟨o8 v, am9 v + j * sz + o, none⟩))) (hf' : ∀ x, (f x).length = sz) (hj : j < l.length) (hu : (f (l.getD j default))[o]? = some u) (ht : abw P t = true) : OV P C L H ⟨d, .load t x, ty, p, e, g⟩ u :=
 OV.loadIn1 h (off := j * sz + o) (by rw [← Nat.add_assoc]; exact hx) (aky hf' hj hu) ht
end ov
def LOk (C : Cx) (Rest : List HA) (v : Value) (n : Nat) (xs : List Value) : Prop := ∀ w F, Own w Rest F → ∃ R, acx v R n xs ∧ ∀ p ∈ R, (w.heap[p.1]? = some p.2 ∧ p.1 ∈ F) ∨ p ∈ C.R
theorem LOk.inn {Rest : List HA} {v : Value} {n : Nat} {xs : List Value} (h : LIn C v n xs) : LOk C Rest v n xs := fun _ _ _ => by
 obtain ⟨R, h1, h2⟩ := h
 exact ⟨R, h1, fun p hp => .inr (h2 p hp)⟩
theorem Own.mem_row {w : World} : ∀ {H : List HA} {F : List Nat}, Own w H F → ∀ {i : Nat} {v : Value} {T sz n : Nat} {xs : List Value}, H[i]? = some (.row v T sz n xs) → w.ownsRow 0 T sz v n xs ∧ ∀ k, v.ownBlock = some k → k ∈ F
 | [], _, _, i, _, _, _, _, _, h => by simp at h
 | x :: H, F, ⟨F1, F2, hF, h1, h2⟩, i, v, T, sz, n, xs, h => by
  cases i with
  | zero =>
   simp at h
   subst h
   exact ⟨h1.2, fun k hk => by rw [hF, h1.1, hk]; simp⟩
  | succ i =>
   have := h2.mem_row (i := i) (by simpa using h)
   exact ⟨this.1, fun k hk => by rw [hF]; exact List.mem_append.2 (.inr (this.2 k hk))⟩
def agh (v : Value) (m : Nat) : Value := match v with
 | .slice a _ c => .slice a m c
 | v => v
theorem LOk.pre {Rest : List HA} {v : Value} {T sz n m : Nat} {xs : List Value} (i : Nat) (hi : Rest[i]? = some (.row v T sz n xs)) (hm : m ≤ n) : LOk C Rest (agh v m) m (xs.take (m * sz)) := fun w F hO => by
 obtain ⟨⟨hl, hr⟩, hmem⟩ := hO.mem_row hi
 rcases hr with ⟨rfl, rfl⟩ | ⟨b, cap, cur, rfl, _, hb, hn, hcm, hcs, htk⟩
 ·have h0 : m = 0 := by omega
  subst h0
  exact ⟨[], .inl ⟨rfl, by simp, ⟨none, 0, rfl⟩, rfl⟩, fun p hp => by cases hp⟩
 ·refine ⟨[(b, .cells cur T (0, 0))], .inr ⟨b, 0, cap, cur.toList, T, (0, 0), rfl, by simp, ?_⟩, fun p hp => ?_⟩
  ·rw [List.drop_zero, ← htk, List.take_take, List.length_take, Array.length_toList]
   have h1 : m * sz ≤ n * sz := Nat.mul_le_mul_right _ hm
   have h2 : n * sz ≤ cur.size := by rw [hcs]; exact Nat.mul_le_mul_right _ hn
   rw [Nat.min_eq_left h1, Nat.min_eq_left (by omega)]
  ·rw [List.mem_singleton.1 hp]
   exact .inl ⟨hb, hmem b rfl⟩
theorem LOk.row {Rest : List HA} {v : Value} {T sz n : Nat} {xs : List Value} (i : Nat) (hi : Rest[i]? = some (.row v T sz n xs)) : LOk C Rest v n xs := fun w F hO => by
 obtain ⟨⟨hl, hr⟩, _⟩ := hO.mem_row hi
 obtain ⟨R, h1, h2⟩ := LOk.pre (C := C) i hi (Nat.le_refl n) w F hO
 have : agh v n = v := by rcases hr with ⟨rfl, rfl⟩ | ⟨b, cap, cur, rfl, _⟩ <;> rfl
 rw [this, ← hl, List.take_length] at h1
 exact ⟨R, h1, h2⟩
theorem awt {f : FuncId} {args : List Value} {R : List (Nat × Obj)} {A Rest : List HA} {S : Out → Prop} {w : World} (hc : c8 P f args R A S) {F1 F2 : List Nat} (hA : Own w A F1) (hB : Own w Rest F2) (h2 : (F1 ++ F2).Nodup)
  (h3 : ∀ k ∈ F1 ++ F2, k < w.heap.size ∧ (C.w0.heap.size ≤ k ∨ k ∈ C.M)) (hp : Hp C (A ++ Rest) w) (hR : ∀ p ∈ R, (w.heap[p.1]? = some p.2 ∧ p.1 ∈ F2) ∨ p ∈ C.R) :
  Calls P f args.toArray w (fun e w' => ∃ H', ahw S e H' ∧ Hp C (H' ++ Rest) w') := by
 have hn := List.nodup_append.1 h2
 refine (hc w F1 hA hn.1 (fun k hk => (h3 k (List.mem_append.2 (.inl hk))).1) ?_).mono ?_
 ·intro q hq
  rcases hR q hq with ⟨hi, hm⟩ | hm
  ·exact ⟨hi, fun hk => hn.2.2 q.1 hk q.1 hm rfl⟩
  ·refine ⟨hp.old hm, fun hk => ?_⟩
   have hro := hp.ro q hm
   have hlt := b6 hro.1
   rcases (h3 q.1 (List.mem_append.2 (.inl hk))).2 with h4 | h4
   ·omega
   ·exact hro.2 h4
 ·rintro e w' ⟨H', hS, hh⟩
  exact ⟨H', hS, hp.call hB h2 h3 hh⟩
theorem ROk.mem {Rest : List HA} {w : World} {F : List Nat} (hO : Own w Rest F) (hh : ∀ (i : Nat) (x : HA), Rest[i]? = some x → ∃ f, x.at w f) {R : List (Nat × Obj)} (h : ROk C Rest R) : ∀ p ∈ R, (w.heap[p.1]? = some p.2 ∧ p.1 ∈ F) ∨ p ∈ C.R := fun p hp => by
 rcases h.all p hp with ⟨i, hi⟩ | hm
 ·obtain ⟨f, hf⟩ := hh i _ hi
  exact .inl ⟨hf.2, hO.mem_blk hi⟩
 ·exact .inr hm
theorem Own.each {w : World} : ∀ {H : List HA} {F : List Nat}, Own w H F → ∀ (i : Nat) (x : HA), H[i]? = some x → ∃ f, x.at w f
 | [], _, _, i, x, h => by simp at h
 | y :: H, _, ⟨F1, F2, _, h1, h2⟩, i, x, h => by
  cases i with
  | zero => simp at h; subst h; exact ⟨F1, h1⟩
  | succ i => exact h2.each i x (by simpa using h)
section call
variable {f : FuncId} {xs : List Operand} {ats : Array TypeId} {d : Nat} {ty : TypeId} {p : String} {e : Array Edge} {g : Option (Nat × Bool)} {vs : List Value} {R0 : List (Nat × Obj)} {A Rest : List HA} {S : Out → Prop} {v : Value} {A' : List HA} {v1 v2 : Value} {n1 n2 : Nat} {xs1 xs2 : List Value}
theorem WL.callS1 (he : o6 P f = true) (hx : evs L xs = some vs) (hc : ∀ R1, acx v1 R1 n1 xs1 → c8 P f vs (R1 ++ R0) A S) (hH : H = A ++ Rest) (hL : LOk C Rest v1 n1 xs1) (hR : ROk C Rest R0) (hw : r9 ops L ⟨some d, .call ⟨.value (.func f), xs.toArray, ats⟩, ty, p, e, g⟩ = some true) (hn : Nat.blt d C.n = true)
  (h : ∀ r H', S (.ret r H') → WL P ops Q C ((d, r) :: L) (H' ++ Rest) rest) (hpan : ∀ c H', S (.pan c H') → QX Q (.panic c) C L (H' ++ Rest)) : WL P ops Q C L H (⟨some d, .call ⟨.value (.func f), xs.toArray, ats⟩, ty, p, e, g⟩ :: rest) := by
 intro a w hf hp
 subst hH
 refine w8 (m3 hf hw) ?_
 unfold Oper.wp
 rw [adn he hf hx]
 simp only [Oper.upon]
 obtain ⟨F, h1, h2, h3⟩ := hp.own
 obtain ⟨F1, F2, rfl, hA, hB⟩ := h1.split
 obtain ⟨R1, k1, k2⟩ := hL w F2 hB
 refine (awt (hc R1 k1) hA hB h2 h3 hp (fun p hp => ?_)).mono ?_
 ·rcases List.mem_append.1 hp with hp | hp
  ·exact k2 p hp
  ·exact hR.mem hB hB.each p hp
 rintro en w' ⟨H', hS, hh⟩
 rcases hS with ⟨r, rfl, hS⟩ | ⟨c, rfl, hS⟩
 ·exact h r H' hS _ _ (hf.put hn r) hh
 ·exact hpan c H' hS _ _ hf hh
end call
theorem aye {P : Program} {t e : TypeId} (h : P.underlying t = some (.slice e)) : P.underlying t = some (.slice (P.elem t)) := by
 have : P.elem t = e := by simp [Program.elem, h]
 rw [this]; exact h
theorem OV.sliceTo {x y : Operand} {t e' ty T : TypeId} {d : Option Tmp} {p : String} {e : Array Edge} {g : Option (Nat × Bool)} {v : Value} {k : IntKind} {sz n : Nat} {xs : List Value} (i : Nat) {h : Int} (hx : ev L x = some v) (hy : ev L y = some (.int k h)) (hi : H[i]? = some (.row v T sz n xs)) (ht : slB P t e' sz = true) (hb : 0 ≤ h ∧ h ≤ n) :
  OV P C L H ⟨d, .slice t x none (some y) none, ty, p, e, g⟩ (agh v h.toNat) := fun a w hf hp => by
 have he := aye (aau ht).1
 have hs : (sizeOf (P.elem t)).run P w = .ok sz w := by
  have h1 := (aau ht).2
  have h2 : P.elem t = e' := by simp [Program.elem, (aau ht).1]
  rw [h2]; exact ab5 h1 w
 rcases (hp.row hi).2 with ⟨rfl, rfl⟩ | ⟨b, cap, cur, rfl, _, hbk, hn, _⟩
 ·have h0 : h = 0 := by omega
  subst h0
  have hr := run_slice_h (P := P) (w := w) t none 0 0 he k 0 (by omega) (by omega)
  simp only [execOp, Option.map_some, Option.map_none, hf.ev hx, hf.ev hy, Sem.run_bind, run_sliceAt_slice (P := P) w t _ _ _ _ he, hr, hs, Result.andThen_ok, Sem.run_pure]
  rfl
 ·have hr := run_slice_h (P := P) (w := w) t (some ⟨b, 0, none⟩) n cap he k h hb.1 (by omega)
  simp only [execOp, Option.map_some, Option.map_none, hf.ev hx, hf.ev hy, Sem.run_bind, run_sliceAt_slice (P := P) w t _ _ _ _ he, hr, hs, Result.andThen_ok, Sem.run_pure]
  simp [sliced, agh, Addr.add]
def atj (v : Value) (sz lo hi : Nat) : Value := match v with
 | .slice a _ c => .slice (if c = lo then a else a.map (·.add (lo * sz))) (hi - lo) (c - lo)
 | v => v
theorem LOk.sub {Rest : List HA} {v : Value} {T sz lo hi : Nat} {α : Type} {f : α → List Value} {l : List α} (i : Nat) (hi' : Rest[i]? = some (.row v T sz l.length (l.flatMap f))) (hf' : ∀ x, (f x).length = sz) (hb : lo ≤ hi ∧ hi ≤ l.length) : LOk C Rest (atj v sz lo hi) ((l.drop lo).take (hi - lo)).length (((l.drop lo).take (hi - lo)).flatMap f) := fun w F hO => by
 obtain ⟨⟨hl, hr⟩, hmem⟩ := hO.mem_row hi'
 have hlen : ((l.drop lo).take (hi - lo)).length = hi - lo := by rw [List.length_take, List.length_drop]; omega
 rw [hlen]
 rcases hr with ⟨rfl, h0⟩ | ⟨b, cap, cur, rfl, _, hb', hn, hcm, hcs, htk⟩
 ·have hlo : hi - lo = 0 := by omega
  have : (l.drop lo).take (hi - lo) = [] := by rw [hlo]; rfl
  rw [this, hlo]
  refine ⟨[], .inl ⟨rfl, rfl, ⟨if 0 = lo then none else none, 0 - lo, ?_⟩, rfl⟩, fun p hp => by cases hp⟩
  dsimp only [atj]; rw [hlo]; rfl
 ·by_cases hz : hi - lo = 0
  ·have : (l.drop lo).take (hi - lo) = [] := by rw [hz]; rfl
   rw [this, hz]
   refine ⟨[], .inl ⟨rfl, rfl, ⟨if cap = lo then some ⟨b, 0, none⟩ else some ((⟨b, 0, none⟩ : Addr).add (lo * sz)), cap - lo, ?_⟩, rfl⟩, fun p hp => by cases hp⟩
   dsimp only [atj]; rw [hz]; rfl
  ·refine ⟨[(b, .cells cur T (0, 0))], .inr ⟨b, lo * sz, cap - lo, cur.toList, T, (0, 0), ?_, by simp, ?_⟩, fun p hp => ?_⟩
   ·dsimp only [atj]
    rw [if_neg (by omega)]
    simp [Addr.add_mid]
   ·rw [aas hf', hlen]
    have h1 : ((cur.toList.drop (lo * sz)).take ((hi - lo) * sz)) = (((cur.toList.take (l.length * sz)).drop (lo * sz)).take ((hi - lo) * sz)) := by
     rw [List.drop_take, List.take_take, Nat.min_eq_left]
     rw [← Nat.sub_mul]
     exact Nat.mul_le_mul_right _ (by omega)
    rw [h1, htk, ac3 hf']
    have h2 : ∀ (m : List α) (q : Nat), q ≤ m.length → (m.flatMap f).take (q * sz) = (m.take q).flatMap f := fun m q hq => by
     have h3 : m.flatMap f = (m.take q).flatMap f ++ (m.drop q).flatMap f := by rw [← List.flatMap_append, List.take_append_drop]
     rw [h3, List.take_left' (by rw [aas hf', List.length_take, Nat.min_eq_left hq])]
    exact h2 _ _ (by rw [List.length_drop]; omega)
   ·rw [List.mem_singleton.1 hp]
    exact .inl ⟨hb', hmem b rfl⟩
end Go.Proofs.YtohnchdnkbadaaaDoor
namespace Go.Proofs.YtohnchdnkbadaaaDoor
open Go Go.RowKit
variable {P : Program} {ops : Array Oper} {Q : Exit → Act → World → Prop} {C : Cx} {L : Sl} {H : List HA} {rest : List Oper} {o : Oper}
theorem OV.cast {v v' : Value} (h : OV P C L H o v) (e : v = v') : OV P C L H o v' := e ▸ h
section iface
variable {x : Operand} {t t' t2 ty : TypeId} {d : Option Tmp} {p : String} {e : Array Edge} {g : Option (Nat × Bool)} {v z : Value}
def afs (P : Program) (t : TypeId) : Option Value := (P.info? t).bind (·.zero)
theorem am4 (h : afs P t = some z) (w : World) : (zeroValue t).run P w = .ok z w := by
 unfold afs at h
 cases hq : P.info? t with
 | none => simp [hq] at h
 | some i =>
  simp only [hq, Option.bind_some] at h
  simp [zeroValue, typeInfo, hq, h]
def aed (P : Program) (t : TypeId) : Bool := match P.underlying t with | some (.interface _) => false | some _ => true | none => false
theorem OV.assertYes (hx : ev L x = some (.iface t' v)) (hc : aed P t' = true) : OV P C L H ⟨d, .typeAssert x t t' true, ty, p, e, g⟩ (.tuple #[v, .bool true]) := fun a w hf _ => by
 unfold aed at hc
 cases hu : P.underlying t' with
 | none => rw [hu] at hc; cases hc
 | some dd =>
  have : (Instr.typeAssert (.iface t' v) t t' true).run P w = .ok (.tuple #[v, .bool true]) w := by
   unfold Instr.typeAssert
   rw [Sem.run_bind, r8 hu]
   cases dd <;> simp_all
  simp [execOp, hf.ev hx, this]
theorem OV.assertNo (hx : ev L x = some (.iface t2 v)) (hc : aed P t' = true) (hz : afs P t' = some z) (hn : Nat.beq t2 t' = false) : OV P C L H ⟨d, .typeAssert x t t' true, ty, p, e, g⟩ (.tuple #[z, .bool false]) := fun a w hf _ => by
 unfold aed at hc
 have hne : ¬ t2 = t' := fun h => by subst h; simp at hn
 cases hu : P.underlying t' with
 | none => rw [hu] at hc; cases hc
 | some dd =>
  have : (Instr.typeAssert (.iface t2 v) t t' true).run P w = .ok (.tuple #[z, .bool false]) w := by
   unfold Instr.typeAssert
   rw [Sem.run_bind, r8 hu]
   cases dd <;> simp_all [am4 hz]
  simp [execOp, hf.ev hx, this]
theorem OV.assertNil (hx : ev L x = some .nilIface) (hc : aed P t' = true) (hz : afs P t' = some z) : OV P C L H ⟨d, .typeAssert x t t' true, ty, p, e, g⟩ (.tuple #[z, .bool false]) := fun a w hf _ => by
 unfold aed at hc
 cases hu : P.underlying t' with
 | none => rw [hu] at hc; cases hc
 | some dd =>
  have : (Instr.typeAssert .nilIface t t' true).run P w = .ok (.tuple #[z, .bool false]) w := by
   unfold Instr.typeAssert
   rw [Sem.run_bind, r8 hu]
   cases dd <;> simp_all [am4 hz]
  simp [execOp, hf.ev hx, this]
end iface
def EN (P : Program) (C : Cx) (L : Sl) (H : List HA) (o : Oper) (f : FuncId) (vs : List Value) : Prop := ∀ a w, Fr C L a → Hp C H w → (execOp a.eval o).run P w = .ok (.enter f vs.toArray) w
section call
variable {f : FuncId} {xs : List Operand} {ats : Array TypeId} {d : Nat} {ty : TypeId} {p : String} {e : Array Edge} {g : Option (Nat × Bool)} {vs : List Value} {R : List (Nat × Obj)} {A Rest : List HA} {S : Out → Prop} {v : Value} {A' : List HA}
def awf (P : Program) (T : TypeId) (name : String) : Option FuncId := ((P.info? T).bind fun i => i.methods.find? (·.name == name)).bind fun m => if m.path.isEmpty then m.func.bind fun q => if q.2 then none else some q.1 else none
def asv (P : Program) (t : TypeId) : Bool := match P.underlying t with | some (.pointer _) => false | some _ => true | none => false
theorem EN.invoke {x : Operand} {T : TypeId} {name : String} {do_ : Option Tmp} (hx : ev L x = some (.iface T v)) (hm : awf P T name = some f) (hu : asv P T = true) (he : o6 P f = true) (hxs : evs L xs = some vs) :
  EN P C L H ⟨do_, .call ⟨.invoke x name, xs.toArray, ats⟩, ty, p, e, g⟩ f (v :: vs) := fun a w hf _ => by
 unfold awf at hm
 cases hi : P.info? T with
 | none => simp [hi] at hm
 | some i =>
  simp only [hi, Option.bind_some] at hm
  cases hq : i.methods.find? (·.name == name) with
  | none => simp [hq] at hm
  | some m =>
   simp only [hq, Option.bind_some] at hm
   split at hm
   ·rename_i hpath
    cases hfn : m.func with
    | none => simp [hfn] at hm
    | some q =>
     obtain ⟨f', pr⟩ := q
     simp only [hfn, Option.bind_some] at hm
     cases pr with
     | true => simp at hm
     | false =>
      simp only [Bool.false_eq_true, if_false, Option.some.injEq] at hm
      subst hm
      unfold asv at hu
      cases hT : P.underlying T with
      | none => rw [hT] at hu; cases hu
      | some dd =>
       have hrec : ∀ s, (receiverAt T (.val v) false s).run P w = .ok v w := fun s => by
        unfold receiverAt
        rw [Sem.run_bind, r8 hT]
        rw [hT] at hu
        cases dd <;> first | (simp at hu; done) | simp [Place.get]
       have hpl : m.path.toList = [] := by simpa using hpath
       have hmeth : (method ((P.types.size + Made.depth - 1) + 1) T v name).run P w = .ok (f', v) w := by
        unfold method
        simp [typeInfo, hi, hq, hpl, follow, hfn, hrec]
       have hsz : (P.types.size + Made.depth - 1) + 1 = P.types.size + Made.depth := by
        have : 0 < Made.depth := by decide
        omega
       rw [hsz] at hmeth
       have hmap : xs.toArray.map a.eval = vs.toArray := by rw [List.map_toArray, afw hf hxs]
       simp only [execOp, resolve, hf.ev hx, hmap, Sem.run_bind, Sem.run_pure, Result.andThen_ok, Go.invoke]
       have hen := af9 he (v :: vs).toArray w
       have h0 : (#[Value.iface T v] ++ vs.toArray)[0]? = some (Value.iface T v) := by simp
       have h1 : #[v] ++ (#[Value.iface T v] ++ vs.toArray).extract 1 (#[Value.iface T v] ++ vs.toArray).size = (v :: vs).toArray := by simp
       simp only [h0, callMethod, Sem.run_bind, run_program, Result.andThen_ok, hmeth, h1]
       exact hen
   ·cases hm
theorem EN.value {x : Operand} {caps : List Value} {do_ : Option Tmp} (hx : ev L x = some (.func (.func f) #[] caps.toArray)) (he : o6 P f = true) (hxs : evs L xs = some vs) :
  EN P C L H ⟨do_, .call ⟨.value x, xs.toArray, ats⟩, ty, p, e, g⟩ f (vs ++ caps) := fun a w hf _ => by
 have hmap : xs.toArray.map a.eval = vs.toArray := by rw [List.map_toArray, afw hf hxs]
 simp only [execOp, resolve, hf.ev hx, hmap, Deferred.ofValue, Sem.run_bind, Sem.run_pure, Result.andThen_ok, Go.invoke]
 simp [af9 he]
end call
def ayv (B : List (Nat × Obj)) (w : World) (F : List Nat) : Prop := F = B.map Prod.fst ∧ ∀ p ∈ B, w.heap[p.1]? = some p.2
theorem ao6 (B : List (Nat × Obj)) : ayy (ayv B) := by
 rintro w w' F ⟨rfl, h⟩ hk
 exact ⟨rfl, fun p hp => by rw [hk p.1 (List.mem_map.2 ⟨p, hp, rfl⟩)]; exact h p hp⟩
def pool (B : List (Nat × Obj)) : HA := .gen (ayv B) (ao6 B)
variable {B : List (Nat × Obj)} {b : Nat} {ob : Obj}
theorem Own.absorb {w : World} {F : List Nat} {A : List HA} (h : Own w (.blk b ob :: pool B :: A) F) : Own w (pool ((b, ob) :: B) :: A) F := by
 obtain ⟨F1, F2, rfl, ⟨rfl, hb⟩, F3, F4, rfl, ⟨rfl, hB⟩, h2⟩ := h
 refine ⟨b :: B.map Prod.fst, F4, by simp, ⟨by simp, fun p hp => ?_⟩, h2⟩
 rcases List.mem_cons.1 hp with rfl | hp
 ·exact hb
 ·exact hB p hp
theorem Hp.absorb {w : World} (h : Hp C (.blk b ob :: pool B :: H) w) : Hp C (pool ((b, ob) :: B) :: H) w := by
 obtain ⟨F, h1, h2⟩ := h.own
 exact ⟨h.os, h.tape, h.output, h.size, h.keep, h.ro, F, h1.absorb, h2⟩
theorem QX.absorb {e : Exit} (h : QX Q e C L (pool ((b, ob) :: B) :: H)) : QX Q e C L (.blk b ob :: pool B :: H) := fun a w hf hp => h a w hf hp.absorb
theorem WL.absorb {l : List Oper} (h : WL P ops Q C L (pool ((b, ob) :: B) :: H) l) : WL P ops Q C L (.blk b ob :: pool B :: H) l := fun a w hf hp => h a w hf hp.absorb
theorem WC.absorb {c : Code} (h : WC P c Q C L (pool ((b, ob) :: B) :: H)) : WC P c Q C L (.blk b ob :: pool B :: H) := fun a w hf hp => h a w hf hp.absorb
theorem WL.newPool {l : List Oper} (h : WL P ops Q C L (pool [] :: H) l) : WL P ops Q C L H l := fun a w hf hp => h a w hf (by
 obtain ⟨F, h1, h2⟩ := hp.own
 exact ⟨hp.os, hp.tape, hp.output, hp.size, hp.keep, hp.ro, F, ⟨[], F, rfl, ⟨rfl, fun p hp => by cases hp⟩, h1⟩, h2⟩)
theorem WC.newPool {c : Code} (h : WC P c Q C L (pool [] :: H)) : WC P c Q C L H := fun a w hf hp => h a w hf (by
 obtain ⟨F, h1, h2⟩ := hp.own
 exact ⟨hp.os, hp.tape, hp.output, hp.size, hp.keep, hp.ro, F, ⟨[], F, rfl, ⟨rfl, fun p hp => by cases hp⟩, h1⟩, h2⟩)
theorem Own.mem_pool {w : World} : ∀ {H : List HA} {F : List Nat}, Own w H F → ∀ {i : Nat}, H[i]? = some (pool B) → ∀ p ∈ B, w.heap[p.1]? = some p.2 ∧ p.1 ∈ F
 | [], _, _, i, h => by simp at h
 | y :: H, _, ⟨F1, F2, hF, h1, h2⟩, i, h => by
  intro p hp
  cases i with
  | zero =>
   simp at h
   subst h
   obtain ⟨rfl, hB⟩ := h1
   exact ⟨hB p hp, by rw [hF]; exact List.mem_append.2 (.inl (List.mem_map.2 ⟨p, hp, rfl⟩))⟩
  | succ i =>
   have := h2.mem_pool (i := i) (by simpa using h) p hp
   exact ⟨this.1, by rw [hF]; exact List.mem_append.2 (.inr this.2)⟩
end Go.Proofs.YtohnchdnkbadaaaDoor
