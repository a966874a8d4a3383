/-
  Merged: Gwd, SyE, SyTie, TkV, TkS, TkE.
-/
import Derived.Recover
import Derived.Test.YtifajndacnfcbaaDoorCards
import Derived.Test.YtifajndacnfcbaaDoorTie
import Derived.OpenShut
import Derived.LaidLaws
import Derived.ChangeArms
import Derived.Deep.DeepHandedRow
import Derived.Deep.DeepWitnessRowRef
import Derived.Test.YtifajndacnfcbaaDoorChecked
import Derived.Test.YtifajndacnfcbaaDoorSq1
namespace Go.Proofs.YtifajndacnfcbaaDoor
open Go Go.RowKit
variable {P : Program} {ops : Array Oper} {Q : Exit → Act → World → Prop} {C : Cx} {L : Sl} {H : List HA} {rest : List Oper} {o : Oper}
def abf (P : Program) (f : FuncId) (args : List Value) (u u' : FrameMode) (R : List (Nat × Obj)) (A : List HA) (S : Out → Prop) : Prop :=
 ∀ w M, Own w A M → M.Nodup → (∀ k ∈ M, k < w.heap.size) → (∀ p ∈ R, w.heap[p.1]? = some p.2 ∧ p.1 ∉ M) → CallsD P f args.toArray u w (fun e u'' w' => u'' = u' ∧ ∃ H', ahf S e H' ∧ Hp ⟨0, [], w, M, R⟩ H' w')
def avt (u : FrameMode) (v : Value) (u' : FrameMode) : Prop :=
 (u = .returning ∧ v = .nilIface ∧ u' = .returning) ∨ (∃ x, u = .panicking [{ v := x, recovered := false }] ∧ v = x ∧ u' = .panicking [{ v := x, recovered := true }])
theorem amh {f : FuncId} {fn : Func} {y : Code} {args : List Value} {R : List (Nat × Obj)} {A : List HA} {S : Out → Prop} {L0 : Sl} {n id d d2 : Nat} {ats : Array TypeId} {t1 t2 : TypeId} {p1 p2 : String} {e1 e2 : Array Edge} {u u' : FrameMode} {v : Value}
  (hf : P.funcs[f]? = some fn) (hb : fn.body = some (.seq (.region id [⟨some d, .call ⟨.builtin .recover, #[], ats⟩, t1, p1, e1, none⟩, ⟨some d2, .assign (.tmp d), t2, p2, e2, none⟩].toArray false) y)) (hnt : fn.ntmps = n) (hl : Nat.ble args.length n = true)
  (hL : (List.range args.length).zip args = L0) (hd : Nat.blt d n = true) (hd2 : Nat.blt d2 n = true) (hu : avt u v u')
  (h : ∀ w0 M Q, Ends P fn ⟨n, [], w0, M, R⟩ S Q → WC P y Q ⟨n, [], w0, M, R⟩ ((d2, v) :: (d, v) :: L0) A) : abf P f args u u' R A S := by
 intro w M hO hn hlt hR
 subst hnt
 have hle : args.length ≤ fn.ntmps := Nat.le_of_ble_eq_true hl
 refine callsD_of_wpS hf hb fun c₀ cs hc => ?_
 refine wpS_seq (wpS_region ?_)
 have hd' : d < fn.ntmps := Nat.blt_eq ▸ hd
 have hfr : Fr ⟨fn.ntmps, [], w, M, R⟩ L0 ⟨args.toArray ++ Array.replicate (fn.ntmps - args.toArray.size) undef, []⟩ := by
  refine ⟨rfl, by simp; omega, ?_⟩
  intro i x hg
  subst hL
  have hm := Sl.get_mem hg
  obtain ⟨j, hj⟩ := List.mem_iff_getElem?.1 hm
  rw [List.getElem?_zip_eq_some] at hj
  obtain ⟨h1, h2⟩ := hj
  have hij : j = i := by
   have h3 := (List.getElem?_eq_some_iff.1 h1)
   obtain ⟨h4, h5⟩ := h3
   simp at h5; exact h5
  subst hij
  have hjl : j < args.length := (List.getElem?_eq_some_iff.1 h2).1
  simp only [List.size_toArray]
  rw [Array.getElem?_append_left (by simpa using hjl)]
  simpa using h2
 generalize (⟨args.toArray ++ Array.replicate (fn.ntmps - args.toArray.size) undef, []⟩ : Act) = a0 at hfr ⊢
 have hfr2 := (hfr.put hd v).put hd2 v
 have hp := Hp.start fn.ntmps [] w hO hn hlt hR
 have hrun : (execOp a0.eval ⟨some d, .call ⟨.builtin .recover, #[], ats⟩, t1, p1, e1, none⟩).run P w = .ok .recover w := by
  simp [execOp, resolve, invoke, builtin]
 have hev : (a0.put (some d) v).eval (.tmp d) = v := (hfr.put hd v).ev (x := .tmp d) (by simp [ev, Sl.get])
 have hrun2 : (execOp (a0.put (some d) v).eval ⟨some d2, .assign (.tmp d), t2, p2, e2, none⟩).run P w = .ok (.value v) w := by
  simp only [execOp, hev, Sem.run_pure]
 have key : ∀ cs', (match recoverD (c₀ :: cs) with | some (x, c') => x = v ∧ c' = cs' | none => .nilIface = v ∧ (c₀ :: cs) = cs') → cs' = { c₀ with mode := u' } :: cs →
   wpOpsS P [⟨some d, .call ⟨.builtin .recover, #[], ats⟩, t1, p1, e1, none⟩, ⟨some d2, .assign (.tmp d), t2, p2, e2, none⟩].toArray (Exit.thenS (y.wpS P (bodyPostS P fn c₀ cs fun e u'' w' => u'' = u' ∧ ∃ H', ahf S e H' ∧ Hp ⟨0, [], w, M, R⟩ H' w')) (bodyPostS P fn c₀ cs fun e u'' w' => u'' = u' ∧ ∃ H', ahf S e H' ∧ Hp ⟨0, [], w, M, R⟩ H' w')) [0, 1] a0 (c₀ :: cs) w := by
  intro cs' hrec hcs'
  have hy : y.wpS P (bodyPostS P fn c₀ cs fun e u'' w' => u'' = u' ∧ ∃ H', ahf S e H' ∧ Hp ⟨0, [], w, M, R⟩ H' w') ((a0.put (some d) v).put (some d2) v) cs' w := by
   subst hcs'
   refine wpS_of_wp ?_
   refine h w M _ ?_ _ _ hfr2 hp
   refine ⟨fun idx hi he hS hr a w' hfr hp => ?_, fun idx hi he hS hr a w' hfr hp => ?_, fun idx hi he hS a w' hfr hp => ?_⟩
   ·exact ⟨hfr.defers, u', rfl, _, hr a w' hfr hp, rfl, _, .inl ⟨_, rfl, hS⟩, he ▸ (hp.pick idx hi).ctx⟩
   ·exact ⟨hfr.defers, u', rfl, _, hr a w' hfr hp, rfl, _, .inl ⟨_, rfl, hS⟩, he ▸ (hp.pick idx hi).ctx⟩
   ·exact ⟨hfr.defers, u', rfl, rfl, _, .inr ⟨_, rfl, hS⟩, he ▸ (hp.pick idx hi).ctx⟩
  have hy2 : wpOpsS P [⟨some d, .call ⟨.builtin .recover, #[], ats⟩, t1, p1, e1, none⟩, ⟨some d2, .assign (.tmp d), t2, p2, e2, none⟩].toArray (Exit.thenS (y.wpS P (bodyPostS P fn c₀ cs fun e u'' w' => u'' = u' ∧ ∃ H', ahf S e H' ∧ Hp ⟨0, [], w, M, R⟩ H' w')) (bodyPostS P fn c₀ cs fun e u'' w' => u'' = u' ∧ ∃ H', ahf S e H' ∧ Hp ⟨0, [], w, M, R⟩ H' w')) [1] (a0.put (some d) v) cs' w := by
   simp only [wpOpsS, List.getElem?_toArray, List.getElem?_cons_succ, List.getElem?_cons_zero, Region.wanted, if_true, hrun2, Oper.upon]
   exact hy
  unfold wpOpsS
  simp only [List.getElem?_toArray, List.getElem?_cons_zero, Region.wanted, if_true, hrun]
  cases hr : recoverD (c₀ :: cs) with
  | none => rw [hr] at hrec; obtain ⟨rfl, rfl⟩ := hrec; exact hy2
  | some q => rw [hr] at hrec; obtain ⟨x, c'⟩ := q; obtain ⟨rfl, rfl⟩ := hrec; exact hy2
 have hrange : List.range ([⟨some d, .call ⟨.builtin .recover, #[], ats⟩, t1, p1, e1, none⟩, ⟨some d2, .assign (.tmp d), t2, p2, e2, none⟩] : List Oper).toArray.size = [0, 1] := rfl
 rw [hrange]
 rcases hu with ⟨rfl, rfl, rfl⟩ | ⟨x, rfl, rfl, rfl⟩
 ·refine key _ ?_ rfl
  have : recoverD (c₀ :: cs) = none := by simp [recoverD, hc]
  rw [this]
  exact ⟨rfl, by cases c₀; simp_all⟩
 ·refine key _ ?_ rfl
  have : recoverD (c₀ :: cs) = some (v, { c₀ with mode := .panicking [{ v, recovered := true }] } :: cs) := by simp [recoverD, hc]
  rw [this]
  exact ⟨rfl, rfl⟩
theorem an7 {x y : Code} (h : ∀ K : Act → World → Prop, (∀ C L H, WC P y Q C L H → KX K C L H) → WC P x (Exit.then K Q) C L H) : WC P (.seq x y) Q C L H :=
 fun a w hf hp => wp_seq (h _ (fun _ _ _ hy => hy) a w hf hp)
theorem OV.makeFunc {f : FuncId} {xs : List Operand} {vs : List Value} {ty : TypeId} {d : Option Tmp} {p : String} {e : Array Edge} {g : Option (Nat × Bool)} (hx : evs L xs = some vs) : OV P C L H ⟨d, .makeFunc (.func f) #[] xs.toArray, ty, p, e, g⟩ (.func (.func f) #[] vs.toArray) := fun a w hf _ => by
 simp [execOp, Instr.makeFunc, af7 hf hx]
theorem WL.defer {x : Operand} {ats : Array TypeId} {ty : TypeId} {p : String} {e : Array Edge} {d : Option Tmp} {f : FuncId} {vs : List Value} (hx : ev L x = some (.func (.func f) #[] vs.toArray)) (hd : d = none)
  (h : WL P ops Q { C with D := ⟨.fn (.func f) vs.toArray, #[]⟩ :: C.D } L H rest) : WL P ops Q C L H (⟨d, .defer ⟨.value x, #[], ats⟩, ty, p, e, none⟩ :: rest) := by
 intro a w hf hp
 subst hd
 refine s7 (by simp [Region.wanted]) ?_
 unfold Oper.wp
 have : (execOp a.eval ⟨none, .defer ⟨.value x, #[], ats⟩, ty, p, e, none⟩).run P w = .ok (.defer ⟨.fn (.func f) vs.toArray, #[]⟩) w := by
  simp [execOp, resolve, hf.ev hx, Deferred.ofValue]
 rw [this]
 simp only [Oper.upon, Act.put]
 exact h _ _ ⟨by simp [hf.defers], hf.size, hf.get⟩ hp.ctx
structure EndsD (P : Program) (fn : Func) (n : Nat) (w0 : World) (M : List Nat) (R : List (Nat × Obj)) (S : Out → Prop) (Q : Exit → Act → World → Prop) : Prop where
 ret : ∀ {D : List Deferred} {L : Sl} {H : List HA}, (∀ a w, Fr ⟨n, D, w0, M, R⟩ L a → Hp ⟨n, D, w0, M, R⟩ H w → Leaves P fn a.tmps (fun e w' => ∃ H', ahf S e H' ∧ Hp ⟨0, [], w0, M, R⟩ H' w') D .returning w) → QX Q .ret ⟨n, D, w0, M, R⟩ L H
 norm : ∀ {D : List Deferred} {L : Sl} {H : List HA}, (∀ a w, Fr ⟨n, D, w0, M, R⟩ L a → Hp ⟨n, D, w0, M, R⟩ H w → Leaves P fn a.tmps (fun e w' => ∃ H', ahf S e H' ∧ Hp ⟨0, [], w0, M, R⟩ H' w') D .returning w) → QX Q .normal ⟨n, D, w0, M, R⟩ L H
 pan : ∀ {D : List Deferred} {L : Sl} {H : List HA} {c : List PanicEntry}, (∀ a w, Fr ⟨n, D, w0, M, R⟩ L a → Hp ⟨n, D, w0, M, R⟩ H w → Leaves P fn a.tmps (fun e w' => ∃ H', ahf S e H' ∧ Hp ⟨0, [], w0, M, R⟩ H' w') D (.panicking c) w) → QX Q (.panic c) ⟨n, D, w0, M, R⟩ L H
theorem v7 {f : FuncId} {fn : Func} {c : Code} {args : List Value} {R : List (Nat × Obj)} {A : List HA} {S : Out → Prop} {L0 : Sl} {n : Nat} (hf : P.funcs[f]? = some fn) (hb : fn.body = some c) (hnt : fn.ntmps = n) (hl : Nat.ble args.length n = true)
  (hL : (List.range args.length).zip args = L0)
  (h : ∀ w0 M Q, EndsD P fn n w0 M R S Q → WC P c Q ⟨n, [], w0, M, R⟩ L0 A) : d9 P f args R A S := by
 intro w M hO hn hlt hR
 subst hnt
 have hle : args.length ≤ fn.ntmps := Nat.le_of_ble_eq_true hl
 refine calls_of_wp_defers hf hb ?_
 refine h w M _ ?_ _ _ ⟨rfl, ?_, ?_⟩ (Hp.start _ _ w hO hn hlt hR)
 ·refine ⟨fun hh a w' hfr hp => ?_, fun hh a w' hfr hp => ?_, fun hh a w' hfr hp => ?_⟩
  all_goals
   have := hh a w' hfr hp
   have hd := hfr.defers
   simp only at hd
   rw [← hd] at this
   exact this
 ·simp; omega
 ·intro i v hg
  subst hL
  have hm := Sl.get_mem hg
  obtain ⟨j, hj⟩ := List.mem_iff_getElem?.1 hm
  rw [List.getElem?_zip_eq_some] at hj
  obtain ⟨h1, h2⟩ := hj
  have hij : j = i := by
   have h3 := (List.getElem?_eq_some_iff.1 h1)
   obtain ⟨h4, h5⟩ := h3
   simp at h5; exact h5
  subst hij
  have hjl : j < args.length := (List.getElem?_eq_some_iff.1 h2).1
  simp only [List.size_toArray]
  rw [Array.getElem?_append_left (by simpa using hjl)]
  simpa using h2
theorem ad3 {fn : Func} {n : Nat} {w0 : World} {M : List Nat} {R : List (Nat × Obj)} {S : Out → Prop} {H' : List HA} {v : Value} (idx : List Nat) (hi : u4 idx = true) (he : sel H idx = H') (hS : S (.ret v H')) (hr : d7 P fn ⟨n, [], w0, M, R⟩ L H v) :
  ∀ a w, Fr ⟨n, [], w0, M, R⟩ L a → Hp ⟨n, [], w0, M, R⟩ H w → Leaves P fn a.tmps (fun e w' => ∃ H', ahf S e H' ∧ Hp ⟨0, [], w0, M, R⟩ H' w') [] .returning w :=
 fun a w hf hp => ⟨v, hr a w hf hp, _, .inl ⟨_, rfl, hS⟩, he ▸ (hp.pick idx hi).ctx⟩
theorem ark {fn : Func} {n : Nat} {w0 : World} {M : List Nat} {R R' : List (Nat × Obj)} {S : Out → Prop} {H' A A' Rest : List HA} {v vc : Value} {f : FuncId} {vs : List Value} {u u' : FrameMode} {H : List HA} (idx0 : List Nat) (hi0 : u4 idx0 = true) (hH : sel H idx0 = A ++ Rest)
  (hent : k9 P f = true) (hc : abf P f vs u u' R' A (Ret vc A')) (hrun : u ≠ .run) (hset : settle u' = .returning) (hR : ROk ⟨n, [⟨.fn (.func f) vs.toArray, #[]⟩], w0, M, R⟩ Rest R')
  (idx : List Nat) (hi : u4 idx = true) (he : sel (A' ++ Rest) idx = H') (hS : S (.ret v H')) (hr : d7 P fn ⟨n, [⟨.fn (.func f) vs.toArray, #[]⟩], w0, M, R⟩ L (A' ++ Rest) v) :
  ∀ a w, Fr ⟨n, [⟨.fn (.func f) vs.toArray, #[]⟩], w0, M, R⟩ L a → Hp ⟨n, [⟨.fn (.func f) vs.toArray, #[]⟩], w0, M, R⟩ H w → Leaves P fn a.tmps (fun e w' => ∃ H', ahf S e H' ∧ Hp ⟨0, [], w0, M, R⟩ H' w') [⟨.fn (.func f) vs.toArray, #[]⟩] u w := by
 intro a w hf hp
 have hp := hH ▸ hp.pick idx0 hi0
 refine ⟨hrun, .func f, vs.toArray, f, vs.toArray, rfl, by simp [invoke, agf hent], ?_⟩
 obtain ⟨F, h1, h2, h3⟩ := hp.own
 obtain ⟨F1, F2, rfl, hA, hB⟩ := h1.split
 have hnd := List.nodup_append.1 h2
 refine (hc w F1 hA hnd.1 (fun k hk => (h3 k (List.mem_append.2 (.inl hk))).1) ?_).mono ?_
 ·intro q hq
  rcases hR.all q hq with ⟨i, hi⟩ | hm
  ·refine ⟨hp.blk (i := A.length + i) (by rw [List.getElem?_append_right (by omega)]; simpa using hi), fun hm => ?_⟩
   exact hnd.2.2 q.1 hm q.1 (hB.mem_blk hi) rfl
  ·refine ⟨hp.old hm, fun hk => ?_⟩
   have hro := hp.ro q hm
   have hlt := aa9 hro.1
   rcases (h3 q.1 (List.mem_append.2 (.inl hk))).2 with h4 | h4
   ·omega
   ·exact hro.2 h4
 ·rintro en u'' w' ⟨rfl, H'', hS', hh⟩
  rcases hS' with ⟨r, rfl, hS'⟩ | ⟨c, rfl, hS'⟩
  ·cases hS'
   have hp' := hp.call hB h2 h3 hh
   show Leaves P fn a.tmps _ [] (settle u'') w'
   rw [hset]
   exact ⟨v, hr a w' hf hp', _, .inl ⟨_, rfl, hS⟩, he ▸ (hp'.pick idx hi).ctx⟩
  ·cases hS'
theorem OV.assertIs {x : Operand} {t t' ty : TypeId} {d : Option Tmp} {p : String} {e : Array Edge} {g : Option (Nat × Bool)} {v : Value} {dd : TypeDesc} (hx : ev L x = some (.iface t' v)) (hu : P.underlying t' = some dd) (hn : (match dd with | .interface _ => false | _ => true) = true) : OV P C L H ⟨d, .typeAssert x t t' false, ty, p, e, g⟩ v := fun a w hf _ => by
 have : (Instr.typeAssert (.iface t' v) t t' false).run P w = .ok v w := by
  unfold Instr.typeAssert
  rw [Sem.run_bind, s6 hu]
  cases dd <;> simp_all
 simp [execOp, hf.ev hx, this]
theorem OV.neqNil {x y : Operand} {t t' ty tv : TypeId} {d : Option Tmp} {p : String} {e : Array Edge} {g : Option (Nat × Bool)} {v : Value} {ms : Array (String × TypeId)} (hx : ev L x = some (.iface tv v)) (hy : ev L y = some .nilIface) (hu : P.underlying t = some (.interface ms)) : OV P C L H ⟨d, .binOp .neq t x y t', ty, p, e, g⟩ (.bool true) := fun a w hf _ => by
 have h : binOp .neq t (.iface tv v) .nilIface = (do pure (.bool (!(← Op.equal t (.iface tv v) .nilIface)))) := rfl
 have h2 : (Op.equal t (.iface tv v) .nilIface).run P w = .ok false w := by
  unfold Op.equal Op.maxDepth Op.equalIn
  rw [Sem.run_bind, s6 hu]; rfl
 simp only [execOp, hf.ev hx, hf.ev hy, eqGuard_at_iface, h, Sem.run_bind, Sem.run_pure, Result.andThen_ok, h2]
 rfl
theorem OV.neqNil0 {x : Operand} {t t' ty : TypeId} {d : Option Tmp} {p : String} {e : Array Edge} {g : Option (Nat × Bool)} {ms : Array (String × TypeId)} (hx : ev L x = some .nilIface) (hu : P.underlying t = some (.interface ms)) : OV P C L H ⟨d, .binOp .neq t x (.const .nilIface) t', ty, p, e, g⟩ (.bool false) := fun a w hf _ => by
 have h : binOp .neq t .nilIface .nilIface = (do pure (.bool (!(← Op.equal t .nilIface .nilIface)))) := rfl
 have h2 : (Op.equal t .nilIface .nilIface).run P w = .ok true w := by
  unfold Op.equal Op.maxDepth Op.equalIn
  rw [Sem.run_bind, s6 hu]; rfl
 have hc : a.eval (.const .nilIface) = .nilIface := rfl
 simp only [execOp, hf.ev hx, hc, eqGuard_nil_constR, h, Sem.run_bind, Sem.run_pure, Result.andThen_ok, h2]
 rfl
theorem abf.weak {f : FuncId} {args : List Value} {u u' : FrameMode} {R : List (Nat × Obj)} {A : List HA} {S S' : Out → Prop} (h : abf P f args u u' R A S) (hs : ∀ o, S o → S' o) : abf P f args u u' R A S' := fun w M hO hn hl hr => (h w M hO hn hl hr).mono fun en u'' w' ⟨hu, H', hS, hh⟩ => ⟨hu, H', by
  rcases hS with ⟨r, e1, hS⟩ | ⟨c, e1, hS⟩
  ·exact .inl ⟨r, e1, hs _ hS⟩
  ·exact .inr ⟨c, e1, hs _ hS⟩, hh⟩
end Go.Proofs.YtifajndacnfcbaaDoor
namespace Go.Proofs.YtifajndacnfcbaaDoor
open Go Go.RowKit
def acz (v : Value) : List Value := [v]
theorem af9 (v : Value) : (acz v).length = 1 := rfl
theorem avj {v : Value} (h : v.oneCell' = true) : ([v].all (·.oneCell')) = true := by simp [h]
mutual
def TV (B : List (Nat × Obj)) : Ex → Value → Prop
 | .name p s, v => v = .iface 71 (.agg [.int .i64 p, st s].toArray)
 | .text p s, v => v = .iface 73 (.agg [.int .i64 p, st s].toArray)
 | .regex p s, v => v = .iface 74 (.agg [.int .i64 p, st s].toArray)
 | .keyed p a, v => ∃ u, TV B a u ∧ v = .iface 76 (.agg [.int .i64 p, u].toArray)
 | .unary p o a, v => ∃ u, TV B a u ∧ v = .iface 78 (.agg [.int .i64 p, st o, u].toArray)
 | .binary p o a b, v => ∃ u1 u2, TV B a u1 ∧ TV B b u2 ∧ v = .iface 80 (.agg [.int .i64 p, st o, u1, u2].toArray)
 | .call p w l, v => ∃ us u b cs, TVL B l us ∧ ad8 u 37 1 us.length (us.flatMap acz) b cs ∧ (b, Obj.cells cs.toArray 37 (0, 0)) ∈ B ∧ v = .iface 83 (.agg [.int .i64 p, st w, u].toArray)
def TVL (B : List (Nat × Obj)) : ExL → List Value → Prop
 | .nil, us => us = []
 | .cons a r, us => ∃ u vs, TV B a u ∧ TVL B r vs ∧ us = u :: vs
end
mutual
theorem TV.more {B B2 : List (Nat × Obj)} (h : ∀ p ∈ B, p ∈ B2) : ∀ (e : Ex) (v : Value), TV B e v → TV B2 e v
 | .name p s, v, hv => hv
 | .text p s, v, hv => hv
 | .regex p s, v, hv => hv
 | .keyed p a, v, hv => by obtain ⟨u, h1, h2⟩ := hv; exact ⟨u, TV.more h a u h1, h2⟩
 | .unary p o a, v, hv => by obtain ⟨u, h1, h2⟩ := hv; exact ⟨u, TV.more h a u h1, h2⟩
 | .binary p o a b, v, hv => by obtain ⟨u1, u2, h1, h2, h3⟩ := hv; exact ⟨u1, u2, TV.more h a u1 h1, TV.more h b u2 h2, h3⟩
 | .call p w l, v, hv => by obtain ⟨us, u, b, cs, h1, h2, h3, h4⟩ := hv; exact ⟨us, u, b, cs, TVL.more h l us h1, h2, h _ h3, h4⟩
theorem TVL.more {B B2 : List (Nat × Obj)} (h : ∀ p ∈ B, p ∈ B2) : ∀ (l : ExL) (us : List Value), TVL B l us → TVL B2 l us
 | .nil, us, hv => hv
 | .cons a r, us, hv => by obtain ⟨u, vs, h1, h2, h3⟩ := hv; exact ⟨u, vs, TV.more h a u h1, TVL.more h r vs h2, h3⟩
end
theorem TV.one {B : List (Nat × Obj)} {e : Ex} {v : Value} (h : TV B e v) : v.oneCell' = true := by
 cases e with
 | name p s => rw [TV] at h; subst h; rfl
 | text p s => rw [TV] at h; subst h; rfl
 | regex p s => rw [TV] at h; subst h; rfl
 | keyed p a => rw [TV] at h; obtain ⟨u, _, rfl⟩ := h; rfl
 | unary p o a => rw [TV] at h; obtain ⟨u, _, rfl⟩ := h; rfl
 | binary p o a b => rw [TV] at h; obtain ⟨u1, u2, _, _, rfl⟩ := h; rfl
 | call p w l => rw [TV] at h; obtain ⟨us, u, b, cs, _, _, _, rfl⟩ := h; rfl
theorem TVL.len {B : List (Nat × Obj)} : ∀ {l : ExL} {us : List Value}, TVL B l us → us.length = l.len
 | .nil, us, h => by rw [TVL] at h; subst h; rfl
 | .cons a r, us, h => by rw [TVL] at h; obtain ⟨u, vs, _, h2, rfl⟩ := h; rw [List.length_cons, h2.len]; rfl
theorem TVL.snoc {B : List (Nat × Obj)} {b : Ex} {v : Value} (hb : TV B b v) : ∀ {l : ExL} {us : List Value}, TVL B l us → TVL B (l.snoc b) (us ++ [v])
 | .nil, us, h => by rw [TVL] at h; subst h; exact ⟨v, [], hb, rfl, rfl⟩
 | .cons a r, us, h => by rw [TVL] at h; obtain ⟨u, vs, h1, h2, rfl⟩ := h; exact ⟨u, vs ++ [v], h1, h2.snoc hb, rfl⟩
def aeq (s : Bs) : Prop := s = [62, 62] ∨ ∃ c, s = [c]
def arp (ts : List Tok) : Prop := ∀ k, (b4 ts k).1 = 4 → aeq (b4 ts k).2.2
def POK (ts : List Tok) (k : Nat) (o : Int) : Prop := k < ts.length ∧ (0 ≤ o ∧ o ≤ 64) ∧ ama ts ∧ arp ts ∧ ts.length ≤ 10000
theorem POK.next {ts : List Tok} {k : Nat} {o : Int} (h : POK ts k o) (hk : (b4 ts k).1 ≠ 0) : k + 1 < ts.length := by
 obtain ⟨h1, _, ⟨_, h2⟩, _⟩ := h
 rcases Nat.lt_or_ge (k + 1) ts.length with g | g
 ·exact g
 ·exfalso; apply hk; rw [show k = ts.length - 1 by omega]; exact h2
theorem POK.at {ts : List Tok} {k k2 : Nat} {o : Int} (h : POK ts k o) (hk : k2 < ts.length) : POK ts k2 o := ⟨hk, h.2⟩
theorem POK.with {ts : List Tok} {k k2 : Nat} {o o2 : Int} (h : POK ts k o) (hk : k2 < ts.length) (ho : 0 ≤ o2 ∧ o2 ≤ 64) : POK ts k2 o2 := ⟨hk, ho, h.2.2⟩
def ExR (r : RsX Ex) (B : List (Nat × Obj)) (v : Value) (e : Ex) (k : Nat) (o : Int) (B2 : List (Nat × Obj)) : Prop := r = .ok (e, (k, o)) ∧ TV B2 e v ∧ ∀ p ∈ B, p ∈ B2
def ExP (r : RsX Ex) (_ts : List Tok) (c p : Int) (_k : Nat) (_o : Int) (_B : List (Nat × Obj)) : Prop := r = .error (c, p)
abbrev ad4 (te : TypeId) (fre : Nat × Nat) : List (Nat × Obj) := [(0, .cells [st ([124] : Bs), st ([38, 45] : Bs), st ([62, 62] : Bs), st ([126] : Bs), st ([46] : Bs)].toArray te fre)]
abbrev acj (c p : Int) : Value := .iface 26 (.agg [Value.int .i64 c, Value.int .i64 p, st []].toArray)
abbrev syH (pb : Nat) (wa : Value) (ts : List Tok) (k : Nat) (o : Int) : List HA := [.blk pb (.cells [l5 wa 3 k, Value.int .i64 o].toArray 55 (0, 0)), .row wa 102 3 ts.length (ts.flatMap e6)]
def EAt (te : TypeId) (fre : Nat × Nat) (ts : List Tok) (k : Nat) (l : Int) : Prop :=
 ∀ (pb : Nat) (wa : Value) (o : Int) (B : List (Nat × Obj)), POK ts k o ∧ 0 ≤ l ∧ l ≤ 5 → d9 Tryd.prog 43 [.pointer (some ⟨pb, 0, none⟩), .int .i64 l] (ad4 te fre) (syH pb wa ts k o ++ [pool B])
  (fun out => (∃ v e k2 o2 B2, ExR (sE ts l.toNat (k, o)) B v e k2 o2 B2 ∧ out = .ret v (syH pb wa ts k2 o2 ++ [pool B2])) ∨ (∃ c p k2 o2 B2, ExP (sE ts l.toNat (k, o)) ts c p k2 o2 B2 ∧ out = .pan [{ v := acj c p, recovered := false }] (syH pb wa ts k2 o2 ++ [pool B2])))
def PAt (te : TypeId) (fre : Nat × Nat) (ts : List Tok) (k : Nat) : Prop :=
 ∀ (pb : Nat) (wa : Value) (o : Int) (B : List (Nat × Obj)), POK ts k o → d9 Tryd.prog 66 [.pointer (some ⟨pb, 0, none⟩)] (ad4 te fre) (syH pb wa ts k o ++ [pool B])
  (fun out => (∃ v e k2 o2 B2, ExR (sP ts (k, o)) B v e k2 o2 B2 ∧ out = .ret v (syH pb wa ts k2 o2 ++ [pool B2])) ∨ (∃ c p k2 o2 B2, ExP (sP ts (k, o)) ts c p k2 o2 B2 ∧ out = .pan [{ v := acj c p, recovered := false }] (syH pb wa ts k2 o2 ++ [pool B2])))
def AAt (te : TypeId) (fre : Nat × Nat) (ts : List Tok) (k : Nat) : Prop :=
 ∀ (pb : Nat) (wa : Value) (o : Int) (B : List (Nat × Obj)), POK ts k o → d9 Tryd.prog 76 [.pointer (some ⟨pb, 0, none⟩)] (ad4 te fre) (syH pb wa ts k o ++ [pool B])
  (fun out => (∃ v e k2 o2 B2, ExR (sA ts (k, o)) B v e k2 o2 B2 ∧ out = .ret v (syH pb wa ts k2 o2 ++ [pool B2])) ∨ (∃ c p k2 o2 B2, ExP (sA ts (k, o)) ts c p k2 o2 B2 ∧ out = .pan [{ v := acj c p, recovered := false }] (syH pb wa ts k2 o2 ++ [pool B2])))
def CAt (te : TypeId) (fre : Nat × Nat) (ts : List Tok) (k : Nat) : Prop :=
 ∀ (pb : Nat) (wa : Value) (o : Int) (B : List (Nat × Obj)), (POK ts k o ∧ (b4 ts k).1 = 1 ∧ 0 < d6 (b4 ts k).2.2) → d9 Tryd.prog 79 [.pointer (some ⟨pb, 0, none⟩)] (ad4 te fre) (syH pb wa ts k o ++ [pool B])
  (fun out => (∃ v e k2 o2 B2, ExR (sC ts (k, o)) B v e k2 o2 B2 ∧ out = .ret v (syH pb wa ts k2 o2 ++ [pool B2])) ∨ (∃ c p k2 o2 B2, ExP (sC ts (k, o)) ts c p k2 o2 B2 ∧ out = .pan [{ v := acj c p, recovered := false }] (syH pb wa ts k2 o2 ++ [pool B2])))
end Go.Proofs.YtifajndacnfcbaaDoor
namespace Go.Proofs.YtifajndacnfcbaaDoor
open Go Go.ChangeShapes Go.WideShapes Go.ChangeAt Go.RowKit
set_option maxRecDepth 100000
abbrev arx : List (String × DataW Unit) := [("loupe/syntax.ranks", Rows.laid_loupe_syntax_ranks)]
theorem aog (W : World) : laidMetH Tryd.prog arx W = laidMet Tryd.prog arx W := by kernel_rfl
abbrev ajr : List Value := [st ([124] : Bs), st ([38, 45] : Bs), st ([62, 62] : Bs), st ([126] : Bs), st ([46] : Bs)]
section
variable {H : Type} {enc : TypeId × Value → H} {W : World} {base : Nat} {sp : Nat → Bool} {hd : Bool} {fuel : Nat}
theorem anp {cs : List Value} {y : DataW H × List MemPlace} (h : DataW.trod enc Tryd.prog W base sp hd fuel 121 cs = some y) {a b c d e : Bs} (hy : y.1 = .agg [.lit (.string a), .lit (.string b), .lit (.string c), .lit (.string d), .lit (.string e)]) : cs = [st a, st b, st c, st d, st e] := by
 have hc : Tryd.prog.cellsOf 9 = 1 := by kernel_rfl
 obtain ⟨xs, m, _, hx, hn, hl, hfs⟩ := DataW.trod_array Tryd.underlying121 h
 have hl5 : cs.length = 5 := hn.trans (by kernel_rfl)
 match xs, hl, cs, hl5 with
 | [y0, y1, y2, y3, y4], _, [c0, c1, c2, c3, c4], _ =>
  have t0 : DataW.trod enc Tryd.prog W base sp hd m 9 [c0] = some y0 := by
   have h : DataW.trod enc Tryd.prog W base sp hd m 9 (List.take (Tryd.prog.cellsOf 9) (List.drop (0 * Tryd.prog.cellsOf 9) [c0, c1, c2, c3, c4])) = some y0 := hfs 0 (by decide)
   rw [hc] at h; exact h
  have t1 : DataW.trod enc Tryd.prog W base sp hd m 9 [c1] = some y1 := by
   have h : DataW.trod enc Tryd.prog W base sp hd m 9 (List.take (Tryd.prog.cellsOf 9) (List.drop (1 * Tryd.prog.cellsOf 9) [c0, c1, c2, c3, c4])) = some y1 := hfs 1 (by decide)
   rw [hc] at h; exact h
  have t2 : DataW.trod enc Tryd.prog W base sp hd m 9 [c2] = some y2 := by
   have h : DataW.trod enc Tryd.prog W base sp hd m 9 (List.take (Tryd.prog.cellsOf 9) (List.drop (2 * Tryd.prog.cellsOf 9) [c0, c1, c2, c3, c4])) = some y2 := hfs 2 (by decide)
   rw [hc] at h; exact h
  have t3 : DataW.trod enc Tryd.prog W base sp hd m 9 [c3] = some y3 := by
   have h : DataW.trod enc Tryd.prog W base sp hd m 9 (List.take (Tryd.prog.cellsOf 9) (List.drop (3 * Tryd.prog.cellsOf 9) [c0, c1, c2, c3, c4])) = some y3 := hfs 3 (by decide)
   rw [hc] at h; exact h
  have t4 : DataW.trod enc Tryd.prog W base sp hd m 9 [c4] = some y4 := by
   have h : DataW.trod enc Tryd.prog W base sp hd m 9 (List.take (Tryd.prog.cellsOf 9) (List.drop (4 * Tryd.prog.cellsOf 9) [c0, c1, c2, c3, c4])) = some y4 := hfs 4 (by decide)
   rw [hc] at h; exact h
  obtain ⟨s0, q0, rfl, _⟩ := DataW.trod_string Tryd.underlying9 t0
  obtain ⟨s1, q1, rfl, _⟩ := DataW.trod_string Tryd.underlying9 t1
  obtain ⟨s2, q2, rfl, _⟩ := DataW.trod_string Tryd.underlying9 t2
  obtain ⟨s3, q3, rfl, _⟩ := DataW.trod_string Tryd.underlying9 t3
  obtain ⟨s4, q4, rfl, _⟩ := DataW.trod_string Tryd.underlying9 t4
  rw [hx] at hy
  simp only [List.map_cons, List.map_nil, DataW.agg.injEq, List.cons.injEq, DataW.lit.injEq, Lit.string.injEq, and_true] at hy
  obtain ⟨rfl, rfl, rfl, rfl, rfl⟩ := hy
  simp only [List.cons.injEq, and_true] at q0 q1 q2 q3 q4
  subst q0 q1 q2 q3 q4
  rfl
theorem aq5 {cs : List Value} {p : List MemPlace} (h : DataW.trod enc Tryd.prog W base sp hd fuel 121 cs = some (Rows.laid_loupe_syntax_ranks, p)) : cs = ajr := anp h rfl
end
theorem ami : Tryd.prog.globalNamed "loupe/syntax.ranks" = some 0 := by kernel_rfl
theorem aw7 : (Tryd.prog.globals[0]?).map (·.type) = some 121 := by kernel_rfl
theorem axt {W : World} {r : List (String × DataW Unit)} (h : laidMet Tryd.prog (("loupe/syntax.ranks", Rows.laid_loupe_syntax_ranks) :: r) W) : W.var? Tryd.prog "loupe/syntax.ranks" = some ajr.toArray := by
 obtain ⟨ps, ⟨g, t, cs, fuel, p, q, hg, ht, hvar, hd, _, _⟩, _⟩ := h
 obtain rfl := Option.some.inj (ami.symm.trans hg)
 obtain rfl := Option.some.inj (aw7.symm.trans ht)
 rw [hvar]
 obtain ⟨l⟩ := cs
 have := aq5 hd
 rw [← this]
theorem apx {W : World} (h : laidMetH Tryd.prog arx W) : ∃ te fre, W.heap[0]? = some (.cells ajr.toArray te fre) := by
 rw [aog] at h
 have h2 := axt h
 unfold World.var? at h2
 rw [ami] at h2
 simp only [Option.bind_some] at h2
 split at h2
 ·rename_i cs t fr hg
  obtain rfl := Option.some.inj h2
  exact ⟨t, fr, hg⟩
 ·cases h2
noncomputable def ax9 (g : Nat) (c : Array Value) (w : World) : World := { w with heap := w.heap.modify g fun
   | .cells _ t frozen => .cells c t frozen
   | o => o }
noncomputable def aiy (os : Os) : World := ax9 0 ajr.toArray (World.holding Tryd.prog os ⟨#[], #[], []⟩)
theorem aqz {f : FuncId} {vs : List Value} {v : Value} {W : World} (hL : laidMetH Tryd.prog arx W) (h : ∀ te fre, d9 Tryd.prog f vs (ad4 te fre) [] (Ret v [])) :
  Calls Tryd.prog f vs.toArray W fun e W' => e = .returned v ∧ Below W.heap.size W W' := by
 obtain ⟨te, fre, he⟩ := apx hL
 refine (h te fre W [] rfl List.nodup_nil (fun k hk => by cases hk) (fun p hp => by obtain rfl := List.mem_singleton.1 hp; exact ⟨he, fun hx => by cases hx⟩)).mono ?_
 rintro en w' ⟨H', hS, hh⟩
 rcases hS with ⟨r, rfl, hS⟩ | ⟨c, rfl, hS⟩
 ·cases hS; exact ⟨rfl, hh.toBelow⟩
 ·cases hS
end Go.Proofs.YtifajndacnfcbaaDoor
namespace Go.Proofs.YtifajndacnfcbaaDoor
open Go Go.RowKit
abbrev zP (b : Nat) : Value := Value.pointer (some ⟨b, 0, none⟩)
abbrev zI (i : Int) : Value := Value.int .i64 i
abbrev zU (i : Int) : Value := Value.int .u8 i
abbrev zB (b : Bool) : Value := Value.bool b
theorem wv {P : Program} {ops : Array Oper} {Q : Exit → Act → World → Prop} {C : Cx} {L : Sl} {H : List HA} {rest : List Oper} {o : Oper} {v : Value} {d : Nat} (hv : OV P C L H o v) (h : WL P ops Q C ((d, v) :: L) H rest) (hw : p7 ops L o = some true := by exact rfl) (hd : o.dst = some d := by exact rfl) (hn : Nat.blt d C.n = true := by exact rfl) : WL P ops Q C L H (o :: rest) := WL.val hv hw hd hn h
theorem kg {C : Cx} {L L' : Sl} {H : List HA} {K : Act → World → Prop} (h : KX K C L' H) (hs : Sub L L' := by repeat (first | exact trivial | refine ⟨rfl, ?_⟩)) : KX K C L H := KX.go h hs
theorem kh {C : Cx} {L L' : Sl} {H H' : List HA} {K : Act → World → Prop} (h : KX K C L' H') (idx : List Nat) (hs : Sub L L' := by repeat (first | exact trivial | refine ⟨rfl, ?_⟩)) (hi : u4 idx = true := by exact rfl) (he : sel H idx = H' := by exact rfl) : KX K C L H := KX.goH h hs idx hi he
theorem wk {P : Program} {ops : Array Oper} {Q : Exit → Act → World → Prop} {C : Cx} {L : Sl} {H : List HA} {rest : List Oper} {o : Oper} {d : Nat} (h : WL P ops Q C ((d, undef) :: L) H rest) (hw : p7 ops L o = some false := by exact rfl) (hd : o.dst = some d := by exact rfl) (hn : Nat.blt d C.n = true := by exact rfl) : WL P ops Q C L H (o :: rest) := WL.skip hw hd hn h
theorem wm {P : Program} {ops : Array Oper} {Q : Exit → Act → World → Prop} {C : Cx} {L : Sl} {H : List HA} {rest : List Oper} {x : Operand} {ty : TypeId} {p : String} {e : Array Edge} {g : Option (Nat × Bool)} {v : Value} {d : Nat} (h : WL P ops Q C ((d, v) :: L) H rest) (hx : ev L x = some v := by exact rfl) (hw : p7 ops L ⟨some d, .move x, ty, p, e, g⟩ = some true := by exact rfl) (hn : Nat.blt d C.n = true := by exact rfl) : WL P ops Q C L H (⟨some d, .move x, ty, p, e, g⟩ :: rest) := WL.val (OV.move hx) hw rfl hn h
theorem wA {P : Program} {ops : Array Oper} {Q : Exit → Act → World → Prop} {C : Cx} {L : Sl} {H : List HA} {rest : List Oper} {x : Operand} {ty : TypeId} {p : String} {e : Array Edge} {g : Option (Nat × Bool)} {v : Value} {d : Nat} (h : WL P ops Q C ((d, v) :: L) H rest) (hx : ev L x = some v := by exact rfl) (hw : p7 ops L ⟨some d, .assign x, ty, p, e, g⟩ = some true := by exact rfl) (hn : Nat.blt d C.n = true := by exact rfl) : WL P ops Q C L H (⟨some d, .assign x, ty, p, e, g⟩ :: rest) := WL.val (OV.assign hx) hw rfl hn h
theorem fv {P : Program} {ops : Array Oper} {T : World → m7 → Act → Prop} {C : Cx} {L : FSl} {H : List HA} {zl : List (Nat × Obj)} {k : Nat} {rest : List Oper} {o : Oper} {v : Value} {d : Nat} (hv : ∀ β, OV P C (L β) H o v) (h : FL P ops T C (fun β => (d, v) :: L β) H zl (k + 1) rest) (hz : aae zl k = none := by exact rfl) (hw : ∀ β, p7 ops (L β) o = some true := by exact fun _ => rfl) (hd : o.dst = some d := by exact rfl) (hn : Nat.blt d C.n = true := by exact rfl) : FL P ops T C L H zl k (o :: rest) := FL.val hv hz hw hd hn h
end Go.Proofs.YtifajndacnfcbaaDoor
set_option maxRecDepth 100000
namespace Go.Proofs.YtifajndacnfcbaaDoor
open Go Go.RowKit
theorem c6 : f6 Tryd.prog 100 1 = some 1 := by kernel_rfl
theorem a8 : aal Tryd.prog 3 = true := by kernel_rfl
theorem j7 : f6 Tryd.prog 100 0 = some 0 := by kernel_rfl
theorem c7 : aal Tryd.prog 9 = true := by kernel_rfl
theorem c9 : ane Tryd.prog 9 = true := by kernel_rfl
theorem f0 : Tryd.prog.follows .mixedOrders = true := by kernel_rfl
theorem afm : f6 Tryd.prog 100 3 = some 3 := by kernel_rfl
theorem w8 : o8 Tryd.prog 26 3 = true := by kernel_rfl
theorem adw : f6 Tryd.prog 100 2 = some 2 := by kernel_rfl
theorem adt : aal Tryd.prog 50 = true := by kernel_rfl
theorem af6 : slB Tryd.prog 50 102 3 = true := by kernel_rfl
theorem aph : afi Tryd.prog 102 = some ([zI 0, zI 0, st []], 3, 32) := by kernel_rfl
theorem akf : o8 Tryd.prog 50 1 = true := by kernel_rfl
def aig (c : Int) (K : Bool → Prop) : Prop :=
 K (((decide (c = 95)) || ((decide (97 ≤ c)) && (decide (c ≤ 122)))) || ((decide (65 ≤ c)) && (decide (c ≤ 90))))
theorem ani  (c : Int) (K : Bool → Prop) (h : aig c K) :
  d9 Tryd.prog 58 [zU c] [] [] (fun o => (∃ (v : Bool), K v ∧ o = .ret (zB v) []) ∨ (False)) := by
 unfold aig at h
 refine c8 (n := 21) (L0 := [(0, zU c)]) Tryd.func58 rfl rfl rfl rfl (fun w0 M Q hE => ?_)
 refine a7 (fun _ hK => ?_)
 refine a6 ?_
 refine wA ?_
 refine WL.nil ?_
 refine kg (hK [(0, zU c)] _ ?_)
 refine a7 (fun _ hK_1' => ?_)
 refine a6 ?_
 refine wm ?_
 refine wv (OV.eql rfl rfl) ?_
 refine wm ?_
 refine WL.cut 7 [(0, zU c), (12, zB ((decide (c = 95)) || ((decide (97 ≤ c)) && (decide (c ≤ 122)))))] ?_ (fun K0_3' hK_3' => ?_)
 rotate_left
 ·refine WL.split (decide (c = 95)) (fun hb => ?_) (fun hb => ?_)
  ·refine WL.set 5 rfl (congrArg zB hb) ?_
   refine wk ?_
   refine wk ?_
   refine wk ?_
   refine wk ?_
   refine wk ?_
   refine wk ?_
   refine wv (OV.pickT rfl rfl) ?_
   refine WL.set 12 rfl (oT (v := (decide (97 ≤ c)) && (decide (c ≤ 122))) hb) ?_
   exact WL.end_ (kg hK_3')
  ·refine WL.set 5 rfl (congrArg zB hb) ?_
   refine wm ?_
   refine wv (OV.geq rfl rfl) ?_
   refine wm ?_
   refine WL.cut 3 [(0, zU c), (5, zB false), (11, zB ((decide (97 ≤ c)) && (decide (c ≤ 122))))] ?_ (fun K0_2' hK_2' => ?_)
   rotate_left
   ·refine WL.split (decide (97 ≤ c)) (fun hb => ?_) (fun hb => ?_)
    ·refine WL.set 8 rfl (congrArg zB hb) ?_
     refine wm ?_
     refine wv (OV.leq rfl rfl) ?_
     refine wv (OV.pickT rfl rfl) ?_
     refine WL.set 11 rfl (bT (v := decide (c ≤ 122)) hb) ?_
     exact WL.end_ (kg hK_2')
    ·refine WL.set 8 rfl (congrArg zB hb) ?_
     refine wk ?_
     refine wk ?_
     refine wv (OV.pickF rfl rfl) ?_
     refine WL.set 11 rfl (bF (v := decide (c ≤ 122)) hb) ?_
     exact WL.end_ (kg hK_2')
   refine wv (OV.pickF rfl rfl) ?_
   refine WL.set 12 rfl (oF (v := (decide (97 ≤ c)) && (decide (c ≤ 122))) hb) ?_
   exact WL.end_ (kg hK_3')
 refine wm ?_
 refine WL.cut 7 [(20, zB (((decide (c = 95)) || ((decide (97 ≤ c)) && (decide (c ≤ 122)))) || ((decide (65 ≤ c)) && (decide (c ≤ 90)))))] ?_ (fun K0_5' hK_5' => ?_)
 rotate_left
 ·refine WL.split ((decide (c = 95)) || ((decide (97 ≤ c)) && (decide (c ≤ 122)))) (fun hb => ?_) (fun hb => ?_)
  ·refine WL.set 13 rfl (congrArg zB hb) ?_
   refine wk ?_
   refine wk ?_
   refine wk ?_
   refine wk ?_
   refine wk ?_
   refine wk ?_
   refine wv (OV.pickT rfl rfl) ?_
   refine WL.set 20 rfl (oT (v := (decide (65 ≤ c)) && (decide (c ≤ 90))) hb) ?_
   exact WL.end_ (kg hK_5')
  ·refine WL.set 13 rfl (congrArg zB hb) ?_
   refine wm ?_
   refine wv (OV.geq rfl rfl) ?_
   refine wm ?_
   refine WL.cut 3 [(13, zB false), (19, zB ((decide (65 ≤ c)) && (decide (c ≤ 90))))] ?_ (fun K0_4' hK_4' => ?_)
   rotate_left
   ·refine WL.split (decide (65 ≤ c)) (fun hb => ?_) (fun hb => ?_)
    ·refine WL.set 16 rfl (congrArg zB hb) ?_
     refine wm ?_
     refine wv (OV.leq rfl rfl) ?_
     refine wv (OV.pickT rfl rfl) ?_
     refine WL.set 19 rfl (bT (v := decide (c ≤ 90)) hb) ?_
     exact WL.end_ (kg hK_4')
    ·refine WL.set 16 rfl (congrArg zB hb) ?_
     refine wk ?_
     refine wk ?_
     refine wv (OV.pickF rfl rfl) ?_
     refine WL.set 19 rfl (bF (v := decide (c ≤ 90)) hb) ?_
     exact WL.end_ (kg hK_4')
   refine wv (OV.pickF rfl rfl) ?_
   refine WL.set 20 rfl (oF (v := (decide (65 ≤ c)) && (decide (c ≤ 90))) hb) ?_
   exact WL.end_ (kg hK_5')
 refine wA ?_
 refine WL.nil ?_
 refine kg (hK_1' [(2, zB (((decide (c = 95)) || ((decide (97 ≤ c)) && (decide (c ≤ 122)))) || ((decide (65 ≤ c)) && (decide (c ≤ 90)))))] _ ?_)
 refine b8 ?_
 exact hE.ret [] rfl rfl (.inl ⟨_, h, rfl⟩) (d7.of1 rfl (RV.tmp rfl))
def aji (c : Int) (K : Bool → Prop) : Prop :=
 K ((decide (48 ≤ c)) && (decide (c ≤ 57)))
theorem ao4  (c : Int) (K : Bool → Prop) (h : aji c K) :
  d9 Tryd.prog 59 [zU c] [] [] (fun o => (∃ (v : Bool), K v ∧ o = .ret (zB v) []) ∨ (False)) := by
 unfold aji at h
 refine c8 (n := 9) (L0 := [(0, zU c)]) Tryd.func59 rfl rfl rfl rfl (fun w0 M Q hE => ?_)
 refine a7 (fun _ hK => ?_)
 refine a6 ?_
 refine wA ?_
 refine WL.nil ?_
 refine kg (hK [(0, zU c)] _ ?_)
 refine a7 (fun _ hK_1' => ?_)
 refine a6 ?_
 refine wm ?_
 refine wv (OV.geq rfl rfl) ?_
 refine wm ?_
 refine WL.cut 3 [(8, zB ((decide (48 ≤ c)) && (decide (c ≤ 57))))] ?_ (fun K0_2' hK_2' => ?_)
 rotate_left
 ·refine WL.split (decide (48 ≤ c)) (fun hb => ?_) (fun hb => ?_)
  ·refine WL.set 5 rfl (congrArg zB hb) ?_
   refine wm ?_
   refine wv (OV.leq rfl rfl) ?_
   refine wv (OV.pickT rfl rfl) ?_
   refine WL.set 8 rfl (bT (v := decide (c ≤ 57)) hb) ?_
   exact WL.end_ (kg hK_2')
  ·refine WL.set 5 rfl (congrArg zB hb) ?_
   refine wk ?_
   refine wk ?_
   refine wv (OV.pickF rfl rfl) ?_
   refine WL.set 8 rfl (bF (v := decide (c ≤ 57)) hb) ?_
   exact WL.end_ (kg hK_2')
 refine wA ?_
 refine WL.nil ?_
 refine kg (hK_1' [(2, zB ((decide (48 ≤ c)) && (decide (c ≤ 57))))] _ ?_)
 refine b8 ?_
 exact hE.ret [] rfl rfl (.inl ⟨_, h, rfl⟩) (d7.of1 rfl (RV.tmp rfl))
def afj (c : Int) (K : Bool → Prop) : Prop :=
 K ((decide (32 ≤ c)) && (decide (c ≤ 126)))
theorem ajp  (c : Int) (K : Bool → Prop) (h : afj c K) :
  d9 Tryd.prog 72 [zU c] [] [] (fun o => (∃ (v : Bool), K v ∧ o = .ret (zB v) []) ∨ (False)) := by
 unfold afj at h
 refine c8 (n := 9) (L0 := [(0, zU c)]) Tryd.func72 rfl rfl rfl rfl (fun w0 M Q hE => ?_)
 refine a7 (fun _ hK => ?_)
 refine a6 ?_
 refine wA ?_
 refine WL.nil ?_
 refine kg (hK [(0, zU c)] _ ?_)
 refine a7 (fun _ hK_1' => ?_)
 refine a6 ?_
 refine wm ?_
 refine wv (OV.geq rfl rfl) ?_
 refine wm ?_
 refine WL.cut 3 [(8, zB ((decide (32 ≤ c)) && (decide (c ≤ 126))))] ?_ (fun K0_2' hK_2' => ?_)
 rotate_left
 ·refine WL.split (decide (32 ≤ c)) (fun hb => ?_) (fun hb => ?_)
  ·refine WL.set 5 rfl (congrArg zB hb) ?_
   refine wm ?_
   refine wv (OV.leq rfl rfl) ?_
   refine wv (OV.pickT rfl rfl) ?_
   refine WL.set 8 rfl (bT (v := decide (c ≤ 126)) hb) ?_
   exact WL.end_ (kg hK_2')
  ·refine WL.set 5 rfl (congrArg zB hb) ?_
   refine wk ?_
   refine wk ?_
   refine wv (OV.pickF rfl rfl) ?_
   refine WL.set 8 rfl (bF (v := decide (c ≤ 126)) hb) ?_
   exact WL.end_ (kg hK_2')
 refine wA ?_
 refine WL.nil ?_
 refine kg (hK_1' [(2, zB ((decide (32 ≤ c)) && (decide (c ≤ 126))))] _ ?_)
 refine b8 ?_
 exact hE.ret [] rfl rfl (.inl ⟨_, h, rfl⟩) (d7.of1 rfl (RV.tmp rfl))
def ahz (c : Int) (K : Bool → Prop) : Prop :=
 K (((decide (c = 95)) || ((decide (97 ≤ c)) && (decide (c ≤ 122)))) || ((decide (65 ≤ c)) && (decide (c ≤ 90))))
theorem anm  (c : Int) (K : Bool → Prop) (h : ahz c K) :
  d9 Tryd.prog 45 [zU c] [] [] (fun o => (∃ (v : Bool), K v ∧ o = .ret (zB v) []) ∨ (False)) := by
 unfold ahz at h
 refine c8 (n := 21) (L0 := [(0, zU c)]) Tryd.func45 rfl rfl rfl rfl (fun w0 M Q hE => ?_)
 refine a7 (fun _ hK => ?_)
 refine a6 ?_
 refine wA ?_
 refine WL.nil ?_
 refine kg (hK [(0, zU c)] _ ?_)
 refine a7 (fun _ hK_1' => ?_)
 refine a6 ?_
 refine wm ?_
 refine wv (OV.eql rfl rfl) ?_
 refine wm ?_
 refine WL.cut 7 [(0, zU c), (12, zB ((decide (c = 95)) || ((decide (97 ≤ c)) && (decide (c ≤ 122)))))] ?_ (fun K0_3' hK_3' => ?_)
 rotate_left
 ·refine WL.split (decide (c = 95)) (fun hb => ?_) (fun hb => ?_)
  ·refine WL.set 5 rfl (congrArg zB hb) ?_
   refine wk ?_
   refine wk ?_
   refine wk ?_
   refine wk ?_
   refine wk ?_
   refine wk ?_
   refine wv (OV.pickT rfl rfl) ?_
   refine WL.set 12 rfl (oT (v := (decide (97 ≤ c)) && (decide (c ≤ 122))) hb) ?_
   exact WL.end_ (kg hK_3')
  ·refine WL.set 5 rfl (congrArg zB hb) ?_
   refine wm ?_
   refine wv (OV.geq rfl rfl) ?_
   refine wm ?_
   refine WL.cut 3 [(0, zU c), (5, zB false), (11, zB ((decide (97 ≤ c)) && (decide (c ≤ 122))))] ?_ (fun K0_2' hK_2' => ?_)
   rotate_left
   ·refine WL.split (decide (97 ≤ c)) (fun hb => ?_) (fun hb => ?_)
    ·refine WL.set 8 rfl (congrArg zB hb) ?_
     refine wm ?_
     refine wv (OV.leq rfl rfl) ?_
     refine wv (OV.pickT rfl rfl) ?_
     refine WL.set 11 rfl (bT (v := decide (c ≤ 122)) hb) ?_
     exact WL.end_ (kg hK_2')
    ·refine WL.set 8 rfl (congrArg zB hb) ?_
     refine wk ?_
     refine wk ?_
     refine wv (OV.pickF rfl rfl) ?_
     refine WL.set 11 rfl (bF (v := decide (c ≤ 122)) hb) ?_
     exact WL.end_ (kg hK_2')
   refine wv (OV.pickF rfl rfl) ?_
   refine WL.set 12 rfl (oF (v := (decide (97 ≤ c)) && (decide (c ≤ 122))) hb) ?_
   exact WL.end_ (kg hK_3')
 refine wm ?_
 refine WL.cut 7 [(20, zB (((decide (c = 95)) || ((decide (97 ≤ c)) && (decide (c ≤ 122)))) || ((decide (65 ≤ c)) && (decide (c ≤ 90)))))] ?_ (fun K0_5' hK_5' => ?_)
 rotate_left
 ·refine WL.split ((decide (c = 95)) || ((decide (97 ≤ c)) && (decide (c ≤ 122)))) (fun hb => ?_) (fun hb => ?_)
  ·refine WL.set 13 rfl (congrArg zB hb) ?_
   refine wk ?_
   refine wk ?_
   refine wk ?_
   refine wk ?_
   refine wk ?_
   refine wk ?_
   refine wv (OV.pickT rfl rfl) ?_
   refine WL.set 20 rfl (oT (v := (decide (65 ≤ c)) && (decide (c ≤ 90))) hb) ?_
   exact WL.end_ (kg hK_5')
  ·refine WL.set 13 rfl (congrArg zB hb) ?_
   refine wm ?_
   refine wv (OV.geq rfl rfl) ?_
   refine wm ?_
   refine WL.cut 3 [(13, zB false), (19, zB ((decide (65 ≤ c)) && (decide (c ≤ 90))))] ?_ (fun K0_4' hK_4' => ?_)
   rotate_left
   ·refine WL.split (decide (65 ≤ c)) (fun hb => ?_) (fun hb => ?_)
    ·refine WL.set 16 rfl (congrArg zB hb) ?_
     refine wm ?_
     refine wv (OV.leq rfl rfl) ?_
     refine wv (OV.pickT rfl rfl) ?_
     refine WL.set 19 rfl (bT (v := decide (c ≤ 90)) hb) ?_
     exact WL.end_ (kg hK_4')
    ·refine WL.set 16 rfl (congrArg zB hb) ?_
     refine wk ?_
     refine wk ?_
     refine wv (OV.pickF rfl rfl) ?_
     refine WL.set 19 rfl (bF (v := decide (c ≤ 90)) hb) ?_
     exact WL.end_ (kg hK_4')
   refine wv (OV.pickF rfl rfl) ?_
   refine WL.set 20 rfl (oF (v := (decide (65 ≤ c)) && (decide (c ≤ 90))) hb) ?_
   exact WL.end_ (kg hK_5')
 refine wA ?_
 refine WL.nil ?_
 refine kg (hK_1' [(2, zB (((decide (c = 95)) || ((decide (97 ≤ c)) && (decide (c ≤ 122)))) || ((decide (65 ≤ c)) && (decide (c ≤ 90)))))] _ ?_)
 refine b8 ?_
 exact hE.ret [] rfl rfl (.inl ⟨_, h, rfl⟩) (d7.of1 rfl (RV.tmp rfl))
def ajk (c : Int) (K : Bool → Prop) : Prop :=
 K ((decide (48 ≤ c)) && (decide (c ≤ 57)))
theorem aoy  (c : Int) (K : Bool → Prop) (h : ajk c K) :
  d9 Tryd.prog 46 [zU c] [] [] (fun o => (∃ (v : Bool), K v ∧ o = .ret (zB v) []) ∨ (False)) := by
 unfold ajk at h
 refine c8 (n := 9) (L0 := [(0, zU c)]) Tryd.func46 rfl rfl rfl rfl (fun w0 M Q hE => ?_)
 refine a7 (fun _ hK => ?_)
 refine a6 ?_
 refine wA ?_
 refine WL.nil ?_
 refine kg (hK [(0, zU c)] _ ?_)
 refine a7 (fun _ hK_1' => ?_)
 refine a6 ?_
 refine wm ?_
 refine wv (OV.geq rfl rfl) ?_
 refine wm ?_
 refine WL.cut 3 [(8, zB ((decide (48 ≤ c)) && (decide (c ≤ 57))))] ?_ (fun K0_2' hK_2' => ?_)
 rotate_left
 ·refine WL.split (decide (48 ≤ c)) (fun hb => ?_) (fun hb => ?_)
  ·refine WL.set 5 rfl (congrArg zB hb) ?_
   refine wm ?_
   refine wv (OV.leq rfl rfl) ?_
   refine wv (OV.pickT rfl rfl) ?_
   refine WL.set 8 rfl (bT (v := decide (c ≤ 57)) hb) ?_
   exact WL.end_ (kg hK_2')
  ·refine WL.set 5 rfl (congrArg zB hb) ?_
   refine wk ?_
   refine wk ?_
   refine wv (OV.pickF rfl rfl) ?_
   refine WL.set 8 rfl (bF (v := decide (c ≤ 57)) hb) ?_
   exact WL.end_ (kg hK_2')
 refine wA ?_
 refine WL.nil ?_
 refine kg (hK_1' [(2, zB ((decide (48 ≤ c)) && (decide (c ≤ 57))))] _ ?_)
 refine b8 ?_
 exact hE.ret [] rfl rfl (.inl ⟨_, h, rfl⟩) (d7.of1 rfl (RV.tmp rfl))
def aje (c : Int) (K : Bool → Prop) : Prop :=
 K ((decide (32 ≤ c)) && (decide (c ≤ 126)))
theorem aot  (c : Int) (K : Bool → Prop) (h : aje c K) :
  d9 Tryd.prog 67 [zU c] [] [] (fun o => (∃ (v : Bool), K v ∧ o = .ret (zB v) []) ∨ (False)) := by
 unfold aje at h
 refine c8 (n := 9) (L0 := [(0, zU c)]) Tryd.func67 rfl rfl rfl rfl (fun w0 M Q hE => ?_)
 refine a7 (fun _ hK => ?_)
 refine a6 ?_
 refine wA ?_
 refine WL.nil ?_
 refine kg (hK [(0, zU c)] _ ?_)
 refine a7 (fun _ hK_1' => ?_)
 refine a6 ?_
 refine wm ?_
 refine wv (OV.geq rfl rfl) ?_
 refine wm ?_
 refine WL.cut 3 [(8, zB ((decide (32 ≤ c)) && (decide (c ≤ 126))))] ?_ (fun K0_2' hK_2' => ?_)
 rotate_left
 ·refine WL.split (decide (32 ≤ c)) (fun hb => ?_) (fun hb => ?_)
  ·refine WL.set 5 rfl (congrArg zB hb) ?_
   refine wm ?_
   refine wv (OV.leq rfl rfl) ?_
   refine wv (OV.pickT rfl rfl) ?_
   refine WL.set 8 rfl (bT (v := decide (c ≤ 126)) hb) ?_
   exact WL.end_ (kg hK_2')
  ·refine WL.set 5 rfl (congrArg zB hb) ?_
   refine wk ?_
   refine wk ?_
   refine wv (OV.pickF rfl rfl) ?_
   refine WL.set 8 rfl (bF (v := decide (c ≤ 126)) hb) ?_
   exact WL.end_ (kg hK_2')
 refine wA ?_
 refine WL.nil ?_
 refine kg (hK_1' [(2, zB ((decide (32 ≤ c)) && (decide (c ≤ 126))))] _ ?_)
 refine b8 ?_
 exact hE.ret [] rfl rfl (.inl ⟨_, h, rfl⟩) (d7.of1 rfl (RV.tmp rfl))
def aov (s_0 : List UInt8) (s_1 : Int) (_ : Value) (_ : Int) (_ : Int) (_ : List UInt8) (K : Bool → Prop) : Prop :=
 K (decide ((s_0.length : Int) ≤ s_1))
theorem au3 (b : Nat) (s_0 : List UInt8) (s_1 : Int) (s_2 : Value) (s_3 : Int) (s_4 : Int) (s_5 : List UInt8) (K : Bool → Prop) (h : aov s_0 s_1 s_2 s_3 s_4 s_5 K) :
  d9 Tryd.prog 35 [zP b] [(b, .cells [st s_0, zI s_1, s_2, zI s_3, zI s_4, st s_5].toArray 100 (0, 0))] [] (fun o => (∃ (v : Bool), K v ∧ o = .ret (zB v) []) ∨ (False)) := by
 unfold aov at h
 refine c8 (n := 13) (L0 := [(0, zP b)]) Tryd.func35 rfl rfl rfl rfl (fun w0 M Q hE => ?_)
 refine a7 (fun _ hK => ?_)
 refine a6 ?_
 refine wA ?_
 refine WL.nil ?_
 refine kg (hK [(0, zP b)] _ ?_)
 refine a7 (fun _ hK_1' => ?_)
 refine m0 9 [] f0 (by kernel_rfl) rfl (fun T hT => ?_)
 refine fv (fun _ => OV.move rfl) ?_
 refine fv (fun _ => OV.nilCheck rfl) ?_
 refine fv (fun _ => OV.fieldAddr0 rfl c6) ?_
 refine fv (fun _ => OV.load rfl (At.ro 0 rfl) rfl a8) ?_
 refine fv (fun _ => OV.move rfl) ?_
 refine fv (fun _ => OV.nilCheck rfl) ?_
 refine fv (fun _ => OV.fieldAddr0 rfl j7) ?_
 refine fv (fun _ => OV.load rfl (At.ro 0 rfl) rfl c7) ?_
 refine fv (fun _ => OV.len rfl c9) ?_
 refine FL.weak (L' := fun γ => [(6, zI s_1), (11, zI (s_0.length : Int))]) (fun γ => ⟨rfl, rfl, trivial⟩) (FL.nil (hT (fun γ => [(6, zI s_1), (11, zI (s_0.length : Int))]) (fun γ => ?_)))
 refine wv (OV.geq rfl rfl) ?_
 refine wA ?_
 refine WL.nil ?_
 refine kg (hK_1' [(2, zB (decide ((s_0.length : Int) ≤ s_1)))] _ ?_)
 refine b8 ?_
 exact hE.ret [] rfl rfl (.inl ⟨_, h, rfl⟩) (d7.of1 rfl (RV.tmp rfl))
def ari (s_0 : List UInt8) (s_1 : Int) (s_2 : Value) (_ : Int) (_ : Int) (_ : List UInt8) (code : Int) (at0 : Int) (K : Bool → (List UInt8) → Int → Value → Int → Int → (List UInt8) → Prop) : Prop :=
 K false s_0 s_1 s_2 code at0 []
theorem av9 (b : Nat) (s_0 : List UInt8) (s_1 : Int) (s_2 : Value) (s_3 : Int) (s_4 : Int) (s_5 : List UInt8) (code : Int) (at0 : Int) (K : Bool → (List UInt8) → Int → Value → Int → Int → (List UInt8) → Prop) (h : ari s_0 s_1 s_2 s_3 s_4 s_5 code at0 K) :
  d9 Tryd.prog 60 [zP b, zI code, zI at0] [] [HA.blk b (.cells [st s_0, zI s_1, s_2, zI s_3, zI s_4, st s_5].toArray 100 (0, 0))] (fun o => (∃ (v : Bool) (d_0 : List UInt8) (d_1 : Int) (d_2 : Value) (d_3 : Int) (d_4 : Int) (d_5 : List UInt8), K v d_0 d_1 d_2 d_3 d_4 d_5 ∧ o = .ret (zB v) [HA.blk b (.cells [st d_0, zI d_1, d_2, zI d_3, zI d_4, st d_5].toArray 100 (0, 0))]) ∨ (False)) := by
 unfold ari at h
 refine c8 (n := 13) (L0 := [(0, zP b), (1, zI code), (2, zI at0)]) Tryd.func60 rfl rfl rfl rfl (fun w0 M Q hE => ?_)
 refine a7 (fun _ hK => ?_)
 refine a6 ?_
 refine wA ?_
 refine WL.nil ?_
 refine kg (hK [(0, zP b), (1, zI code), (2, zI at0)] _ ?_)
 refine a7 (fun _ hK_1' => ?_)
 refine a6 ?_
 refine wm ?_
 refine wm ?_
 refine wm ?_
 refine wv (OV.build rfl (cs := [zI code, zI at0, st []]) rfl) ?_
 refine wv (OV.nilCheck rfl) ?_
 refine wv (OV.fieldAddr0 rfl afm) ?_
 refine WL.store (vs := [zI code, zI at0, st []]) (cs' := [st s_0, zI s_1, s_2, zI code, zI at0, st []]) 0 rfl rfl rfl rfl w8 (Nat.le_of_ble_eq_true rfl) rfl rfl rfl ?_
 refine WL.nil ?_
 refine KX.go (hK_1' [] _ ?_) trivial
 refine a7 (fun _ hK_2' => ?_)
 refine a6 ?_
 refine wA ?_
 refine WL.nil ?_
 refine kg (hK_2' [(6, zB false)] _ ?_)
 refine b8 ?_
 exact hE.ret [0] rfl rfl (.inl ⟨_, _, _, _, _, _, _, h, rfl⟩) (d7.of1 rfl (RV.tmp rfl))
def au8 (s_0 : List UInt8) (s_1 : Int) (s_3 : Int) (s_4 : Int) (s_5 : List UInt8) (sl : List Tok) (kind : Int) (from0 : Int) (text : List UInt8) (K : Bool → (List UInt8) → Int → Int → Int → (List UInt8) → (List Tok) → Prop) : Prop :=
 (((sl.length + 1) + (sl.length + 1) / 4 + 192) * 32 ≤ 281474976710656 ∧ sl.length + 1 ≤ 9223372036854775807) ∧
 K true s_0 s_1 s_3 s_4 s_5 (sl ++ [(kind, from0, text)])
theorem axo (b : Nat) (w : Value) (s_0 : List UInt8) (s_1 : Int) (s_3 : Int) (s_4 : Int) (s_5 : List UInt8) (sl : List Tok) (kind : Int) (from0 : Int) (text : List UInt8) (K : Bool → (List UInt8) → Int → Int → Int → (List UInt8) → (List Tok) → Prop) (h : au8 s_0 s_1 s_3 s_4 s_5 sl kind from0 text K) :
  d9 Tryd.prog 37 [zP b, zI kind, zI from0, st text] [] [HA.blk b (.cells [st s_0, zI s_1, w, zI s_3, zI s_4, st s_5].toArray 100 (0, 0)), HA.row w 102 3 sl.length (sl.flatMap e6)] (fun o => (∃ (v : Bool) (d_1' : List UInt8) (d_2' : Int) (d_3' : Int) (d_4' : Int) (d_5' : List UInt8) (w_2' : Value) (d : List Tok), K v d_1' d_2' d_3' d_4' d_5' d ∧ o = .ret (zB v) [HA.blk b (.cells [st d_1', zI d_2', w_2', zI d_3', zI d_4', st d_5'].toArray 100 (0, 0)), HA.row w_2' 102 3 d.length (d.flatMap e6)]) ∨ (False)) := by
 unfold au8 at h
 refine c8 (n := 22) (L0 := [(0, zP b), (1, zI kind), (2, zI from0), (3, st text)]) Tryd.func37 rfl rfl rfl rfl (fun w0 M Q hE => ?_)
 refine a7 (fun _ hK => ?_)
 refine a6 ?_
 refine wA ?_
 refine WL.nil ?_
 refine kg (hK [(0, zP b), (1, zI kind), (2, zI from0), (3, st text)] _ ?_)
 refine a7 (fun _ hK_1' => ?_)
 refine a6 ?_
 refine wm ?_
 refine wm ?_
 refine wv (OV.nilCheck rfl) ?_
 refine wv (OV.fieldAddr0 rfl adw) ?_
 refine wv (OV.load rfl (At.own 0 rfl) rfl adt) ?_
 refine wm ?_
 refine wm ?_
 refine wm ?_
 refine wv (OV.build rfl (cs := [zI kind, zI from0, st text]) rfl) ?_
 refine WL.make (MV.buildSlice (cs := [zI kind, zI from0, st text]) rfl af6 (by kernel_rfl)) rfl rfl rfl (fun b_1' => ?_)
 obtain ⟨o, h⟩ := h
 refine WL.append (f := e6) (ms := [(kind, from0, text)]) 2 0 rfl rfl rfl rfl rfl rfl p9 (by decide) rfl af6 aph rfl o rfl rfl (fun w_1' => ?_)
 refine wv (OV.nilCheck rfl) ?_
 refine wv (OV.fieldAddr0 rfl adw) ?_
 refine WL.storeSl (cs' := [st s_0, zI s_1, w_1', zI s_3, zI s_4, st s_5]) 1 2 rfl rfl rfl rfl akf (Nat.le_of_ble_eq_true rfl) rfl rfl ?_
 refine WL.nil ?_
 refine KX.go (hK_1' [] _ ?_) trivial
 refine a7 (fun _ hK_2' => ?_)
 refine a6 ?_
 refine wA ?_
 refine WL.nil ?_
 refine kg (hK_2' [(8, zB true)] _ ?_)
 refine b8 ?_
 exact hE.ret [1, 2] rfl rfl (.inl ⟨_, _, _, _, _, _, _, _, h, rfl⟩) (d7.of1 rfl (RV.tmp rfl))
theorem afl (c : Int) : d9 Tryd.prog 58 [.int .u8 c] [] [] (Ret (.bool (j5 c)) []) :=
 (ani c (fun r => r = j5 c) rfl).weak (by rintro o (⟨v, rfl, rfl⟩ | h) <;> first | rfl | exact h.elim)
theorem alp (c : Int) : d9 Tryd.prog 59 [.int .u8 c] [] [] (Ret (.bool (m8 c)) []) :=
 (ao4 c (fun r => r = m8 c) rfl).weak (by rintro o (⟨v, rfl, rfl⟩ | h) <;> first | rfl | exact h.elim)
theorem ab3 (c : Int) : d9 Tryd.prog 72 [.int .u8 c] [] [] (Ret (.bool (m9 c)) []) :=
 (ajp c (fun r => r = m9 c) rfl).weak (by rintro o (⟨v, rfl, rfl⟩ | h) <;> first | rfl | exact h.elim)
theorem af0 (c : Int) : d9 Tryd.prog 45 [.int .u8 c] [] [] (Ret (.bool (j5 c)) []) :=
 (anm c (fun r => r = j5 c) rfl).weak (by rintro o (⟨v, rfl, rfl⟩ | h) <;> first | rfl | exact h.elim)
theorem ag9 (c : Int) : d9 Tryd.prog 46 [.int .u8 c] [] [] (Ret (.bool (m8 c)) []) :=
 (aoy c (fun r => r = m8 c) rfl).weak (by rintro o (⟨v, rfl, rfl⟩ | h) <;> first | rfl | exact h.elim)
theorem aef (c : Int) : d9 Tryd.prog 67 [.int .u8 c] [] [] (Ret (.bool (m9 c)) []) :=
 (aot c (fun r => r = m9 c) rfl).weak (by rintro o (⟨v, rfl, rfl⟩ | h) <;> first | rfl | exact h.elim)
abbrev scB (t : List UInt8) (a : Int) (w : Value) (fc fa : Int) (ft : List UInt8) : Obj := .cells [st t, zI a, w, zI fc, zI fa, st ft].toArray 100 (0, 0)
abbrev aho (w : Value) (l : List Tok) : HA := HA.row w 102 3 l.length (l.flatMap e6)
theorem aab (b : Nat) (t : List UInt8) (a : Int) (w : Value) (fc fa : Int) (ft : List UInt8) : d9 Tryd.prog 35 [.pointer (some ⟨b, 0, none⟩)] [(b, scB t a w fc fa ft)] [] (Ret (.bool (decide (t.length ≤ a))) []) :=
 (au3 b t a w fc fa ft (fun r => r = decide ((t.length : Int) ≤ a)) rfl).weak (by rintro o (⟨v, rfl, rfl⟩ | h) <;> first | rfl | exact h.elim)
theorem abd (b : Nat) (t : List UInt8) (a : Int) (w : Value) (fc fa : Int) (ft : List UInt8) (code p : Int) : d9 Tryd.prog 60 [.pointer (some ⟨b, 0, none⟩), .int .i64 code, .int .i64 p] [] [.blk b (scB t a w fc fa ft)] (Ret (.bool false) [.blk b (scB t a w code p [])]) :=
 (av9 b t a w fc fa ft code p (fun r t' a' w' c' p' x => r = false ∧ t' = t ∧ a' = a ∧ w' = w ∧ c' = code ∧ p' = p ∧ x = []) ⟨rfl, rfl, rfl, rfl, rfl, rfl, rfl⟩).weak (by
  rintro o (⟨_, _, _, _, _, _, _, ⟨rfl, rfl, rfl, rfl, rfl, rfl, rfl⟩, rfl⟩ | h)
  ·rfl
  ·exact h.elim)
theorem aet (b : Nat) (t : List UInt8) (a : Int) (w : Value) (fc fa : Int) (ft : List UInt8) (l : List Tok) (k p : Int) (x : List UInt8) (h : l.length ≤ 4096) : d9 Tryd.prog 37 [.pointer (some ⟨b, 0, none⟩), .int .i64 k, .int .i64 p, st x] [] [.blk b (scB t a w fc fa ft), aho w l]
  (fun o => ∃ w' : Value, o = .ret (.bool true) [.blk b (scB t a w' fc fa ft), aho w' (l ++ [(k, p, x)])]) :=
 (axo b w t a fc fa ft l k p x (fun r t' a' c' p' x' l' => r = true ∧ t' = t ∧ a' = a ∧ c' = fc ∧ p' = fa ∧ x' = ft ∧ l' = l ++ [(k, p, x)]) ⟨⟨by omega, by omega⟩, rfl, rfl, rfl, rfl, rfl, rfl, rfl⟩).weak (by
  rintro o (hh | h)
  ·obtain ⟨_, _, _, _, _, _, w', _, ⟨rfl, rfl, rfl, rfl, rfl, rfl, rfl⟩, rfl⟩ := hh
   exact ⟨w', rfl⟩
  ·exact h.elim)
end Go.Proofs.YtifajndacnfcbaaDoor
set_option maxRecDepth 100000
namespace Go.Proofs.YtifajndacnfcbaaDoor
open Go Go.RowKit
theorem aav : k9 Tryd.prog 35 = true := by kernel_rfl
theorem f9 : o8 Tryd.prog 3 1 = true := by kernel_rfl
theorem amj : k9 Tryd.prog 46 = true := by kernel_rfl
theorem am0 : (Tryd.prog.underlying 5).isSome = true := by kernel_rfl
def ang (s_0 : List UInt8) (s_1 : Int) (s_2 : Value) (s_3 : Int) (s_4 : Int) (s_5 : List UInt8) (K : (List UInt8) → Int → Value → Int → Int → (List UInt8) → Prop) : Prop :=
 ∃ (Inv_2' : Int → Prop) (mu_2' : Int → Nat),
  Inv_2' s_1 ∧ ∀ (s_1_6' : Int), Inv_2' s_1_6' →
   (if (!(decide (s_0.length ≤ s_1_6'))) = true then
    (0 ≤ s_1_6' ∧ s_1_6' < s_0.length) ∧
    (if (decide (((s_0.getD s_1_6'.toNat 0).toNat : Int) = 35)) = true then
     ∃ (Inv_3' : Int → Prop) (mu_3' : Int → Nat),
      Inv_3' s_1_6' ∧ ∀ (s_1_8' : Int), Inv_3' s_1_8' →
       ((!(decide (s_0.length ≤ s_1_8'))) = true → (0 ≤ s_1_8' ∧ s_1_8' < s_0.length)) ∧
       (if ((!(decide (s_0.length ≤ s_1_8'))) && (!decide (((s_0.getD s_1_8'.toNat 0).toNat : Int) = 10))) = true then
        (I64 (s_1_8' + 1)) ∧
        Inv_3' (s_1_8' + 1) ∧ mu_3' (s_1_8' + 1) < mu_3' s_1_8'
       else
        Inv_2' s_1_8' ∧ mu_2' s_1_8' < mu_2' s_1_6')
    else
     ∃ (J0_2' : Bool → Prop),
      (∀ (t38_2' : Bool), J0_2' t38_2' →
       (if t38_2' = true then
        (I64 (s_1_6' + 1)) ∧
        Inv_2' (s_1_6' + 1) ∧ mu_2' (s_1_6' + 1) < mu_2' s_1_6'
       else
        K s_0 s_1_6' s_2 s_3 s_4 s_5)) ∧
      (if (decide (((s_0.getD s_1_6'.toNat 0).toNat : Int) = 32)) = true then
       J0_2' (decide (((s_0.getD s_1_6'.toNat 0).toNat : Int) = 32))
      else
       (if (decide (((s_0.getD s_1_6'.toNat 0).toNat : Int) = 9)) = true then
        J0_2' (decide (((s_0.getD s_1_6'.toNat 0).toNat : Int) = 9))
       else
        (if (decide (((s_0.getD s_1_6'.toNat 0).toNat : Int) = 10)) = true then
         J0_2' (decide (((s_0.getD s_1_6'.toNat 0).toNat : Int) = 10))
        else
         J0_2' (decide (((s_0.getD s_1_6'.toNat 0).toNat : Int) = 13))))))
   else
    K s_0 s_1_6' s_2 s_3 s_4 s_5)
theorem axa (b : Nat) (s_0 : List UInt8) (s_1 : Int) (s_2 : Value) (s_3 : Int) (s_4 : Int) (s_5 : List UInt8) (K : (List UInt8) → Int → Value → Int → Int → (List UInt8) → Prop) (h : ang s_0 s_1 s_2 s_3 s_4 s_5 K) :
  d9 Tryd.prog 34 [zP b] [] [HA.blk b (.cells [st s_0, zI s_1, s_2, zI s_3, zI s_4, st s_5].toArray 100 (0, 0))] (fun o => (∃ (d_0 : List UInt8) (d_1 : Int) (d_2 : Value) (d_3 : Int) (d_4 : Int) (d_5 : List UInt8), K d_0 d_1 d_2 d_3 d_4 d_5 ∧ o = .ret (Value.tuple #[]) [HA.blk b (.cells [st d_0, zI d_1, d_2, zI d_3, zI d_4, st d_5].toArray 100 (0, 0))]) ∨ (False)) := by
 unfold ang at h
 refine c8 (n := 50) (L0 := [(0, zP b)]) Tryd.func34 rfl rfl rfl rfl (fun w0 M Q hE => ?_)
 refine b7 ?_
 obtain ⟨Inv_2', mu_2', h0_2', hr_2'⟩ := h
 refine o7 (S := Int) (fun σ => Inv_2' σ) (fun σ => mu_2' σ) (fun σ => [(0, zP b)]) (fun σ => [HA.blk b (.cells [st s_0, zI σ, s_2, zI s_3, zI s_4, st s_5].toArray 100 (0, 0))]) s_1 h0_2' ⟨rfl, trivial⟩ rfl ?_
 rintro s_1_6' hi K0_42' hK_42'
 have h := hr_2' s_1_6' hi
 show WC _ _ _ _ [(0, zP b)] [HA.blk b (.cells [st s_0, zI s_1_6', s_2, zI s_3, zI s_4, st s_5].toArray 100 (0, 0))]
 refine a7 (fun _ hK_43' => ?_)
 refine a7 (fun _ hK_44' => ?_)
 refine a6 ?_
 refine wm ?_
 refine WL.call (A := []) aav rfl (aab b s_0 s_1_6' s_2 s_3 s_4 s_5) rfl ⟨.inl ⟨0, rfl⟩, trivial⟩ rfl rfl ?_
 refine wv (OV.not rfl) ?_
 refine WL.nil ?_
 refine kg (hK_44' [(0, zP b), (4, zB (!(decide (s_0.length ≤ s_1_6'))))] _ ?_)
 refine b5 (b := !(decide (s_0.length ≤ s_1_6'))) rfl (fun hb => ?_) (fun hb => ?_)
 ·replace h := e8 h hb
  refine b6 ?_
  refine kg (hK_43' [(0, zP b)] _ ?_)
  refine b7 ?_
  refine a7 (fun _ hK_45' => ?_)
  refine m0 8 [] f0 (by kernel_rfl) rfl (fun T_8' hT_8' => ?_)
  refine fv (fun _ => OV.move rfl) ?_
  refine fv (fun _ => OV.nilCheck rfl) ?_
  refine fv (fun _ => OV.fieldAddr0 rfl j7) ?_
  refine fv (fun _ => OV.load rfl (At.own 0 rfl) rfl c7) ?_
  refine fv (fun _ => OV.move rfl) ?_
  refine fv (fun _ => OV.nilCheck rfl) ?_
  refine fv (fun _ => OV.fieldAddr0 rfl c6) ?_
  refine fv (fun _ => OV.load rfl (At.own 0 rfl) rfl a8) ?_
  refine FL.weak (L' := fun γ => [(0, zP b), (8, st s_0), (12, zI s_1_6')]) (fun γ => ⟨rfl, rfl, rfl, trivial⟩) (FL.nil (hT_8' (fun γ => [(0, zP b), (8, st s_0), (12, zI s_1_6')]) (fun γ => ?_)))
  obtain ⟨o_22', h⟩ := h
  refine wv (OV.index rfl rfl c9 o_22') ?_
  refine WL.nil ?_
  refine kg (hK_45' [(0, zP b), (13, zU ((s_0.getD s_1_6'.toNat 0).toNat : Int))] _ ?_)
  refine b7 ?_
  refine a7 (fun _ hK_46' => ?_)
  refine a6 ?_
  refine wv (OV.eql rfl rfl) ?_
  refine wA ?_
  refine WL.nil ?_
  refine kg (hK_46' [(0, zP b), (13, zU ((s_0.getD s_1_6'.toNat 0).toNat : Int)), (14, zB (decide (((s_0.getD s_1_6'.toNat 0).toNat : Int) = 35)))] _ ?_)
  refine b5 (b := decide (((s_0.getD s_1_6'.toNat 0).toNat : Int) = 35)) rfl (fun hb => ?_) (fun hb => ?_)
  ·replace h := e8 h hb
   refine b7 ?_
   obtain ⟨Inv_3', mu_3', h0_3', hr_3'⟩ := h
   refine o7 (S := Int) (fun σ => Inv_3' σ) (fun σ => mu_3' σ) (fun σ => [(0, zP b)]) (fun σ => [HA.blk b (.cells [st s_0, zI σ, s_2, zI s_3, zI s_4, st s_5].toArray 100 (0, 0))]) s_1_6' h0_3' ⟨rfl, trivial⟩ rfl ?_
   rintro s_1_8' hi K0_53' hK_53'
   have h := hr_3' s_1_8' hi
   show WC _ _ _ _ [(0, zP b)] [HA.blk b (.cells [st s_0, zI s_1_8', s_2, zI s_3, zI s_4, st s_5].toArray 100 (0, 0))]
   refine a7 (fun _ hK_54' => ?_)
   refine a7 (fun _ hK_55' => ?_)
   refine l8 [] f0 (by kernel_rfl) rfl (fun T_11' hT_11' => ?_)
   refine fv (fun _ => OV.move rfl) ?_
   refine FL.call aav (fun _ => rfl) (aab b s_0 s_1_8' s_2 s_3 s_4 s_5) ⟨.inl ⟨0, rfl⟩, trivial⟩ rfl (fun _ => rfl) rfl ?_
   refine fv (fun _ => OV.not rfl) ?_
   refine fv (fun _ => OV.move rfl) ?_
   obtain ⟨o_30', h⟩ := h
   refine FL.cut 11 rfl (fun _ => [(0, zP b), (30, zB ((!(decide (s_0.length ≤ s_1_8'))) && (!decide (((s_0.getD s_1_8'.toNat 0).toNat : Int) = 10))))]) ?_ (fun K0_56' hK_56' => ?_)
   rotate_left
   ·refine FL.split (!(decide (s_0.length ≤ s_1_8'))) (fun hb => ?_) (fun hb => ?_)
    ·have o_29' := o_30' hb
     refine FL.set 19 (fun _ => rfl) (congrArg zB hb) ?_
     refine fv (fun _ => OV.move rfl) ?_
     refine fv (fun _ => OV.nilCheck rfl) ?_
     refine fv (fun _ => OV.fieldAddr0 rfl j7) ?_
     refine fv (fun _ => OV.load rfl (At.own 0 rfl) rfl c7) ?_
     refine fv (fun _ => OV.move rfl) ?_
     refine fv (fun _ => OV.nilCheck rfl) ?_
     refine fv (fun _ => OV.fieldAddr0 rfl c6) ?_
     refine fv (fun _ => OV.load rfl (At.own 0 rfl) rfl a8) ?_
     refine fv (fun _ => OV.index rfl rfl c9 o_29') ?_
     refine fv (fun _ => OV.neq rfl rfl) ?_
     refine fv (fun _ => OV.pickT rfl rfl) ?_
     refine FL.set 30 (fun _ => rfl) (bT (v := !decide (((s_0.getD s_1_8'.toNat 0).toNat : Int) = 10)) hb) ?_
     exact FL.weak (L' := fun _ => [(0, zP b), (30, zB ((!(decide (s_0.length ≤ s_1_8'))) && (!decide (((s_0.getD s_1_8'.toNat 0).toNat : Int) = 10))))]) (fun _ => ⟨rfl, rfl, trivial⟩) (FL.nil hK_56')
    ·refine FL.set 19 (fun _ => rfl) (congrArg zB hb) ?_
     refine FL.skip rfl (fun _ => rfl) rfl rfl ?_
     refine FL.skip rfl (fun _ => rfl) rfl rfl ?_
     refine FL.skip rfl (fun _ => rfl) rfl rfl ?_
     refine FL.skip rfl (fun _ => rfl) rfl rfl ?_
     refine FL.skip rfl (fun _ => rfl) rfl rfl ?_
     refine FL.skip rfl (fun _ => rfl) rfl rfl ?_
     refine FL.skip rfl (fun _ => rfl) rfl rfl ?_
     refine FL.skip rfl (fun _ => rfl) rfl rfl ?_
     refine FL.skip rfl (fun _ => rfl) rfl rfl ?_
     refine FL.skip rfl (fun _ => rfl) rfl rfl ?_
     refine fv (fun _ => OV.pickF rfl rfl) ?_
     refine FL.set 30 (fun _ => rfl) (bF (v := !decide (((s_0.getD s_1_8'.toNat 0).toNat : Int) = 10)) hb) ?_
     exact FL.weak (L' := fun _ => [(0, zP b), (30, zB ((!(decide (s_0.length ≤ s_1_8'))) && (!decide (((s_0.getD s_1_8'.toNat 0).toNat : Int) = 10))))]) (fun _ => ⟨rfl, rfl, trivial⟩) (FL.nil hK_56')
   refine FL.weak (L' := fun _ => [(0, zP b), (30, zB ((!(decide (s_0.length ≤ s_1_8'))) && (!decide (((s_0.getD s_1_8'.toNat 0).toNat : Int) = 10))))]) (fun _ => ⟨rfl, rfl, trivial⟩) (FL.nil (hT_11' (fun _ => [(0, zP b), (30, zB ((!(decide (s_0.length ≤ s_1_8'))) && (!decide (((s_0.getD s_1_8'.toNat 0).toNat : Int) = 10))))]) (fun _ => ?_)))
   refine kg (hK_55' [(0, zP b), (30, zB ((!(decide (s_0.length ≤ s_1_8'))) && (!decide (((s_0.getD s_1_8'.toNat 0).toNat : Int) = 10))))] _ ?_)
   refine b5 (b := (!(decide (s_0.length ≤ s_1_8'))) && (!decide (((s_0.getD s_1_8'.toNat 0).toNat : Int) = 10))) rfl (fun hb => ?_) (fun hb => ?_)
   ·replace h := e8 h hb
    refine b6 ?_
    refine kg (hK_54' [(0, zP b)] _ ?_)
    refine b7 ?_
    refine a6 ?_
    refine wm ?_
    refine wv (OV.nilCheck rfl) ?_
    refine wv (OV.fieldAddr0 rfl c6) ?_
    refine wv (OV.load rfl (At.own 0 rfl) rfl a8) ?_
    obtain ⟨o_31', h⟩ := h
    refine wv (OV.add rfl rfl o_31') ?_
    refine wv (OV.nilCheck rfl) ?_
    refine wv (OV.fieldAddr0 rfl c6) ?_
    refine WL.store (vs := [zI (s_1_8' + 1)]) (cs' := [st s_0, zI (s_1_8' + 1), s_2, zI s_3, zI s_4, st s_5]) 0 rfl rfl rfl rfl f9 (Nat.le_of_ble_eq_true rfl) rfl rfl rfl ?_
    refine WL.nil ?_
    exact kh (hK_53' (s_1_8' + 1) h.1 h.2) [0]
   ·replace h := e9 h hb
    refine l4 ?_
    exact kh (hK_42' s_1_8' h.1 h.2) [0]
  ·replace h := e9 h hb
   obtain ⟨J0_2', hJ_2', h⟩ := h
   refine m5 (X := Bool) (fun σ => J0_2' σ) (fun σ => [(0, zP b), (38, zB σ)]) (fun σ => [HA.blk b (.cells [st s_0, zI s_1_6', s_2, zI s_3, zI s_4, st s_5].toArray 100 (0, 0))]) ?_ (fun K0_60' hK_60' => ?_)
   ·rintro t38_2' hj
    replace h := hJ_2' t38_2' hj
    show WC _ _ _ _ [(0, zP b), (38, zB t38_2')] [HA.blk b (.cells [st s_0, zI s_1_6', s_2, zI s_3, zI s_4, st s_5].toArray 100 (0, 0))]
    refine b5 (b := t38_2') rfl (fun hb => ?_) (fun hb => ?_)
    ·replace h := e8 h hb
     refine a6 ?_
     refine wm ?_
     refine wv (OV.nilCheck rfl) ?_
     refine wv (OV.fieldAddr0 rfl c6) ?_
     refine wv (OV.load rfl (At.own 0 rfl) rfl a8) ?_
     obtain ⟨o_32', h⟩ := h
     refine wv (OV.add rfl rfl o_32') ?_
     refine wv (OV.nilCheck rfl) ?_
     refine wv (OV.fieldAddr0 rfl c6) ?_
     refine WL.store (vs := [zI (s_1_6' + 1)]) (cs' := [st s_0, zI (s_1_6' + 1), s_2, zI s_3, zI s_4, st s_5]) 0 rfl rfl rfl rfl f9 (Nat.le_of_ble_eq_true rfl) rfl rfl rfl ?_
     refine WL.nil ?_
     exact kh (hK_42' (s_1_6' + 1) h.1 h.2) [0]
    ·replace h := e9 h hb
     refine b8 ?_
     exact hE.ret [0] rfl rfl (.inl ⟨_, _, _, _, _, _, h, rfl⟩) (d7.none rfl)
   ·skip
    refine a7 (fun _ hK_61' => ?_)
    refine a6 ?_
    refine wv (OV.eql rfl rfl) ?_
    refine wA ?_
    refine WL.nil ?_
    refine kg (hK_61' [(0, zP b), (13, zU ((s_0.getD s_1_6'.toNat 0).toNat : Int)), (38, zB (decide (((s_0.getD s_1_6'.toNat 0).toNat : Int) = 32)))] _ ?_)
    refine b5 (b := decide (((s_0.getD s_1_6'.toNat 0).toNat : Int) = 32)) rfl (fun hb => ?_) (fun hb => ?_)
    ·replace h := e8 h hb
     refine b6 ?_
     exact kh (hK_60' (decide (((s_0.getD s_1_6'.toNat 0).toNat : Int) = 32)) h) [0]
    ·replace h := e9 h hb
     refine a7 (fun _ hK_62' => ?_)
     refine a6 ?_
     refine wv (OV.eql rfl rfl) ?_
     refine wA ?_
     refine WL.nil ?_
     refine kg (hK_62' [(0, zP b), (13, zU ((s_0.getD s_1_6'.toNat 0).toNat : Int)), (38, zB (decide (((s_0.getD s_1_6'.toNat 0).toNat : Int) = 9)))] _ ?_)
     refine b5 (b := decide (((s_0.getD s_1_6'.toNat 0).toNat : Int) = 9)) rfl (fun hb => ?_) (fun hb => ?_)
     ·replace h := e8 h hb
      refine b6 ?_
      exact kh (hK_60' (decide (((s_0.getD s_1_6'.toNat 0).toNat : Int) = 9)) h) [0]
     ·replace h := e9 h hb
      refine a7 (fun _ hK_63' => ?_)
      refine a6 ?_
      refine wv (OV.eql rfl rfl) ?_
      refine wA ?_
      refine WL.nil ?_
      refine kg (hK_63' [(0, zP b), (13, zU ((s_0.getD s_1_6'.toNat 0).toNat : Int)), (38, zB (decide (((s_0.getD s_1_6'.toNat 0).toNat : Int) = 10)))] _ ?_)
      refine b5 (b := decide (((s_0.getD s_1_6'.toNat 0).toNat : Int) = 10)) rfl (fun hb => ?_) (fun hb => ?_)
      ·replace h := e8 h hb
       refine b6 ?_
       exact kh (hK_60' (decide (((s_0.getD s_1_6'.toNat 0).toNat : Int) = 10)) h) [0]
      ·replace h := e9 h hb
       refine a6 ?_
       refine wv (OV.eql rfl rfl) ?_
       refine wA ?_
       refine WL.nil ?_
       exact kh (hK_60' (decide (((s_0.getD s_1_6'.toNat 0).toNat : Int) = 13)) h) [0]
 ·replace h := e9 h hb
  refine l4 ?_
  exact hE.norm [0] rfl rfl (.inl ⟨_, _, _, _, _, _, h, rfl⟩) (d7.none rfl)
def ais (s : List UInt8) (i : Int) (K : Int → Prop) : Prop :=
 ∃ (Inv : Int → Bool → Prop) (mu : Int → Bool → Nat),
  Inv i false ∧ ∀ (i_2' : Int) (comment_5' : Bool), Inv i_2' comment_5' →
   (if (decide (i_2' < (s.length : Int))) = true then
    (0 ≤ i_2' ∧ i_2' < s.length) ∧
    ∃ (J0_4' : Bool → Prop),
     (∀ (comment_6' : Bool), J0_4' comment_6' →
      ∃ (J0_5' : Bool → Prop),
       (∀ (comment_7' : Bool), J0_5' comment_7' →
        (if (((((!comment_7') && (!decide (((s.getD i_2'.toNat 0).toNat : Int) = 32))) && (!decide (((s.getD i_2'.toNat 0).toNat : Int) = 9))) && (!decide (((s.getD i_2'.toNat 0).toNat : Int) = 10))) && (!decide (((s.getD i_2'.toNat 0).toNat : Int) = 13))) = true then
         K i_2'
        else
         (I64 (i_2' + 1)) ∧
         Inv (i_2' + 1) comment_7' ∧ mu (i_2' + 1) comment_7' < mu i_2' comment_5')) ∧
       (if (decide (((s.getD i_2'.toNat 0).toNat : Int) = 10)) = true then
        J0_5' false
       else
        J0_5' comment_6')) ∧
     (if (decide (((s.getD i_2'.toNat 0).toNat : Int) = 35)) = true then
      J0_4' true
     else
      J0_4' comment_5')
   else
    K i_2')
theorem ar8  (s : List UInt8) (i : Int) (K : Int → Prop) (h : ais s i K) :
  d9 Tryd.prog 44 [st s, zI i] [] [] (fun o => (∃ (v : Int), K v ∧ o = .ret (zI v) []) ∨ (False)) := by
 unfold ais at h
 refine c8 (n := 40) (L0 := [(0, st s), (1, zI i)]) Tryd.func44 rfl rfl rfl rfl (fun w0 M Q hE => ?_)
 refine a7 (fun _ hK => ?_)
 refine a6 ?_
 refine wA ?_
 refine WL.nil ?_
 refine kg (hK [(0, st s), (1, zI i)] _ ?_)
 refine a7 (fun _ hK_1' => ?_)
 refine a6 ?_
 refine wA ?_
 refine WL.nil ?_
 refine kg (hK_1' [(0, st s), (1, zI i), (5, zB false)] _ ?_)
 refine a7 (fun _ hK_2' => ?_)
 refine b7 ?_
 obtain ⟨Inv, mu, h0, hr⟩ := h
 refine o7 (S := Int × Bool) (fun σ => Inv σ.1 σ.2) (fun σ => mu σ.1 σ.2) (fun σ => [(0, st s), (1, zI σ.1), (5, zB σ.2)]) (fun σ => []) (i, false) h0 ⟨rfl, rfl, rfl, trivial⟩ rfl ?_
 rintro ⟨i_2', comment_5'⟩ hi K0_35' hK_35'
 have h := hr i_2' comment_5' hi
 show WC _ _ _ _ [(0, st s), (1, zI i_2'), (5, zB comment_5')] []
 refine a7 (fun _ hK_36' => ?_)
 refine a7 (fun _ hK_37' => ?_)
 refine a6 ?_
 refine wm ?_
 refine wm ?_
 refine wv (OV.len rfl c9) ?_
 refine wv (OV.lss rfl rfl) ?_
 refine WL.nil ?_
 refine kg (hK_37' [(0, st s), (1, zI i_2'), (5, zB comment_5'), (10, zB (decide (i_2' < (s.length : Int))))] _ ?_)
 refine b5 (b := decide (i_2' < (s.length : Int))) rfl (fun hb => ?_) (fun hb => ?_)
 ·replace h := e8 h hb
  refine b6 ?_
  refine kg (hK_36' [(0, st s), (1, zI i_2'), (5, zB comment_5')] _ ?_)
  refine b7 ?_
  refine a7 (fun _ hK_38' => ?_)
  refine a6 ?_
  refine wm ?_
  refine wm ?_
  obtain ⟨o_12', h⟩ := h
  refine wv (OV.index rfl rfl c9 o_12') ?_
  refine wA ?_
  refine WL.nil ?_
  refine kg (hK_38' [(0, st s), (1, zI i_2'), (5, zB comment_5'), (6, zU ((s.getD i_2'.toNat 0).toNat : Int))] _ ?_)
  obtain ⟨J0_4', hJ_4', h⟩ := h
  refine m5 (X := Bool) (fun σ => J0_4' σ) (fun σ => [(0, st s), (1, zI i_2'), (5, zB σ), (6, zU ((s.getD i_2'.toNat 0).toNat : Int))]) (fun σ => []) ?_ (fun K0_40' hK_40' => ?_)
  ·rintro comment_6' hj
   replace h := hJ_4' comment_6' hj
   show WC _ _ _ _ [(0, st s), (1, zI i_2'), (5, zB comment_6'), (6, zU ((s.getD i_2'.toNat 0).toNat : Int))] []
   obtain ⟨J0_5', hJ_5', h⟩ := h
   refine m5 (X := Bool) (fun σ => J0_5' σ) (fun σ => [(0, st s), (1, zI i_2'), (5, zB σ), (6, zU ((s.getD i_2'.toNat 0).toNat : Int))]) (fun σ => []) ?_ (fun K0_42' hK_42' => ?_)
   ·rintro comment_7' hj
    replace h := hJ_5' comment_7' hj
    show WC _ _ _ _ [(0, st s), (1, zI i_2'), (5, zB comment_7'), (6, zU ((s.getD i_2'.toNat 0).toNat : Int))] []
    refine a7 (fun _ hK_43' => ?_)
    refine a7 (fun _ hK_44' => ?_)
    refine a6 ?_
    refine wm ?_
    refine wv (OV.not rfl) ?_
    refine wm ?_
    refine WL.cut 3 [(0, st s), (1, zI i_2'), (5, zB comment_7'), (6, zU ((s.getD i_2'.toNat 0).toNat : Int)), (23, zB ((!comment_7') && (!decide (((s.getD i_2'.toNat 0).toNat : Int) = 32))))] ?_ (fun K0_45' hK_45' => ?_)
    rotate_left
    ·refine WL.split (!comment_7') (fun hb => ?_) (fun hb => ?_)
     ·refine WL.set 20 rfl (congrArg zB hb) ?_
      refine wm ?_
      refine wv (OV.neq rfl rfl) ?_
      refine wv (OV.pickT rfl rfl) ?_
      refine WL.set 23 rfl (bT (v := !decide (((s.getD i_2'.toNat 0).toNat : Int) = 32)) hb) ?_
      exact WL.end_ (kg hK_45')
     ·refine WL.set 20 rfl (congrArg zB hb) ?_
      refine wk ?_
      refine wk ?_
      refine wv (OV.pickF rfl rfl) ?_
      refine WL.set 23 rfl (bF (v := !decide (((s.getD i_2'.toNat 0).toNat : Int) = 32)) hb) ?_
      exact WL.end_ (kg hK_45')
    refine wm ?_
    refine WL.cut 3 [(0, st s), (1, zI i_2'), (5, zB comment_7'), (6, zU ((s.getD i_2'.toNat 0).toNat : Int)), (27, zB (((!comment_7') && (!decide (((s.getD i_2'.toNat 0).toNat : Int) = 32))) && (!decide (((s.getD i_2'.toNat 0).toNat : Int) = 9))))] ?_ (fun K0_46' hK_46' => ?_)
    rotate_left
    ·refine WL.split ((!comment_7') && (!decide (((s.getD i_2'.toNat 0).toNat : Int) = 32))) (fun hb => ?_) (fun hb => ?_)
     ·refine WL.set 24 rfl (congrArg zB hb) ?_
      refine wm ?_
      refine wv (OV.neq rfl rfl) ?_
      refine wv (OV.pickT rfl rfl) ?_
      refine WL.set 27 rfl (bT (v := !decide (((s.getD i_2'.toNat 0).toNat : Int) = 9)) hb) ?_
      exact WL.end_ (kg hK_46')
     ·refine WL.set 24 rfl (congrArg zB hb) ?_
      refine wk ?_
      refine wk ?_
      refine wv (OV.pickF rfl rfl) ?_
      refine WL.set 27 rfl (bF (v := !decide (((s.getD i_2'.toNat 0).toNat : Int) = 9)) hb) ?_
      exact WL.end_ (kg hK_46')
    refine wm ?_
    refine WL.cut 3 [(0, st s), (1, zI i_2'), (5, zB comment_7'), (6, zU ((s.getD i_2'.toNat 0).toNat : Int)), (31, zB ((((!comment_7') && (!decide (((s.getD i_2'.toNat 0).toNat : Int) = 32))) && (!decide (((s.getD i_2'.toNat 0).toNat : Int) = 9))) && (!decide (((s.getD i_2'.toNat 0).toNat : Int) = 10))))] ?_ (fun K0_47' hK_47' => ?_)
    rotate_left
    ·refine WL.split (((!comment_7') && (!decide (((s.getD i_2'.toNat 0).toNat : Int) = 32))) && (!decide (((s.getD i_2'.toNat 0).toNat : Int) = 9))) (fun hb => ?_) (fun hb => ?_)
     ·refine WL.set 28 rfl (congrArg zB hb) ?_
      refine wm ?_
      refine wv (OV.neq rfl rfl) ?_
      refine wv (OV.pickT rfl rfl) ?_
      refine WL.set 31 rfl (bT (v := !decide (((s.getD i_2'.toNat 0).toNat : Int) = 10)) hb) ?_
      exact WL.end_ (kg hK_47')
     ·refine WL.set 28 rfl (congrArg zB hb) ?_
      refine wk ?_
      refine wk ?_
      refine wv (OV.pickF rfl rfl) ?_
      refine WL.set 31 rfl (bF (v := !decide (((s.getD i_2'.toNat 0).toNat : Int) = 10)) hb) ?_
      exact WL.end_ (kg hK_47')
    refine wm ?_
    refine WL.cut 3 [(0, st s), (1, zI i_2'), (5, zB comment_7'), (35, zB (((((!comment_7') && (!decide (((s.getD i_2'.toNat 0).toNat : Int) = 32))) && (!decide (((s.getD i_2'.toNat 0).toNat : Int) = 9))) && (!decide (((s.getD i_2'.toNat 0).toNat : Int) = 10))) && (!decide (((s.getD i_2'.toNat 0).toNat : Int) = 13))))] ?_ (fun K0_48' hK_48' => ?_)
    rotate_left
    ·refine WL.split ((((!comment_7') && (!decide (((s.getD i_2'.toNat 0).toNat : Int) = 32))) && (!decide (((s.getD i_2'.toNat 0).toNat : Int) = 9))) && (!decide (((s.getD i_2'.toNat 0).toNat : Int) = 10))) (fun hb => ?_) (fun hb => ?_)
     ·refine WL.set 32 rfl (congrArg zB hb) ?_
      refine wm ?_
      refine wv (OV.neq rfl rfl) ?_
      refine wv (OV.pickT rfl rfl) ?_
      refine WL.set 35 rfl (bT (v := !decide (((s.getD i_2'.toNat 0).toNat : Int) = 13)) hb) ?_
      exact WL.end_ (kg hK_48')
     ·refine WL.set 32 rfl (congrArg zB hb) ?_
      refine wk ?_
      refine wk ?_
      refine wv (OV.pickF rfl rfl) ?_
      refine WL.set 35 rfl (bF (v := !decide (((s.getD i_2'.toNat 0).toNat : Int) = 13)) hb) ?_
      exact WL.end_ (kg hK_48')
    refine WL.nil ?_
    refine kg (hK_44' [(0, st s), (1, zI i_2'), (5, zB comment_7'), (35, zB (((((!comment_7') && (!decide (((s.getD i_2'.toNat 0).toNat : Int) = 32))) && (!decide (((s.getD i_2'.toNat 0).toNat : Int) = 9))) && (!decide (((s.getD i_2'.toNat 0).toNat : Int) = 10))) && (!decide (((s.getD i_2'.toNat 0).toNat : Int) = 13))))] _ ?_)
    refine b5 (b := ((((!comment_7') && (!decide (((s.getD i_2'.toNat 0).toNat : Int) = 32))) && (!decide (((s.getD i_2'.toNat 0).toNat : Int) = 9))) && (!decide (((s.getD i_2'.toNat 0).toNat : Int) = 10))) && (!decide (((s.getD i_2'.toNat 0).toNat : Int) = 13))) rfl (fun hb => ?_) (fun hb => ?_)
    ·replace h := e8 h hb
     refine a7 (fun _ hK_49' => ?_)
     refine a6 ?_
     refine wm ?_
     refine wA ?_
     refine WL.nil ?_
     refine kg (hK_49' [(4, zI i_2')] _ ?_)
     refine b8 ?_
     exact hE.ret [] rfl rfl (.inl ⟨_, h, rfl⟩) (d7.of1 rfl (RV.tmp rfl))
    ·replace h := e9 h hb
     refine b6 ?_
     refine kg (hK_43' [(0, st s), (1, zI i_2'), (5, zB comment_7')] _ ?_)
     refine a6 ?_
     refine wm ?_
     obtain ⟨o_17', h⟩ := h
     refine wv (OV.add rfl rfl o_17') ?_
     refine wA ?_
     refine WL.nil ?_
     exact kh (hK_35' (i_2' + 1, comment_7') h.1 h.2) []
   ·skip
    refine a7 (fun _ hK_50' => ?_)
    refine a6 ?_
    refine wm ?_
    refine wv (OV.eql rfl rfl) ?_
    refine WL.nil ?_
    refine kg (hK_50' [(0, st s), (1, zI i_2'), (5, zB comment_6'), (6, zU ((s.getD i_2'.toNat 0).toNat : Int)), (17, zB (decide (((s.getD i_2'.toNat 0).toNat : Int) = 10)))] _ ?_)
    refine b5 (b := decide (((s.getD i_2'.toNat 0).toNat : Int) = 10)) rfl (fun hb => ?_) (fun hb => ?_)
    ·replace h := e8 h hb
     refine a6 ?_
     refine wA ?_
     refine WL.nil ?_
     exact kh (hK_42' false h) []
    ·replace h := e9 h hb
     refine b6 ?_
     exact kh (hK_42' comment_6' h) []
  ·skip
   refine a7 (fun _ hK_51' => ?_)
   refine a6 ?_
   refine wm ?_
   refine wv (OV.eql rfl rfl) ?_
   refine WL.nil ?_
   refine kg (hK_51' [(0, st s), (1, zI i_2'), (5, zB comment_5'), (6, zU ((s.getD i_2'.toNat 0).toNat : Int)), (15, zB (decide (((s.getD i_2'.toNat 0).toNat : Int) = 35)))] _ ?_)
   refine b5 (b := decide (((s.getD i_2'.toNat 0).toNat : Int) = 35)) rfl (fun hb => ?_) (fun hb => ?_)
   ·replace h := e8 h hb
    refine a6 ?_
    refine wA ?_
    refine WL.nil ?_
    exact kh (hK_40' true h) []
   ·replace h := e9 h hb
    refine b6 ?_
    exact kh (hK_40' comment_5' h) []
 ·replace h := e9 h hb
  refine l4 ?_
  refine kg (hK_2' [(1, zI i_2')] _ ?_)
  refine a7 (fun _ hK_52' => ?_)
  refine a6 ?_
  refine wm ?_
  refine wA ?_
  refine WL.nil ?_
  refine kg (hK_52' [(4, zI i_2')] _ ?_)
  refine b8 ?_
  exact hE.ret [] rfl rfl (.inl ⟨_, h, rfl⟩) (d7.of1 rfl (RV.tmp rfl))
def aip (c : Int) (K : Int → Prop) : Prop :=
 (if (m8 c) = true then
  (I64 (IntKind.wrap .u8 (c - 48))) ∧
  K (IntKind.wrap .u8 (c - 48))
 else
  (if ((decide (97 ≤ c)) && (decide (c ≤ 102))) = true then
   (I64 (IntKind.wrap .u8 (c - 97))) ∧
   (I64 ((IntKind.wrap .u8 (c - 97)) + 10)) ∧
   K ((IntKind.wrap .u8 (c - 97)) + 10)
  else
   K (-1)))
theorem att  (c : Int) (K : Int → Prop) (h : aip c K) :
  d9 Tryd.prog 68 [zU c] [] [] (fun o => (∃ (v : Int), K v ∧ o = .ret (zI v) []) ∨ (False)) := by
 unfold aip at h
 refine c8 (n := 18) (L0 := [(0, zU c)]) Tryd.func68 rfl rfl rfl rfl (fun w0 M Q hE => ?_)
 refine a7 (fun _ hK => ?_)
 refine a6 ?_
 refine wA ?_
 refine WL.nil ?_
 refine kg (hK [(0, zU c)] _ ?_)
 refine a7 (fun _ hK_1' => ?_)
 refine a7 (fun _ hK_2' => ?_)
 refine a6 ?_
 refine wm ?_
 refine WL.call (A := []) amj rfl (ag9 c) rfl trivial rfl rfl ?_
 refine WL.nil ?_
 refine kg (hK_2' [(0, zU c), (4, zB (m8 c))] _ ?_)
 refine b5 (b := m8 c) rfl (fun hb => ?_) (fun hb => ?_)
 ·replace h := e8 h hb
  refine a7 (fun _ hK_3' => ?_)
  refine a6 ?_
  refine wm ?_
  refine wv (OV.subW rfl rfl) ?_
  obtain ⟨o, h⟩ := h
  refine wv (OV.conv64 rfl am0 Tryd.underlying3 o) ?_
  refine wA ?_
  refine WL.nil ?_
  refine kg (hK_3' [(2, zI (IntKind.wrap .u8 (c - 48)))] _ ?_)
  refine b8 ?_
  exact hE.ret [] rfl rfl (.inl ⟨_, h, rfl⟩) (d7.of1 rfl (RV.tmp rfl))
 ·replace h := e9 h hb
  refine b6 ?_
  refine kg (hK_1' [(0, zU c)] _ ?_)
  refine a7 (fun _ hK_4' => ?_)
  refine a7 (fun _ hK_5' => ?_)
  refine a6 ?_
  refine wm ?_
  refine wv (OV.geq rfl rfl) ?_
  refine wm ?_
  refine WL.cut 3 [(0, zU c), (13, zB ((decide (97 ≤ c)) && (decide (c ≤ 102))))] ?_ (fun K0_6' hK_6' => ?_)
  rotate_left
  ·refine WL.split (decide (97 ≤ c)) (fun hb => ?_) (fun hb => ?_)
   ·refine WL.set 10 rfl (congrArg zB hb) ?_
    refine wm ?_
    refine wv (OV.leq rfl rfl) ?_
    refine wv (OV.pickT rfl rfl) ?_
    refine WL.set 13 rfl (bT (v := decide (c ≤ 102)) hb) ?_
    exact WL.end_ (kg hK_6')
   ·refine WL.set 10 rfl (congrArg zB hb) ?_
    refine wk ?_
    refine wk ?_
    refine wv (OV.pickF rfl rfl) ?_
    refine WL.set 13 rfl (bF (v := decide (c ≤ 102)) hb) ?_
    exact WL.end_ (kg hK_6')
  refine WL.nil ?_
  refine kg (hK_5' [(0, zU c), (13, zB ((decide (97 ≤ c)) && (decide (c ≤ 102))))] _ ?_)
  refine b5 (b := (decide (97 ≤ c)) && (decide (c ≤ 102))) rfl (fun hb => ?_) (fun hb => ?_)
  ·replace h := e8 h hb
   refine a7 (fun _ hK_7' => ?_)
   refine a6 ?_
   refine wm ?_
   refine wv (OV.subW rfl rfl) ?_
   obtain ⟨o_2', h⟩ := h
   refine wv (OV.conv64 rfl am0 Tryd.underlying3 o_2') ?_
   obtain ⟨o_3', h⟩ := h
   refine wv (OV.add rfl rfl o_3') ?_
   refine wA ?_
   refine WL.nil ?_
   refine kg (hK_7' [(2, zI ((IntKind.wrap .u8 (c - 97)) + 10))] _ ?_)
   refine b8 ?_
   exact hE.ret [] rfl rfl (.inl ⟨_, h, rfl⟩) (d7.of1 rfl (RV.tmp rfl))
  ·replace h := e9 h hb
   refine b6 ?_
   refine KX.go (hK_4' [] _ ?_) trivial
   refine a7 (fun _ hK_8' => ?_)
   refine a6 ?_
   refine wA ?_
   refine WL.nil ?_
   refine kg (hK_8' [(2, zI (-1))] _ ?_)
   refine b8 ?_
   exact hE.ret [] rfl rfl (.inl ⟨_, h, rfl⟩) (d7.of1 rfl (RV.tmp rfl))
def ahl (c : Int) (K : Bool → Prop) : Prop :=
 ∃ (Inv : Int → Prop) (mu : Int → Nat),
  Inv 0 ∧ ∀ (i_1' : Int), Inv i_1' →
   (if (decide (i_1' < (([61, 59, 40, 41, 123, 125, 44, 124, 38, 45, 46, 126, 42, 43, 63] : List UInt8).length : Int))) = true then
    (0 ≤ i_1' ∧ i_1' < ([61, 59, 40, 41, 123, 125, 44, 124, 38, 45, 46, 126, 42, 43, 63] : List UInt8).length) ∧
    (if (decide (((([61, 59, 40, 41, 123, 125, 44, 124, 38, 45, 46, 126, 42, 43, 63] : List UInt8).getD i_1'.toNat 0).toNat : Int) = c)) = true then
     K true
    else
     (I64 (i_1' + 1)) ∧
     Inv (i_1' + 1) ∧ mu (i_1' + 1) < mu i_1')
   else
    K false)
theorem aqb  (c : Int) (K : Bool → Prop) (h : ahl c K) :
  d9 Tryd.prog 49 [zU c] [] [] (fun o => (∃ (v : Bool), K v ∧ o = .ret (zB v) []) ∨ (False)) := by
 unfold ahl at h
 refine c8 (n := 16) (L0 := [(0, zU c)]) Tryd.func49 rfl rfl rfl rfl (fun w0 M Q hE => ?_)
 refine a7 (fun _ hK => ?_)
 refine a6 ?_
 refine wA ?_
 refine WL.nil ?_
 refine kg (hK [(0, zU c)] _ ?_)
 refine a7 (fun _ hK_1' => ?_)
 refine a6 ?_
 refine wA ?_
 refine WL.nil ?_
 refine kg (hK_1' [(0, zU c), (3, st ([61, 59, 40, 41, 123, 125, 44, 124, 38, 45, 46, 126, 42, 43, 63] : List UInt8))] _ ?_)
 refine a7 (fun _ hK_2' => ?_)
 refine a7 (fun _ hK_3' => ?_)
 refine a6 ?_
 refine wA ?_
 refine WL.nil ?_
 refine kg (hK_3' [(0, zU c), (3, st ([61, 59, 40, 41, 123, 125, 44, 124, 38, 45, 46, 126, 42, 43, 63] : List UInt8)), (4, zI 0)] _ ?_)
 refine b7 ?_
 obtain ⟨Inv, mu, h0, hr⟩ := h
 refine o7 (S := Int) (fun σ => Inv σ) (fun σ => mu σ) (fun σ => [(0, zU c), (3, st ([61, 59, 40, 41, 123, 125, 44, 124, 38, 45, 46, 126, 42, 43, 63] : List UInt8)), (4, zI σ)]) (fun σ => []) 0 h0 ⟨rfl, rfl, rfl, trivial⟩ rfl ?_
 rintro i_1' hi K0_14' hK_14'
 have h := hr i_1' hi
 show WC _ _ _ _ [(0, zU c), (3, st ([61, 59, 40, 41, 123, 125, 44, 124, 38, 45, 46, 126, 42, 43, 63] : List UInt8)), (4, zI i_1')] []
 refine a7 (fun _ hK_15' => ?_)
 refine a7 (fun _ hK_16' => ?_)
 refine a6 ?_
 refine wm ?_
 refine wm ?_
 refine wv (OV.len rfl c9) ?_
 refine wv (OV.lss rfl rfl) ?_
 refine WL.nil ?_
 refine kg (hK_16' [(0, zU c), (3, st ([61, 59, 40, 41, 123, 125, 44, 124, 38, 45, 46, 126, 42, 43, 63] : List UInt8)), (4, zI i_1'), (8, zB (decide (i_1' < (([61, 59, 40, 41, 123, 125, 44, 124, 38, 45, 46, 126, 42, 43, 63] : List UInt8).length : Int))))] _ ?_)
 refine b5 (b := decide (i_1' < (([61, 59, 40, 41, 123, 125, 44, 124, 38, 45, 46, 126, 42, 43, 63] : List UInt8).length : Int))) rfl (fun hb => ?_) (fun hb => ?_)
 ·replace h := e8 h hb
  refine b6 ?_
  refine kg (hK_15' [(0, zU c), (3, st ([61, 59, 40, 41, 123, 125, 44, 124, 38, 45, 46, 126, 42, 43, 63] : List UInt8)), (4, zI i_1')] _ ?_)
  refine a7 (fun _ hK_17' => ?_)
  refine b7 ?_
  refine a7 (fun _ hK_18' => ?_)
  refine a6 ?_
  refine wm ?_
  refine wm ?_
  obtain ⟨o_3', h⟩ := h
  refine wv (OV.index rfl rfl c9 o_3') ?_
  refine wm ?_
  refine wv (OV.eql rfl rfl) ?_
  refine WL.nil ?_
  refine kg (hK_18' [(0, zU c), (3, st ([61, 59, 40, 41, 123, 125, 44, 124, 38, 45, 46, 126, 42, 43, 63] : List UInt8)), (4, zI i_1'), (15, zB (decide (((([61, 59, 40, 41, 123, 125, 44, 124, 38, 45, 46, 126, 42, 43, 63] : List UInt8).getD i_1'.toNat 0).toNat : Int) = c)))] _ ?_)
  refine b5 (b := decide (((([61, 59, 40, 41, 123, 125, 44, 124, 38, 45, 46, 126, 42, 43, 63] : List UInt8).getD i_1'.toNat 0).toNat : Int) = c)) rfl (fun hb => ?_) (fun hb => ?_)
  ·replace h := e8 h hb
   refine a7 (fun _ hK_19' => ?_)
   refine a6 ?_
   refine wA ?_
   refine WL.nil ?_
   refine kg (hK_19' [(2, zB true)] _ ?_)
   refine b8 ?_
   exact hE.ret [] rfl rfl (.inl ⟨_, h, rfl⟩) (d7.of1 rfl (RV.tmp rfl))
  ·replace h := e9 h hb
   refine b6 ?_
   refine kg (hK_17' [(0, zU c), (3, st ([61, 59, 40, 41, 123, 125, 44, 124, 38, 45, 46, 126, 42, 43, 63] : List UInt8)), (4, zI i_1')] _ ?_)
   refine a6 ?_
   refine wm ?_
   obtain ⟨o_4', h⟩ := h
   refine wv (OV.add rfl rfl o_4') ?_
   refine wA ?_
   refine WL.nil ?_
   exact kh (hK_14' (i_1' + 1) h.1 h.2) []
 ·replace h := e9 h hb
  refine l4 ?_
  refine KX.go (hK_2' [] _ ?_) trivial
  refine a7 (fun _ hK_20' => ?_)
  refine a6 ?_
  refine wA ?_
  refine WL.nil ?_
  refine kg (hK_20' [(2, zB false)] _ ?_)
  refine b8 ?_
  exact hE.ret [] rfl rfl (.inl ⟨_, h, rfl⟩) (d7.of1 rfl (RV.tmp rfl))
theorem apo (x n : UInt8) : (x == n) = decide ((x.toNat : Int) = (n.toNat : Int)) := by
 rw [Bool.eq_iff_iff, beq_iff_eq, decide_eq_true_eq]
 constructor
 ·rintro rfl; rfl
 ·intro h; exact UInt8.toNat_inj.1 (by omega)
theorem ah6 {t : List UInt8} {p : Int} (h : 0 ≤ p ∧ p < t.length) : ∃ x : UInt8, t.drop p.toNat = x :: t.drop (p + 1).toNat ∧ bt t p = (x.toNat : Int) := by
 have hlt : p.toNat < t.length := by omega
 refine ⟨t[p.toNat], ?_, ?_⟩
 ·rw [List.drop_eq_getElem_cons hlt, show (p + 1).toNat = p.toNat + 1 by omega]
 ·unfold bt; rw [List.getD_eq_getElem?_getD, List.getElem?_eq_getElem hlt]; rfl
theorem ah3 {t : List UInt8} {p : Int} (cm : Bool) (h : 0 ≤ p ∧ p < t.length) :
  ail cm (t.drop p.toNat) = if (((cm || decide (bt t p = 35)) && !decide (bt t p = 10)) || decide (bt t p = 32) || decide (bt t p = 9) || decide (bt t p = 10) || decide (bt t p = 13)) = true then 1 + ail ((cm || decide (bt t p = 35)) && !decide (bt t p = 10)) (t.drop (p + 1).toNat) else 0 := by
 obtain ⟨x, hx, hb⟩ := ah6 h
 rw [hx, ail, hb]
 simp only [bne, apo]
 rfl
theorem aa4 {t : List UInt8} {a : Int} (h : 0 ≤ a ∧ a ≤ t.length) : a ≤ aaj t a ∧ aaj t a ≤ t.length := by
 have := arq false (t.drop a.toNat)
 rw [List.length_drop] at this
 unfold aaj; omega
theorem ajv {t : List UInt8} {p : Int} (cm : Bool) (h : (t.length : Int) ≤ p) : ail cm (t.drop p.toNat) = 0 := by
 rw [List.drop_eq_nil_of_le (by omega)]; cases cm <;> rfl
theorem amm (b : Nat) (t : List UInt8) (a : Int) (w : Value) (fc fa : Int) (ft : List UInt8) (h : 0 ≤ a ∧ a ≤ t.length ∧ t.length ≤ 4096) :
  d9 Tryd.prog 34 [.pointer (some ⟨b, 0, none⟩)] [] [.blk b (scB t a w fc fa ft)] (Ret (.tuple #[]) [.blk b (scB t (aaj t a) w fc fa ft)]) := by
 refine (axa b t a w fc fa ft (fun t' a' w' c' p' x => t' = t ∧ a' = aaj t a ∧ w' = w ∧ c' = fc ∧ p' = fa ∧ x = ft) ?_).weak ?_
 ·unfold ang
  refine ⟨fun p => 0 ≤ p ∧ p ≤ t.length ∧ aaj t p = aaj t a, fun p => (t.length - p).toNat, ⟨h.1, h.2.1, rfl⟩, ?_⟩
  rintro p ⟨h0, h1, hg⟩
  by_cases hp : p < t.length
  ·rw [if_pos (by simp; omega)]
   have hb : 0 ≤ p ∧ p < t.length := ⟨h0, hp⟩
   have hs := ah3 false hb
   simp only [Bool.false_or] at hs
   have hI : I64 (p + 1) := ⟨by omega, by omega⟩
   refine ⟨hb, ?_⟩
   show (if decide (bt t p = 35) = true then _ else _)
   by_cases c35 : bt t p = 35
   ·rw [if_pos (by simpa using c35)]
    have ht : p + ail true (t.drop p.toNat) = aaj t a := by
     rw [← hg]; unfold aaj
     have h2 := ah3 true hb
     rw [c35] at hs h2
     rw [hs, h2]; rfl
    refine ⟨fun q => p ≤ q ∧ q ≤ t.length ∧ q + ail true (t.drop q.toNat) = aaj t a, fun q => (t.length - q).toNat, ⟨Int.le_refl _, h1, ht⟩, ?_⟩
    rintro q ⟨q0, q1, hq⟩
    by_cases hql : q < t.length
    ·have hqb : 0 ≤ q ∧ q < t.length := ⟨by omega, hql⟩
     refine ⟨fun _ => hqb, ?_⟩
     show (if (!decide ((t.length : Int) ≤ q) && !decide (bt t q = 10)) = true then _ else _)
     have h2 := ah3 true hqb
     by_cases c10 : bt t q = 10
     ·rw [if_neg (by simp [c10])]
      have h3 := ah3 false hqb
      have hne : p ≠ q := fun e => by rw [← e, c35] at c10; omega
      rw [c10] at h2 h3
      refine ⟨⟨by omega, q1, ?_⟩, by show (t.length - q).toNat < (t.length - p).toNat; omega⟩
      rw [← hq, h2]; unfold aaj; rw [h3]; rfl
     ·rw [if_pos (by simp [c10]; omega)]
      refine ⟨⟨by omega, by omega⟩, ⟨by omega, by omega, ?_⟩, by show (t.length - (q + 1)).toNat < (t.length - q).toNat; omega⟩
      rw [← hq, h2]
      simp [c10]; omega
    ·refine ⟨fun hh => absurd hh (by simp; omega), ?_⟩
     rw [if_neg (by simp; omega)]
     refine ⟨⟨by omega, q1, ?_⟩, by show (t.length - q).toNat < (t.length - p).toNat; omega⟩
     rw [← hq]; unfold aaj
     rw [ajv _ (by omega), ajv _ (by omega)]
   ·rw [if_neg (by simpa using c35)]
    have hkey : ail false (t.drop p.toNat) = if decide (bt t p = 32 ∨ bt t p = 9 ∨ bt t p = 10 ∨ bt t p = 13) = true then 1 + ail false (t.drop (p + 1).toNat) else 0 := by
     rw [hs]
     simp only [c35, decide_false, Bool.false_and, Bool.false_or]
     congr 1
     simp [or_assoc]
    refine ⟨fun r => r = decide (bt t p = 32 ∨ bt t p = 9 ∨ bt t p = 10 ∨ bt t p = 13), fun r hr => ?_, ?_⟩
    ·rw [← hr] at hkey
     by_cases hr2 : r = true
     ·rw [if_pos hr2]
      rw [if_pos hr2] at hkey
      refine ⟨hI, ⟨by omega, by omega, ?_⟩, by show (t.length - (p + 1)).toNat < (t.length - p).toNat; omega⟩
      rw [← hg]; unfold aaj; rw [hkey]; omega
     ·rw [if_neg hr2]
      rw [if_neg hr2] at hkey
      refine ⟨rfl, ?_, rfl, rfl, rfl, rfl⟩
      rw [← hg]; unfold aaj; rw [hkey]; omega
    ·show (if decide (bt t p = 32) = true then decide (bt t p = 32) = _ else if decide (bt t p = 9) = true then decide (bt t p = 9) = _ else if decide (bt t p = 10) = true then decide (bt t p = 10) = _ else decide (bt t p = 13) = _)
     generalize bt t p = c
     by_cases e1 : c = 32
     ·simp [e1]
     ·by_cases e2 : c = 9
      ·simp [e2]
      ·by_cases e3 : c = 10
       ·simp [e3]
       ·simp [e1, e2, e3]
  ·rw [if_neg (by simp; omega)]
   refine ⟨rfl, ?_, rfl, rfl, rfl, rfl⟩
   rw [← hg]; unfold aaj; rw [ajv _ (by omega)]; omega
 ·rintro o (⟨_, _, _, _, _, _, ⟨rfl, rfl, rfl, rfl, rfl, rfl⟩, rfl⟩ | h)
  ·rfl
  ·exact h.elim
theorem ao6 (t : List UInt8) (a : Int) (h : 0 ≤ a ∧ a ≤ t.length ∧ t.length ≤ 4096) : d9 Tryd.prog 44 [st t, .int .i64 a] [] [] (Ret (.int .i64 (aaj t a)) []) := by
 refine (ar8 t a (fun r => r = aaj t a) ?_).weak ?_
 ·unfold ais
  refine ⟨fun p cm => 0 ≤ p ∧ p ≤ t.length ∧ p + ail cm (t.drop p.toNat) = aaj t a, fun p _ => (t.length - p).toNat, ⟨h.1, h.2.1, rfl⟩, ?_⟩
  rintro p cm ⟨h0, h1, hg⟩
  by_cases hp : p < t.length
  ·rw [if_pos (by simpa using hp)]
   have hb : 0 ≤ p ∧ p < t.length := ⟨h0, hp⟩
   have hs := ah3 cm hb
   refine ⟨hb, fun c1 => c1 = (cm || decide (bt t p = 35)), fun c1 hc1 => ⟨fun c2 => c2 = (c1 && !decide (bt t p = 10)), fun c2 hc2 => ?_, ?_⟩, ?_⟩
   ·show (if (!c2 && !decide (bt t p = 32) && !decide (bt t p = 9) && !decide (bt t p = 10) && !decide (bt t p = 13)) = true then _ else _)
    rw [← hc1, ← hc2] at hs
    by_cases hstop : (!c2 && !decide (bt t p = 32) && !decide (bt t p = 9) && !decide (bt t p = 10) && !decide (bt t p = 13)) = true
    ·rw [if_pos hstop]
     rw [if_neg (by
      clear hs hc1 hc2
      revert hstop
      generalize decide (bt t p = 32) = x1
      generalize decide (bt t p = 9) = x2
      generalize decide (bt t p = 10) = x3
      generalize decide (bt t p = 13) = x4
      revert c2 x1 x2 x3 x4; decide)] at hs
     rw [← hg, hs]; omega
    ·rw [if_neg hstop]
     rw [if_pos (by
      clear hs hc1 hc2
      revert hstop
      generalize decide (bt t p = 32) = x1
      generalize decide (bt t p = 9) = x2
      generalize decide (bt t p = 10) = x3
      generalize decide (bt t p = 13) = x4
      revert c2 x1 x2 x3 x4; decide)] at hs
     exact ⟨⟨by omega, by omega⟩, ⟨by omega, by omega, by rw [← hg, hs]; omega⟩, by show (t.length - (p + 1)).toNat < (t.length - p).toNat; omega⟩
   ·show (if decide (bt t p = 10) = true then false = _ else c1 = _)
    by_cases c10 : bt t p = 10 <;> simp [c10]
   ·show (if decide (bt t p = 35) = true then true = _ else cm = _)
    by_cases c35 : bt t p = 35 <;> simp [c35]
  ·rw [if_neg (by simpa using hp)]
   rw [ajv _ (by omega)] at hg
   omega
 ·rintro o (⟨v, rfl, rfl⟩ | h) <;> first | rfl | exact h.elim
theorem afs (c : Int) (h : 0 ≤ c ∧ c < 256) : d9 Tryd.prog 68 [.int .u8 c] [] [] (Ret (.int .i64 (k6 c)) []) := by
 refine (att c (fun r => r = k6 c) ?_).weak (by rintro o (⟨v, rfl, rfl⟩ | h) <;> first | rfl | exact h.elim)
 unfold aip k6 m8
 by_cases h1 : 48 ≤ c ∧ c ≤ 57
 ·rw [if_pos (by simpa using h1), if_pos h1, IntWalk.u8_in _ (by omega)]; exact ⟨⟨by omega, by omega⟩, rfl⟩
 ·rw [if_neg (by simpa using h1), if_neg h1]
  by_cases h2 : 97 ≤ c ∧ c ≤ 102
  ·rw [if_pos (by simpa using h2), if_pos h2, IntWalk.u8_in _ (by omega)]; exact ⟨⟨by omega, by omega⟩, ⟨by omega, by omega⟩, by omega⟩
  ·rw [if_neg (by simpa using h2), if_neg h2]
theorem at2 (c : Int) (h : 0 ≤ c ∧ c < 256) : d9 Tryd.prog 49 [.int .u8 c] [] [] (Ret (.bool (aah.contains c.toNat.toUInt8)) []) := by
 refine (aqb c (fun r => r = aah.contains c.toNat.toUInt8) ?_).weak (by rintro o (⟨v, rfl, rfl⟩ | h) <;> first | rfl | exact h.elim)
 unfold ahl
 have hx : ((c.toNat.toUInt8.toNat : Nat) : Int) = c := aus h
 refine ⟨fun i => 0 ≤ i ∧ i ≤ 15 ∧ ∀ j, j < i.toNat → aah.getD j 0 ≠ c.toNat.toUInt8, fun i => (15 - i).toNat, ⟨by omega, by omega, fun j hj => by simp at hj⟩, ?_⟩
 rintro i ⟨h0, h1, hi⟩
 have hlen : (aah.length : Int) = 15 := rfl
 show (if decide (i < (aah.length : Int)) = true then (0 ≤ i ∧ i < (aah.length : Int)) ∧ (if decide (((aah.getD i.toNat 0).toNat : Int) = c) = true then true = _ else _) else false = _)
 rw [hlen]
 by_cases hl : i < 15
 ·rw [if_pos (by simpa using hl)]
  refine ⟨⟨h0, hl⟩, ?_⟩
  by_cases he : ((aah.getD i.toNat 0).toNat : Int) = c
  ·rw [if_pos (by simpa using he)]
   have e2 : aah.getD i.toNat 0 = c.toNat.toUInt8 := UInt8.toNat_inj.1 (by omega)
   rw [← e2]
   refine (List.contains_iff_mem.2 ?_).symm
   have : i.toNat < aah.length := by omega
   rw [List.getD_eq_getElem?_getD, List.getElem?_eq_getElem this]
   exact List.getElem_mem this
  ·rw [if_neg (by simpa using he)]
   refine ⟨⟨by omega, by omega⟩, ⟨by omega, by omega, fun j hj => ?_⟩, by show (15 - (i + 1)).toNat < (15 - i).toNat; omega⟩
   by_cases e : j = i.toNat
   ·subst e; intro e2; rw [e2] at he; exact he hx
   ·exact hi j (by omega)
 ·rw [if_neg (by simpa using hl)]
  symm
  rw [Bool.eq_false_iff]
  intro hc
  have hm := List.contains_iff_mem.1 hc
  obtain ⟨j, hj, hje⟩ := List.getElem_of_mem hm
  have hj' : j < 15 := hj
  refine hi j (by omega) ?_
  rw [List.getD_eq_getElem?_getD, List.getElem?_eq_getElem hj]; exact hje
end Go.Proofs.YtifajndacnfcbaaDoor
set_option maxRecDepth 100000
namespace Go.Proofs.YtifajndacnfcbaaDoor
open Go Go.RowKit
theorem aiv : k9 Tryd.prog 63 = true := by kernel_rfl
theorem amf : (Tryd.prog.underlying 3).isSome = true := by kernel_rfl
def ai4 (s_0 : List UInt8) (s_1 : Int) (s_2 : Value) (s_3 : Int) (s_4 : Int) (s_5 : List UInt8) (K : Int → Bool → (List UInt8) → Int → Value → Int → Int → (List UInt8) → Prop) : Prop :=
 (I64 (s_1 + 1)) ∧
 (if (decide (s_0.length ≤ s_1 + 1)) = true then
  K 0 false s_0 (s_1 + 1) s_2 s_3 s_4 s_5
 else
  (0 ≤ (s_1 + 1) ∧ (s_1 + 1) < s_0.length) ∧
  (if (decide (((s_0.getD (s_1 + 1).toNat 0).toNat : Int) = 110)) = true then
   K 10 true s_0 (s_1 + 1) s_2 s_3 s_4 s_5
  else
   (if (decide (((s_0.getD (s_1 + 1).toNat 0).toNat : Int) = 114)) = true then
    K 13 true s_0 (s_1 + 1) s_2 s_3 s_4 s_5
   else
    (if (decide (((s_0.getD (s_1 + 1).toNat 0).toNat : Int) = 116)) = true then
     K 9 true s_0 (s_1 + 1) s_2 s_3 s_4 s_5
    else
     ∃ (J0 : Bool → Prop),
      (∀ (t32 : Bool), J0 t32 →
       (if t32 = true then
        K ((s_0.getD (s_1 + 1).toNat 0).toNat : Int) true s_0 (s_1 + 1) s_2 s_3 s_4 s_5
       else
        (if (decide (((s_0.getD (s_1 + 1).toNat 0).toNat : Int) = 120)) = true then
         (I64 ((s_1 + 1) + 1)) ∧
         (if (decide (s_0.length ≤ (s_1 + 1) + 1)) = true then
          K 0 false s_0 ((s_1 + 1) + 1) s_2 s_3 s_4 s_5
         else
          (0 ≤ ((s_1 + 1) + 1) ∧ ((s_1 + 1) + 1) < s_0.length) ∧
          (if (decide (Lib.indexByte ([48, 49, 50, 51, 52, 53, 54, 55, 56, 57, 97, 98, 99, 100, 101, 102] : List UInt8) (((s_0.getD ((s_1 + 1) + 1).toNat 0).toNat : Int)).toNat.toUInt8 < 0)) = true then
           K 0 false s_0 ((s_1 + 1) + 1) s_2 s_3 s_4 s_5
          else
           (I64 (0 + (Lib.indexByte ([48, 49, 50, 51, 52, 53, 54, 55, 56, 57, 97, 98, 99, 100, 101, 102] : List UInt8) (((s_0.getD ((s_1 + 1) + 1).toNat 0).toNat : Int)).toNat.toUInt8))) ∧
           (I64 (((s_1 + 1) + 1) + 1)) ∧
           (if (decide (s_0.length ≤ ((s_1 + 1) + 1) + 1)) = true then
            K 0 false s_0 (((s_1 + 1) + 1) + 1) s_2 s_3 s_4 s_5
           else
            (0 ≤ (((s_1 + 1) + 1) + 1) ∧ (((s_1 + 1) + 1) + 1) < s_0.length) ∧
            (if (decide (Lib.indexByte ([48, 49, 50, 51, 52, 53, 54, 55, 56, 57, 97, 98, 99, 100, 101, 102] : List UInt8) (((s_0.getD (((s_1 + 1) + 1) + 1).toNat 0).toNat : Int)).toNat.toUInt8 < 0)) = true then
             K 0 false s_0 (((s_1 + 1) + 1) + 1) s_2 s_3 s_4 s_5
            else
             (I64 (16 * (0 + (Lib.indexByte ([48, 49, 50, 51, 52, 53, 54, 55, 56, 57, 97, 98, 99, 100, 101, 102] : List UInt8) (((s_0.getD ((s_1 + 1) + 1).toNat 0).toNat : Int)).toNat.toUInt8)))) ∧
             (I64 ((16 * (0 + (Lib.indexByte ([48, 49, 50, 51, 52, 53, 54, 55, 56, 57, 97, 98, 99, 100, 101, 102] : List UInt8) (((s_0.getD ((s_1 + 1) + 1).toNat 0).toNat : Int)).toNat.toUInt8))) + (Lib.indexByte ([48, 49, 50, 51, 52, 53, 54, 55, 56, 57, 97, 98, 99, 100, 101, 102] : List UInt8) (((s_0.getD (((s_1 + 1) + 1) + 1).toNat 0).toNat : Int)).toNat.toUInt8))) ∧
             K (IntKind.wrap .u8 ((16 * (0 + (Lib.indexByte ([48, 49, 50, 51, 52, 53, 54, 55, 56, 57, 97, 98, 99, 100, 101, 102] : List UInt8) (((s_0.getD ((s_1 + 1) + 1).toNat 0).toNat : Int)).toNat.toUInt8))) + (Lib.indexByte ([48, 49, 50, 51, 52, 53, 54, 55, 56, 57, 97, 98, 99, 100, 101, 102] : List UInt8) (((s_0.getD (((s_1 + 1) + 1) + 1).toNat 0).toNat : Int)).toNat.toUInt8))) true s_0 (((s_1 + 1) + 1) + 1) s_2 s_3 s_4 s_5))))
        else
         K 0 false s_0 (s_1 + 1) s_2 s_3 s_4 s_5))) ∧
      (if (decide (((s_0.getD (s_1 + 1).toNat 0).toNat : Int) = 34)) = true then
       J0 (decide (((s_0.getD (s_1 + 1).toNat 0).toNat : Int) = 34))
      else
       J0 (decide (((s_0.getD (s_1 + 1).toNat 0).toNat : Int) = 92)))))))
theorem atb (b : Nat) (s_0 : List UInt8) (s_1 : Int) (s_2 : Value) (s_3 : Int) (s_4 : Int) (s_5 : List UInt8) (K : Int → Bool → (List UInt8) → Int → Value → Int → Int → (List UInt8) → Prop) (h : ai4 s_0 s_1 s_2 s_3 s_4 s_5 K) :
  d9 Tryd.prog 73 [zP b] [] [HA.blk b (.cells [st s_0, zI s_1, s_2, zI s_3, zI s_4, st s_5].toArray 100 (0, 0))] (fun o => (∃ (v : Int) (v_1' : Bool) (d_0 : List UInt8) (d_1 : Int) (d_2 : Value) (d_3 : Int) (d_4 : Int) (d_5 : List UInt8), K v v_1' d_0 d_1 d_2 d_3 d_4 d_5 ∧ o = .ret (Value.tuple #[zU v, zB v_1']) [HA.blk b (.cells [st d_0, zI d_1, d_2, zI d_3, zI d_4, st d_5].toArray 100 (0, 0))]) ∨ (False)) := by
 unfold ai4 at h
 refine c8 (n := 68) (L0 := [(0, zP b)]) Tryd.func73 rfl rfl rfl rfl (fun w0 M Q hE => ?_)
 refine a7 (fun _ hK => ?_)
 refine a6 ?_
 refine wA ?_
 refine wA ?_
 refine WL.nil ?_
 refine kg (hK [(0, zP b)] _ ?_)
 refine a7 (fun _ hK_1' => ?_)
 refine a6 ?_
 refine wm ?_
 refine wv (OV.nilCheck rfl) ?_
 refine wv (OV.fieldAddr0 rfl c6) ?_
 refine wv (OV.load rfl (At.own 0 rfl) rfl a8) ?_
 obtain ⟨o, h⟩ := h
 refine wv (OV.add rfl rfl o) ?_
 refine wv (OV.nilCheck rfl) ?_
 refine wv (OV.fieldAddr0 rfl c6) ?_
 refine WL.store (vs := [zI (s_1 + 1)]) (cs' := [st s_0, zI (s_1 + 1), s_2, zI s_3, zI s_4, st s_5]) 0 rfl rfl rfl rfl f9 (Nat.le_of_ble_eq_true rfl) rfl rfl rfl ?_
 refine WL.nil ?_
 refine kg (hK_1' [(0, zP b)] _ ?_)
 refine a7 (fun _ hK_2' => ?_)
 refine a7 (fun _ hK_3' => ?_)
 refine a6 ?_
 refine wm ?_
 refine WL.call (A := []) aav rfl (aab b s_0 (s_1 + 1) s_2 s_3 s_4 s_5) rfl ⟨.inl ⟨0, rfl⟩, trivial⟩ rfl rfl ?_
 refine WL.nil ?_
 refine kg (hK_3' [(0, zP b), (15, zB (decide (s_0.length ≤ s_1 + 1)))] _ ?_)
 refine b5 (b := decide (s_0.length ≤ s_1 + 1)) rfl (fun hb => ?_) (fun hb => ?_)
 ·replace h := e8 h hb
  refine a7 (fun _ hK_4' => ?_)
  refine a6 ?_
  refine wA ?_
  refine wA ?_
  refine WL.nil ?_
  refine kg (hK_4' [(2, zU 0), (3, zB false)] _ ?_)
  refine b8 ?_
  exact hE.ret [0] rfl rfl (.inl ⟨_, _, _, _, _, _, _, _, h, rfl⟩) (d7.of2 rfl (RV.tmp rfl) (RV.tmp rfl))
 ·replace h := e9 h hb
  refine b6 ?_
  refine kg (hK_2' [(0, zP b)] _ ?_)
  refine a7 (fun _ hK_5' => ?_)
  refine a7 (fun _ hK_6' => ?_)
  refine m0 8 [] f0 (by kernel_rfl) rfl (fun T hT => ?_)
  refine fv (fun _ => OV.move rfl) ?_
  refine fv (fun _ => OV.nilCheck rfl) ?_
  refine fv (fun _ => OV.fieldAddr0 rfl j7) ?_
  refine fv (fun _ => OV.load rfl (At.own 0 rfl) rfl c7) ?_
  refine fv (fun _ => OV.move rfl) ?_
  refine fv (fun _ => OV.nilCheck rfl) ?_
  refine fv (fun _ => OV.fieldAddr0 rfl c6) ?_
  refine fv (fun _ => OV.load rfl (At.own 0 rfl) rfl a8) ?_
  refine FL.weak (L' := fun γ => [(0, zP b), (19, st s_0), (23, zI (s_1 + 1))]) (fun γ => ⟨rfl, rfl, rfl, trivial⟩) (FL.nil (hT (fun γ => [(0, zP b), (19, st s_0), (23, zI (s_1 + 1))]) (fun γ => ?_)))
  obtain ⟨o_1', h⟩ := h
  refine wv (OV.index rfl rfl c9 o_1') ?_
  refine wA ?_
  refine WL.nil ?_
  refine kg (hK_6' [(0, zP b), (4, zU ((s_0.getD (s_1 + 1).toNat 0).toNat : Int))] _ ?_)
  refine a7 (fun _ hK_7' => ?_)
  refine a6 ?_
  refine wm ?_
  refine WL.nil ?_
  refine kg (hK_7' [(0, zP b), (4, zU ((s_0.getD (s_1 + 1).toNat 0).toNat : Int)), (25, zU ((s_0.getD (s_1 + 1).toNat 0).toNat : Int))] _ ?_)
  refine b7 ?_
  refine a7 (fun _ hK_8' => ?_)
  refine a6 ?_
  refine wv (OV.eql rfl rfl) ?_
  refine wA ?_
  refine WL.nil ?_
  refine kg (hK_8' [(0, zP b), (4, zU ((s_0.getD (s_1 + 1).toNat 0).toNat : Int)), (25, zU ((s_0.getD (s_1 + 1).toNat 0).toNat : Int)), (26, zB (decide (((s_0.getD (s_1 + 1).toNat 0).toNat : Int) = 110)))] _ ?_)
  refine b5 (b := decide (((s_0.getD (s_1 + 1).toNat 0).toNat : Int) = 110)) rfl (fun hb => ?_) (fun hb => ?_)
  ·replace h := e8 h hb
   refine a7 (fun _ hK_9' => ?_)
   refine a6 ?_
   refine wA ?_
   refine wA ?_
   refine WL.nil ?_
   refine kg (hK_9' [(2, zU 10), (3, zB true)] _ ?_)
   refine b8 ?_
   exact hE.ret [0] rfl rfl (.inl ⟨_, _, _, _, _, _, _, _, h, rfl⟩) (d7.of2 rfl (RV.tmp rfl) (RV.tmp rfl))
  ·replace h := e9 h hb
   refine a7 (fun _ hK_10' => ?_)
   refine a6 ?_
   refine wv (OV.eql rfl rfl) ?_
   refine wA ?_
   refine WL.nil ?_
   refine kg (hK_10' [(0, zP b), (4, zU ((s_0.getD (s_1 + 1).toNat 0).toNat : Int)), (25, zU ((s_0.getD (s_1 + 1).toNat 0).toNat : Int)), (28, zB (decide (((s_0.getD (s_1 + 1).toNat 0).toNat : Int) = 114)))] _ ?_)
   refine b5 (b := decide (((s_0.getD (s_1 + 1).toNat 0).toNat : Int) = 114)) rfl (fun hb => ?_) (fun hb => ?_)
   ·replace h := e8 h hb
    refine a7 (fun _ hK_11' => ?_)
    refine a6 ?_
    refine wA ?_
    refine wA ?_
    refine WL.nil ?_
    refine kg (hK_11' [(2, zU 13), (3, zB true)] _ ?_)
    refine b8 ?_
    exact hE.ret [0] rfl rfl (.inl ⟨_, _, _, _, _, _, _, _, h, rfl⟩) (d7.of2 rfl (RV.tmp rfl) (RV.tmp rfl))
   ·replace h := e9 h hb
    refine a7 (fun _ hK_12' => ?_)
    refine a6 ?_
    refine wv (OV.eql rfl rfl) ?_
    refine wA ?_
    refine WL.nil ?_
    refine kg (hK_12' [(0, zP b), (4, zU ((s_0.getD (s_1 + 1).toNat 0).toNat : Int)), (25, zU ((s_0.getD (s_1 + 1).toNat 0).toNat : Int)), (30, zB (decide (((s_0.getD (s_1 + 1).toNat 0).toNat : Int) = 116)))] _ ?_)
    refine b5 (b := decide (((s_0.getD (s_1 + 1).toNat 0).toNat : Int) = 116)) rfl (fun hb => ?_) (fun hb => ?_)
    ·replace h := e8 h hb
     refine a7 (fun _ hK_13' => ?_)
     refine a6 ?_
     refine wA ?_
     refine wA ?_
     refine WL.nil ?_
     refine kg (hK_13' [(2, zU 9), (3, zB true)] _ ?_)
     refine b8 ?_
     exact hE.ret [0] rfl rfl (.inl ⟨_, _, _, _, _, _, _, _, h, rfl⟩) (d7.of2 rfl (RV.tmp rfl) (RV.tmp rfl))
    ·replace h := e9 h hb
     obtain ⟨J0, hJ, h⟩ := h
     refine m5 (X := Bool) (fun σ => J0 σ) (fun σ => [(0, zP b), (4, zU ((s_0.getD (s_1 + 1).toNat 0).toNat : Int)), (25, zU ((s_0.getD (s_1 + 1).toNat 0).toNat : Int)), (32, zB σ)]) (fun σ => [HA.blk b (.cells [st s_0, zI (s_1 + 1), s_2, zI s_3, zI s_4, st s_5].toArray 100 (0, 0))]) ?_ (fun K0_15' hK_15' => ?_)
     ·rintro t32 hj
      replace h := hJ t32 hj
      show WC _ _ _ _ [(0, zP b), (4, zU ((s_0.getD (s_1 + 1).toNat 0).toNat : Int)), (25, zU ((s_0.getD (s_1 + 1).toNat 0).toNat : Int)), (32, zB t32)] [HA.blk b (.cells [st s_0, zI (s_1 + 1), s_2, zI s_3, zI s_4, st s_5].toArray 100 (0, 0))]
      refine b5 (b := t32) rfl (fun hb => ?_) (fun hb => ?_)
      ·replace h := e8 h hb
       refine a7 (fun _ hK_16' => ?_)
       refine a6 ?_
       refine wm ?_
       refine wA ?_
       refine wA ?_
       refine WL.nil ?_
       refine kg (hK_16' [(2, zU ((s_0.getD (s_1 + 1).toNat 0).toNat : Int)), (3, zB true)] _ ?_)
       refine b8 ?_
       exact hE.ret [0] rfl rfl (.inl ⟨_, _, _, _, _, _, _, _, h, rfl⟩) (d7.of2 rfl (RV.tmp rfl) (RV.tmp rfl))
      ·replace h := e9 h hb
       refine a7 (fun _ hK_17' => ?_)
       refine a6 ?_
       refine wv (OV.eql rfl rfl) ?_
       refine wA ?_
       refine WL.nil ?_
       refine kg (hK_17' [(0, zP b), (36, zB (decide (((s_0.getD (s_1 + 1).toNat 0).toNat : Int) = 120)))] _ ?_)
       refine b5 (b := decide (((s_0.getD (s_1 + 1).toNat 0).toNat : Int) = 120)) rfl (fun hb => ?_) (fun hb => ?_)
       ·replace h := e8 h hb
        refine a7 (fun _ hK_18' => ?_)
        refine a6 ?_
        refine wA ?_
        refine WL.nil ?_
        refine kg (hK_18' [(0, zP b), (5, zI 0)] _ ?_)
        refine a7 (fun _ hK_19' => ?_)
        refine a7 (fun _ hK_20' => ?_)
        refine a6 ?_
        refine wm ?_
        refine WL.nil ?_
        refine kg (hK_20' [(0, zP b), (5, zI 0), (38, zI 0)] _ ?_)
        refine b7 ?_
        refine aew 3 ?_
        refine RC.succ (fun K0_21' hK_21' => ?_)
        refine a7 (fun _ hK_22' => ?_)
        refine a6 ?_
        refine wv (OV.lss rfl rfl) ?_
        refine WL.nil ?_
        refine kg (hK_22' [(0, zP b), (5, zI 0), (38, zI 0), (39, zB true)] _ ?_)
        refine a7 (fun _ hK_23' => ?_)
        refine f7 rfl ?_
        refine b6 ?_
        refine kg (hK_23' [(0, zP b), (5, zI 0), (38, zI 0)] _ ?_)
        refine a7 (fun _ hK_24' => ?_)
        refine b7 ?_
        refine a7 (fun _ hK_25' => ?_)
        refine a6 ?_
        refine wm ?_
        refine wv (OV.nilCheck rfl) ?_
        refine wv (OV.fieldAddr0 rfl c6) ?_
        refine wv (OV.load rfl (At.own 0 rfl) rfl a8) ?_
        obtain ⟨o_2', h⟩ := h
        refine wv (OV.add rfl rfl o_2') ?_
        refine wv (OV.nilCheck rfl) ?_
        refine wv (OV.fieldAddr0 rfl c6) ?_
        refine WL.store (vs := [zI ((s_1 + 1) + 1)]) (cs' := [st s_0, zI ((s_1 + 1) + 1), s_2, zI s_3, zI s_4, st s_5]) 0 rfl rfl rfl rfl f9 (Nat.le_of_ble_eq_true rfl) rfl rfl rfl ?_
        refine WL.nil ?_
        refine kg (hK_25' [(0, zP b), (5, zI 0), (38, zI 0)] _ ?_)
        refine a7 (fun _ hK_26' => ?_)
        refine a7 (fun _ hK_27' => ?_)
        refine a6 ?_
        refine wm ?_
        refine WL.call (A := []) aav rfl (aab b s_0 ((s_1 + 1) + 1) s_2 s_3 s_4 s_5) rfl ⟨.inl ⟨0, rfl⟩, trivial⟩ rfl rfl ?_
        refine WL.nil ?_
        refine kg (hK_27' [(0, zP b), (5, zI 0), (38, zI 0), (48, zB (decide (s_0.length ≤ (s_1 + 1) + 1)))] _ ?_)
        refine b5 (b := decide (s_0.length ≤ (s_1 + 1) + 1)) rfl (fun hb => ?_) (fun hb => ?_)
        ·replace h := e8 h hb
         refine a7 (fun _ hK_28' => ?_)
         refine a6 ?_
         refine wA ?_
         refine wA ?_
         refine WL.nil ?_
         refine kg (hK_28' [(2, zU 0), (3, zB false)] _ ?_)
         refine b8 ?_
         exact hE.ret [0] rfl rfl (.inl ⟨_, _, _, _, _, _, _, _, h, rfl⟩) (d7.of2 rfl (RV.tmp rfl) (RV.tmp rfl))
        ·replace h := e9 h hb
         refine b6 ?_
         refine kg (hK_26' [(0, zP b), (5, zI 0), (38, zI 0)] _ ?_)
         refine a7 (fun _ hK_29' => ?_)
         refine m0 8 [] f0 (by kernel_rfl) rfl (fun T_1' hT_1' => ?_)
         refine fv (fun _ => OV.move rfl) ?_
         refine fv (fun _ => OV.nilCheck rfl) ?_
         refine fv (fun _ => OV.fieldAddr0 rfl j7) ?_
         refine fv (fun _ => OV.load rfl (At.own 0 rfl) rfl c7) ?_
         refine fv (fun _ => OV.move rfl) ?_
         refine fv (fun _ => OV.nilCheck rfl) ?_
         refine fv (fun _ => OV.fieldAddr0 rfl c6) ?_
         refine fv (fun _ => OV.load rfl (At.own 0 rfl) rfl a8) ?_
         refine FL.weak (L' := fun γ => [(0, zP b), (5, zI 0), (38, zI 0), (52, st s_0), (56, zI ((s_1 + 1) + 1))]) (fun γ => ⟨rfl, rfl, rfl, rfl, rfl, trivial⟩) (FL.nil (hT_1' (fun γ => [(0, zP b), (5, zI 0), (38, zI 0), (52, st s_0), (56, zI ((s_1 + 1) + 1))]) (fun γ => ?_)))
         obtain ⟨o_3', h⟩ := h
         refine wv (OV.index rfl rfl c9 o_3') ?_
         refine WL.call (A := []) aiv rfl (adg ([48, 49, 50, 51, 52, 53, 54, 55, 56, 57, 97, 98, 99, 100, 101, 102] : List UInt8) ((s_0.getD ((s_1 + 1) + 1).toNat 0).toNat : Int)) rfl trivial rfl rfl ?_
         refine wA ?_
         refine WL.nil ?_
         refine kg (hK_29' [(0, zP b), (5, zI 0), (6, zI (Lib.indexByte ([48, 49, 50, 51, 52, 53, 54, 55, 56, 57, 97, 98, 99, 100, 101, 102] : List UInt8) (((s_0.getD ((s_1 + 1) + 1).toNat 0).toNat : Int)).toNat.toUInt8)), (38, zI 0)] _ ?_)
         refine a7 (fun _ hK_30' => ?_)
         refine a7 (fun _ hK_31' => ?_)
         refine a6 ?_
         refine wm ?_
         refine wv (OV.lss rfl rfl) ?_
         refine WL.nil ?_
         refine kg (hK_31' [(0, zP b), (5, zI 0), (6, zI (Lib.indexByte ([48, 49, 50, 51, 52, 53, 54, 55, 56, 57, 97, 98, 99, 100, 101, 102] : List UInt8) (((s_0.getD ((s_1 + 1) + 1).toNat 0).toNat : Int)).toNat.toUInt8)), (38, zI 0), (60, zB (decide (Lib.indexByte ([48, 49, 50, 51, 52, 53, 54, 55, 56, 57, 97, 98, 99, 100, 101, 102] : List UInt8) (((s_0.getD ((s_1 + 1) + 1).toNat 0).toNat : Int)).toNat.toUInt8 < 0)))] _ ?_)
         refine b5 (b := decide (Lib.indexByte ([48, 49, 50, 51, 52, 53, 54, 55, 56, 57, 97, 98, 99, 100, 101, 102] : List UInt8) (((s_0.getD ((s_1 + 1) + 1).toNat 0).toNat : Int)).toNat.toUInt8 < 0)) rfl (fun hb => ?_) (fun hb => ?_)
         ·replace h := e8 h hb
          refine a7 (fun _ hK_32' => ?_)
          refine a6 ?_
          refine wA ?_
          refine wA ?_
          refine WL.nil ?_
          refine kg (hK_32' [(2, zU 0), (3, zB false)] _ ?_)
          refine b8 ?_
          exact hE.ret [0] rfl rfl (.inl ⟨_, _, _, _, _, _, _, _, h, rfl⟩) (d7.of2 rfl (RV.tmp rfl) (RV.tmp rfl))
         ·replace h := e9 h hb
          refine b6 ?_
          refine kg (hK_30' [(0, zP b), (5, zI 0), (6, zI (Lib.indexByte ([48, 49, 50, 51, 52, 53, 54, 55, 56, 57, 97, 98, 99, 100, 101, 102] : List UInt8) (((s_0.getD ((s_1 + 1) + 1).toNat 0).toNat : Int)).toNat.toUInt8)), (38, zI 0)] _ ?_)
          refine a6 ?_
          refine wm ?_
          refine wv (OV.mul rfl rfl ⟨by decide, by decide⟩) ?_
          refine wm ?_
          obtain ⟨o_4', h⟩ := h
          refine wv (OV.add rfl rfl o_4') ?_
          refine wA ?_
          refine WL.nil ?_
          refine kg (hK_24' [(0, zP b), (5, zI (0 + (Lib.indexByte ([48, 49, 50, 51, 52, 53, 54, 55, 56, 57, 97, 98, 99, 100, 101, 102] : List UInt8) (((s_0.getD ((s_1 + 1) + 1).toNat 0).toNat : Int)).toNat.toUInt8))), (38, zI 0)] _ ?_)
          refine a6 ?_
          refine wv (OV.add rfl rfl ⟨by decide, by decide⟩) ?_
          refine wm ?_
          refine WL.nil ?_
          refine kg (hK_21' [(0, zP b), (5, zI (0 + (Lib.indexByte ([48, 49, 50, 51, 52, 53, 54, 55, 56, 57, 97, 98, 99, 100, 101, 102] : List UInt8) (((s_0.getD ((s_1 + 1) + 1).toNat 0).toNat : Int)).toNat.toUInt8))), (38, zI 1)] _ ?_)
          refine RC.succ (fun K0_33' hK_33' => ?_)
          refine a7 (fun _ hK_34' => ?_)
          refine a6 ?_
          refine wv (OV.lss rfl rfl) ?_
          refine WL.nil ?_
          refine kg (hK_34' [(0, zP b), (5, zI (0 + (Lib.indexByte ([48, 49, 50, 51, 52, 53, 54, 55, 56, 57, 97, 98, 99, 100, 101, 102] : List UInt8) (((s_0.getD ((s_1 + 1) + 1).toNat 0).toNat : Int)).toNat.toUInt8))), (38, zI 1), (39, zB true)] _ ?_)
          refine a7 (fun _ hK_35' => ?_)
          refine f7 rfl ?_
          refine b6 ?_
          refine kg (hK_35' [(0, zP b), (5, zI (0 + (Lib.indexByte ([48, 49, 50, 51, 52, 53, 54, 55, 56, 57, 97, 98, 99, 100, 101, 102] : List UInt8) (((s_0.getD ((s_1 + 1) + 1).toNat 0).toNat : Int)).toNat.toUInt8))), (38, zI 1)] _ ?_)
          refine a7 (fun _ hK_36' => ?_)
          refine b7 ?_
          refine a7 (fun _ hK_37' => ?_)
          refine a6 ?_
          refine wm ?_
          refine wv (OV.nilCheck rfl) ?_
          refine wv (OV.fieldAddr0 rfl c6) ?_
          refine wv (OV.load rfl (At.own 0 rfl) rfl a8) ?_
          obtain ⟨o_5', h⟩ := h
          refine wv (OV.add rfl rfl o_5') ?_
          refine wv (OV.nilCheck rfl) ?_
          refine wv (OV.fieldAddr0 rfl c6) ?_
          refine WL.store (vs := [zI (((s_1 + 1) + 1) + 1)]) (cs' := [st s_0, zI (((s_1 + 1) + 1) + 1), s_2, zI s_3, zI s_4, st s_5]) 0 rfl rfl rfl rfl f9 (Nat.le_of_ble_eq_true rfl) rfl rfl rfl ?_
          refine WL.nil ?_
          refine kg (hK_37' [(0, zP b), (5, zI (0 + (Lib.indexByte ([48, 49, 50, 51, 52, 53, 54, 55, 56, 57, 97, 98, 99, 100, 101, 102] : List UInt8) (((s_0.getD ((s_1 + 1) + 1).toNat 0).toNat : Int)).toNat.toUInt8))), (38, zI 1)] _ ?_)
          refine a7 (fun _ hK_38' => ?_)
          refine a7 (fun _ hK_39' => ?_)
          refine a6 ?_
          refine wm ?_
          refine WL.call (A := []) aav rfl (aab b s_0 (((s_1 + 1) + 1) + 1) s_2 s_3 s_4 s_5) rfl ⟨.inl ⟨0, rfl⟩, trivial⟩ rfl rfl ?_
          refine WL.nil ?_
          refine kg (hK_39' [(0, zP b), (5, zI (0 + (Lib.indexByte ([48, 49, 50, 51, 52, 53, 54, 55, 56, 57, 97, 98, 99, 100, 101, 102] : List UInt8) (((s_0.getD ((s_1 + 1) + 1).toNat 0).toNat : Int)).toNat.toUInt8))), (38, zI 1), (48, zB (decide (s_0.length ≤ ((s_1 + 1) + 1) + 1)))] _ ?_)
          refine b5 (b := decide (s_0.length ≤ ((s_1 + 1) + 1) + 1)) rfl (fun hb => ?_) (fun hb => ?_)
          ·replace h := e8 h hb
           refine a7 (fun _ hK_40' => ?_)
           refine a6 ?_
           refine wA ?_
           refine wA ?_
           refine WL.nil ?_
           refine kg (hK_40' [(2, zU 0), (3, zB false)] _ ?_)
           refine b8 ?_
           exact hE.ret [0] rfl rfl (.inl ⟨_, _, _, _, _, _, _, _, h, rfl⟩) (d7.of2 rfl (RV.tmp rfl) (RV.tmp rfl))
          ·replace h := e9 h hb
           refine b6 ?_
           refine kg (hK_38' [(0, zP b), (5, zI (0 + (Lib.indexByte ([48, 49, 50, 51, 52, 53, 54, 55, 56, 57, 97, 98, 99, 100, 101, 102] : List UInt8) (((s_0.getD ((s_1 + 1) + 1).toNat 0).toNat : Int)).toNat.toUInt8))), (38, zI 1)] _ ?_)
           refine a7 (fun _ hK_41' => ?_)
           refine m0 8 [] f0 (by kernel_rfl) rfl (fun T_2' hT_2' => ?_)
           refine fv (fun _ => OV.move rfl) ?_
           refine fv (fun _ => OV.nilCheck rfl) ?_
           refine fv (fun _ => OV.fieldAddr0 rfl j7) ?_
           refine fv (fun _ => OV.load rfl (At.own 0 rfl) rfl c7) ?_
           refine fv (fun _ => OV.move rfl) ?_
           refine fv (fun _ => OV.nilCheck rfl) ?_
           refine fv (fun _ => OV.fieldAddr0 rfl c6) ?_
           refine fv (fun _ => OV.load rfl (At.own 0 rfl) rfl a8) ?_
           refine FL.weak (L' := fun γ => [(0, zP b), (5, zI (0 + (Lib.indexByte ([48, 49, 50, 51, 52, 53, 54, 55, 56, 57, 97, 98, 99, 100, 101, 102] : List UInt8) (((s_0.getD ((s_1 + 1) + 1).toNat 0).toNat : Int)).toNat.toUInt8))), (38, zI 1), (52, st s_0), (56, zI (((s_1 + 1) + 1) + 1))]) (fun γ => ⟨rfl, rfl, rfl, rfl, rfl, trivial⟩) (FL.nil (hT_2' (fun γ => [(0, zP b), (5, zI (0 + (Lib.indexByte ([48, 49, 50, 51, 52, 53, 54, 55, 56, 57, 97, 98, 99, 100, 101, 102] : List UInt8) (((s_0.getD ((s_1 + 1) + 1).toNat 0).toNat : Int)).toNat.toUInt8))), (38, zI 1), (52, st s_0), (56, zI (((s_1 + 1) + 1) + 1))]) (fun γ => ?_)))
           obtain ⟨o_6', h⟩ := h
           refine wv (OV.index rfl rfl c9 o_6') ?_
           refine WL.call (A := []) aiv rfl (adg ([48, 49, 50, 51, 52, 53, 54, 55, 56, 57, 97, 98, 99, 100, 101, 102] : List UInt8) ((s_0.getD (((s_1 + 1) + 1) + 1).toNat 0).toNat : Int)) rfl trivial rfl rfl ?_
           refine wA ?_
           refine WL.nil ?_
           refine kg (hK_41' [(0, zP b), (5, zI (0 + (Lib.indexByte ([48, 49, 50, 51, 52, 53, 54, 55, 56, 57, 97, 98, 99, 100, 101, 102] : List UInt8) (((s_0.getD ((s_1 + 1) + 1).toNat 0).toNat : Int)).toNat.toUInt8))), (6, zI (Lib.indexByte ([48, 49, 50, 51, 52, 53, 54, 55, 56, 57, 97, 98, 99, 100, 101, 102] : List UInt8) (((s_0.getD (((s_1 + 1) + 1) + 1).toNat 0).toNat : Int)).toNat.toUInt8)), (38, zI 1)] _ ?_)
           refine a7 (fun _ hK_42' => ?_)
           refine a7 (fun _ hK_43' => ?_)
           refine a6 ?_
           refine wm ?_
           refine wv (OV.lss rfl rfl) ?_
           refine WL.nil ?_
           refine kg (hK_43' [(0, zP b), (5, zI (0 + (Lib.indexByte ([48, 49, 50, 51, 52, 53, 54, 55, 56, 57, 97, 98, 99, 100, 101, 102] : List UInt8) (((s_0.getD ((s_1 + 1) + 1).toNat 0).toNat : Int)).toNat.toUInt8))), (6, zI (Lib.indexByte ([48, 49, 50, 51, 52, 53, 54, 55, 56, 57, 97, 98, 99, 100, 101, 102] : List UInt8) (((s_0.getD (((s_1 + 1) + 1) + 1).toNat 0).toNat : Int)).toNat.toUInt8)), (38, zI 1), (60, zB (decide (Lib.indexByte ([48, 49, 50, 51, 52, 53, 54, 55, 56, 57, 97, 98, 99, 100, 101, 102] : List UInt8) (((s_0.getD (((s_1 + 1) + 1) + 1).toNat 0).toNat : Int)).toNat.toUInt8 < 0)))] _ ?_)
           refine b5 (b := decide (Lib.indexByte ([48, 49, 50, 51, 52, 53, 54, 55, 56, 57, 97, 98, 99, 100, 101, 102] : List UInt8) (((s_0.getD (((s_1 + 1) + 1) + 1).toNat 0).toNat : Int)).toNat.toUInt8 < 0)) rfl (fun hb => ?_) (fun hb => ?_)
           ·replace h := e8 h hb
            refine a7 (fun _ hK_44' => ?_)
            refine a6 ?_
            refine wA ?_
            refine wA ?_
            refine WL.nil ?_
            refine kg (hK_44' [(2, zU 0), (3, zB false)] _ ?_)
            refine b8 ?_
            exact hE.ret [0] rfl rfl (.inl ⟨_, _, _, _, _, _, _, _, h, rfl⟩) (d7.of2 rfl (RV.tmp rfl) (RV.tmp rfl))
           ·replace h := e9 h hb
            refine b6 ?_
            refine kg (hK_42' [(0, zP b), (5, zI (0 + (Lib.indexByte ([48, 49, 50, 51, 52, 53, 54, 55, 56, 57, 97, 98, 99, 100, 101, 102] : List UInt8) (((s_0.getD ((s_1 + 1) + 1).toNat 0).toNat : Int)).toNat.toUInt8))), (6, zI (Lib.indexByte ([48, 49, 50, 51, 52, 53, 54, 55, 56, 57, 97, 98, 99, 100, 101, 102] : List UInt8) (((s_0.getD (((s_1 + 1) + 1) + 1).toNat 0).toNat : Int)).toNat.toUInt8)), (38, zI 1)] _ ?_)
            refine a6 ?_
            refine wm ?_
            obtain ⟨o_7', h⟩ := h
            refine wv (OV.mul rfl rfl o_7') ?_
            refine wm ?_
            obtain ⟨o_8', h⟩ := h
            refine wv (OV.add rfl rfl o_8') ?_
            refine wA ?_
            refine WL.nil ?_
            refine kg (hK_36' [(0, zP b), (5, zI ((16 * (0 + (Lib.indexByte ([48, 49, 50, 51, 52, 53, 54, 55, 56, 57, 97, 98, 99, 100, 101, 102] : List UInt8) (((s_0.getD ((s_1 + 1) + 1).toNat 0).toNat : Int)).toNat.toUInt8))) + (Lib.indexByte ([48, 49, 50, 51, 52, 53, 54, 55, 56, 57, 97, 98, 99, 100, 101, 102] : List UInt8) (((s_0.getD (((s_1 + 1) + 1) + 1).toNat 0).toNat : Int)).toNat.toUInt8))), (38, zI 1)] _ ?_)
            refine a6 ?_
            refine wv (OV.add rfl rfl ⟨by decide, by decide⟩) ?_
            refine wm ?_
            refine WL.nil ?_
            refine kg (hK_33' [(0, zP b), (5, zI ((16 * (0 + (Lib.indexByte ([48, 49, 50, 51, 52, 53, 54, 55, 56, 57, 97, 98, 99, 100, 101, 102] : List UInt8) (((s_0.getD ((s_1 + 1) + 1).toNat 0).toNat : Int)).toNat.toUInt8))) + (Lib.indexByte ([48, 49, 50, 51, 52, 53, 54, 55, 56, 57, 97, 98, 99, 100, 101, 102] : List UInt8) (((s_0.getD (((s_1 + 1) + 1) + 1).toNat 0).toNat : Int)).toNat.toUInt8))), (38, zI 2)] _ ?_)
            refine RC.succ (fun K0_45' hK_45' => ?_)
            refine a7 (fun _ hK_46' => ?_)
            refine a6 ?_
            refine wv (OV.lss rfl rfl) ?_
            refine WL.nil ?_
            refine kg (hK_46' [(0, zP b), (5, zI ((16 * (0 + (Lib.indexByte ([48, 49, 50, 51, 52, 53, 54, 55, 56, 57, 97, 98, 99, 100, 101, 102] : List UInt8) (((s_0.getD ((s_1 + 1) + 1).toNat 0).toNat : Int)).toNat.toUInt8))) + (Lib.indexByte ([48, 49, 50, 51, 52, 53, 54, 55, 56, 57, 97, 98, 99, 100, 101, 102] : List UInt8) (((s_0.getD (((s_1 + 1) + 1) + 1).toNat 0).toNat : Int)).toNat.toUInt8))), (38, zI 2), (39, zB false)] _ ?_)
            refine a7 (fun _ hK_47' => ?_)
            refine d5 rfl ?_
            refine l4 ?_
            refine kg (hK_19' [(5, zI ((16 * (0 + (Lib.indexByte ([48, 49, 50, 51, 52, 53, 54, 55, 56, 57, 97, 98, 99, 100, 101, 102] : List UInt8) (((s_0.getD ((s_1 + 1) + 1).toNat 0).toNat : Int)).toNat.toUInt8))) + (Lib.indexByte ([48, 49, 50, 51, 52, 53, 54, 55, 56, 57, 97, 98, 99, 100, 101, 102] : List UInt8) (((s_0.getD (((s_1 + 1) + 1) + 1).toNat 0).toNat : Int)).toNat.toUInt8)))] _ ?_)
            refine a7 (fun _ hK_48' => ?_)
            refine a6 ?_
            refine wm ?_
            refine wv (OV.conv rfl amf Tryd.underlying5) ?_
            refine wA ?_
            refine wA ?_
            refine WL.nil ?_
            refine kg (hK_48' [(2, zU (IntKind.wrap .u8 ((16 * (0 + (Lib.indexByte ([48, 49, 50, 51, 52, 53, 54, 55, 56, 57, 97, 98, 99, 100, 101, 102] : List UInt8) (((s_0.getD ((s_1 + 1) + 1).toNat 0).toNat : Int)).toNat.toUInt8))) + (Lib.indexByte ([48, 49, 50, 51, 52, 53, 54, 55, 56, 57, 97, 98, 99, 100, 101, 102] : List UInt8) (((s_0.getD (((s_1 + 1) + 1) + 1).toNat 0).toNat : Int)).toNat.toUInt8)))), (3, zB true)] _ ?_)
            refine b8 ?_
            exact hE.ret [0] rfl rfl (.inl ⟨_, _, _, _, _, _, _, _, h, rfl⟩) (d7.of2 rfl (RV.tmp rfl) (RV.tmp rfl))
       ·replace h := e9 h hb
        refine b6 ?_
        refine KX.go (hK_5' [] _ ?_) trivial
        refine a7 (fun _ hK_49' => ?_)
        refine a6 ?_
        refine wA ?_
        refine wA ?_
        refine WL.nil ?_
        refine kg (hK_49' [(2, zU 0), (3, zB false)] _ ?_)
        refine b8 ?_
        exact hE.ret [0] rfl rfl (.inl ⟨_, _, _, _, _, _, _, _, h, rfl⟩) (d7.of2 rfl (RV.tmp rfl) (RV.tmp rfl))
     ·skip
      refine a7 (fun _ hK_50' => ?_)
      refine a6 ?_
      refine wv (OV.eql rfl rfl) ?_
      refine wA ?_
      refine WL.nil ?_
      refine kg (hK_50' [(0, zP b), (4, zU ((s_0.getD (s_1 + 1).toNat 0).toNat : Int)), (25, zU ((s_0.getD (s_1 + 1).toNat 0).toNat : Int)), (32, zB (decide (((s_0.getD (s_1 + 1).toNat 0).toNat : Int) = 34)))] _ ?_)
      refine b5 (b := decide (((s_0.getD (s_1 + 1).toNat 0).toNat : Int) = 34)) rfl (fun hb => ?_) (fun hb => ?_)
      ·replace h := e8 h hb
       refine b6 ?_
       exact kh (hK_15' (decide (((s_0.getD (s_1 + 1).toNat 0).toNat : Int) = 34)) h) [0]
      ·replace h := e9 h hb
       refine a6 ?_
       refine wv (OV.eql rfl rfl) ?_
       refine wA ?_
       refine WL.nil ?_
       exact kh (hK_15' (decide (((s_0.getD (s_1 + 1).toNat 0).toNat : Int) = 92)) h) [0]
theorem aqo {t : List UInt8} {a : Int} {b : Int} {ok : Bool} {q : Int} (h : ab2 t a = (b, ok, q)) : a + 1 ≤ q ∧ q ≤ a + 3 ∧ 0 ≤ b ∧ b < 256 ∧ (ok = true → q < t.length) ∧ (q ≤ t.length ∨ q = a + 1) := by
 have c1 := ak2 t (a + 1)
 have r2 := ade (c := bt t (a + 2))
 have r3 := ade (c := bt t (a + 3))
 unfold ab2 at h
 simp only at h
 repeat' split at h
 all_goals (simp only [Prod.mk.injEq] at h; obtain ⟨rfl, rfl, rfl⟩ := h; first | (refine ⟨by omega, by omega, by omega, by omega, ?_, ?_⟩ <;> first | (intro _; omega) | (intro hx; cases hx; done) | (left; omega) | (right; omega) | omega))
theorem aoc (b : Nat) (t : List UInt8) (a : Int) (w : Value) (fc fa : Int) (ft : List UInt8) (h : 0 ≤ a ∧ a < t.length ∧ t.length ≤ 4096) :
  d9 Tryd.prog 73 [.pointer (some ⟨b, 0, none⟩)] [] [.blk b (scB t a w fc fa ft)] (fun o => ∃ r ok q, ab2 t a = (r, ok, q) ∧ o = .ret (.tuple #[.int .u8 r, .bool ok]) [.blk b (scB t q w fc fa ft)]) := by
 refine (atb b t a w fc fa ft (fun r ok t' a' w' c' p' x => ab2 t a = (r, ok, a') ∧ t' = t ∧ w' = w ∧ c' = fc ∧ p' = fa ∧ x = ft) ?_).weak ?_
 ·unfold ai4
  have eb : ∀ i : Int, ((t.getD i.toNat 0).toNat : Int) = bt t i := fun _ => rfl
  simp only [eb, show a + 1 + 1 = a + 2 from by omega, show a + 2 + 1 = a + 3 from by omega]
  have hI : ∀ k : Int, 0 ≤ k → k ≤ 4 → I64 (a + k) := fun k _ _ => ⟨by omega, by omega⟩
  have c2 := ak2 t (a + 2)
  have c3 := ak2 t (a + 3)
  have r2 := ade (c := bt t (a + 2))
  have r3 := ade (c := bt t (a + 3))
  rw [arj _ c2, arj _ c3]
  unfold ab2
  simp only
  refine ⟨hI 1 (by omega) (by omega), ?_⟩
  by_cases h1 : (t.length : Int) ≤ a + 1
  ·rw [if_pos (by simpa using h1), if_pos h1]; (refine ⟨?_, ?_, ?_, ?_, ?_, ?_⟩ <;> first | rfl | trivial)
  ·rw [if_neg (by simpa using h1)]
   simp only [if_neg h1]
   refine ⟨⟨by omega, by omega⟩, ?_⟩
   generalize bt t (a + 1) = c
   by_cases e1 : c = 110
   ·rw [if_pos (by simpa using e1)]; simp only [if_pos e1]; (refine ⟨?_, ?_, ?_, ?_, ?_, ?_⟩ <;> first | rfl | trivial)
   ·rw [if_neg (by simpa using e1)]; simp only [if_neg e1]
    by_cases e2 : c = 114
    ·rw [if_pos (by simpa using e2)]; simp only [if_pos e2]; (refine ⟨?_, ?_, ?_, ?_, ?_, ?_⟩ <;> first | rfl | trivial)
    ·rw [if_neg (by simpa using e2)]; simp only [if_neg e2]
     by_cases e3 : c = 116
     ·rw [if_pos (by simpa using e3)]; simp only [if_pos e3]; (refine ⟨?_, ?_, ?_, ?_, ?_, ?_⟩ <;> first | rfl | trivial)
     ·rw [if_neg (by simpa using e3)]; simp only [if_neg e3]
      refine ⟨fun r => r = decide (c = 34 ∨ c = 92), fun r hr => ?_, ?_⟩
      ·by_cases e4 : c = 34 ∨ c = 92
       ·rw [hr, if_pos (by simpa using e4)]; simp only [if_pos e4]; (refine ⟨?_, ?_, ?_, ?_, ?_, ?_⟩ <;> first | rfl | trivial)
       ·rw [hr, if_neg (by simpa using e4)]; simp only [if_neg e4]
        by_cases e5 : c = 120
        ·rw [if_pos (by simpa using e5)]; simp only [if_pos e5]
         refine ⟨hI 2 (by omega) (by omega), ?_⟩
         by_cases h2 : (t.length : Int) ≤ a + 2
         ·rw [if_pos (by simpa using h2)]; simp only [if_pos h2]; (refine ⟨?_, ?_, ?_, ?_, ?_, ?_⟩ <;> first | rfl | trivial)
         ·rw [if_neg (by simpa using h2)]; simp only [if_neg h2]
          refine ⟨⟨by omega, by omega⟩, ?_⟩
          by_cases h3 : k6 (bt t (a + 2)) < 0
          ·rw [if_pos (by simpa using h3)]; simp only [if_pos h3]; (refine ⟨?_, ?_, ?_, ?_, ?_, ?_⟩ <;> first | rfl | trivial)
          ·rw [if_neg (by simpa using h3)]; simp only [if_neg h3]
           refine ⟨⟨by omega, by omega⟩, hI 3 (by omega) (by omega), ?_⟩
           by_cases h4 : (t.length : Int) ≤ a + 3
           ·rw [if_pos (by simpa using h4)]; simp only [if_pos h4]; (refine ⟨?_, ?_, ?_, ?_, ?_, ?_⟩ <;> first | rfl | trivial)
           ·rw [if_neg (by simpa using h4)]; simp only [if_neg h4]
            refine ⟨⟨by omega, by omega⟩, ?_⟩
            by_cases h5 : k6 (bt t (a + 3)) < 0
            ·rw [if_pos (by simpa using h5)]; simp only [if_pos h5]; (refine ⟨?_, ?_, ?_, ?_, ?_, ?_⟩ <;> first | rfl | trivial)
            ·rw [if_neg (by simpa using h5)]; simp only [if_neg h5]
             refine ⟨⟨by omega, by omega⟩, ⟨by omega, by omega⟩, ?_, by first | rfl | trivial, by first | rfl | trivial, by first | rfl | trivial, by first | rfl | trivial, by first | rfl | trivial⟩
             rw [IntWalk.u8_in _ (by omega), Int.zero_add]
        ·rw [if_neg (by simpa using e5)]; simp only [if_neg e5]; (refine ⟨?_, ?_, ?_, ?_, ?_, ?_⟩ <;> first | rfl | trivial)
      ·by_cases e4 : c = 34
       ·simp [e4]
       ·simp [e4]
 ·rintro o (⟨r, ok, t', q, w', c', p', x, ⟨he, rfl, rfl, rfl, rfl, rfl⟩, rfl⟩ | h)
  ·exact ⟨r, ok, q, he, rfl⟩
  ·exact h.elim
end Go.Proofs.YtifajndacnfcbaaDoor
