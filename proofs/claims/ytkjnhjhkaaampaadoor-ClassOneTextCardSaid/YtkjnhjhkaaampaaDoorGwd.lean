/-
  The calculus of walks: a function that defers one closure; the closure that recovers.
-/
import Derived.Test.YtkjnhjhkaaampaaDoorGwx
import Derived.Recover
namespace Go.Proofs.YtkjnhjhkaaampaaDoor
open Go Go.RowKit

variable {P : Program} {ops : Array Oper} {Q : Exit → Act → World → Prop} {C : Cx} {L : Sl} {H : List HA} {rest : List Oper} {o : Oper}

/-- What a deferred call does: met in the mode u, it leaves the mode u'. -/
def DoesD (P : Program) (f : FuncId) (args : List Value) (u u' : FrameMode) (R : List (Nat × Obj)) (A : List HA) (S : Out → Prop) : Prop :=
  ∀ w M, Own w A M → M.Nodup → (∀ k ∈ M, k < w.heap.size) → (∀ p ∈ R, w.heap[p.1]? = some p.2 ∧ p.1 ∉ M) → CallsD P f args.toArray u w (fun e u'' w' => u'' = u' ∧ ∃ H', OutR S e H' ∧ Hp ⟨0, [], w, M, R⟩ H' w')

/-- recover's answer and the mode behind it. -/
def Recovers (u : FrameMode) (v : Value) (u' : FrameMode) : Prop :=
  (u = .returning ∧ v = .nilIface ∧ u' = .returning) ∨ (∃ x, u = .panicking [{ v := x, recovered := false }] ∧ v = x ∧ u' = .panicking [{ v := x, recovered := true }])

theorem doesD_rec {f : FuncId} {fn : Func} {y : Code} {args : List Value} {R : List (Nat × Obj)} {A : List HA} {S : Out → Prop} {L0 : Sl} {n id d d2 : Nat} {ats : Array TypeId} {t1 t2 : TypeId} {p1 p2 : String} {e1 e2 : Array Edge} {u u' : FrameMode} {v : Value}
    (hf : P.funcs[f]? = some fn) (hb : fn.body = some (.seq (.region id [⟨some d, .call ⟨.builtin .recover, #[], ats⟩, t1, p1, e1, none⟩, ⟨some d2, .assign (.tmp d), t2, p2, e2, none⟩].toArray false) y)) (hnt : fn.ntmps = n) (hl : Nat.ble args.length n = true)
    (hL : (List.range args.length).zip args = L0) (hd : Nat.blt d n = true) (hd2 : Nat.blt d2 n = true) (hu : Recovers u v u')
    (h : ∀ w0 M Q, Ends P fn ⟨n, [], w0, M, R⟩ S Q → WC P y Q ⟨n, [], w0, M, R⟩ ((d2, v) :: (d, v) :: L0) A) : DoesD P f args u u' R A S := by
  intro w M hO hn hlt hR
  subst hnt
  have hle : args.length ≤ fn.ntmps := Nat.le_of_ble_eq_true hl
  refine callsD_of_wpS hf hb fun c₀ cs hc => ?_
  refine wpS_seq (wpS_region ?_)
  have hd' : d < fn.ntmps := Nat.blt_eq ▸ hd
  -- the frame at the start
  have hfr : Fr ⟨fn.ntmps, [], w, M, R⟩ L0 ⟨args.toArray ++ Array.replicate (fn.ntmps - args.toArray.size) undef, []⟩ := by
    refine ⟨rfl, by simp; omega, ?_⟩
    intro i x hg
    subst hL
    have hm := Sl.get_mem hg
    obtain ⟨j, hj⟩ := List.mem_iff_getElem?.1 hm
    rw [List.getElem?_zip_eq_some] at hj
    obtain ⟨h1, h2⟩ := hj
    have hij : j = i := by
      have h3 := (List.getElem?_eq_some_iff.1 h1)
      obtain ⟨h4, h5⟩ := h3
      simp at h5; exact h5
    subst hij
    have hjl : j < args.length := (List.getElem?_eq_some_iff.1 h2).1
    simp only [List.size_toArray]
    rw [Array.getElem?_append_left (by simpa using hjl)]
    simpa using h2
  generalize (⟨args.toArray ++ Array.replicate (fn.ntmps - args.toArray.size) undef, []⟩ : Act) = a0 at hfr ⊢
  have hfr2 := (hfr.put hd v).put hd2 v
  have hp := Hp.start fn.ntmps [] w hO hn hlt hR
  have hrun : (execOp a0.eval ⟨some d, .call ⟨.builtin .recover, #[], ats⟩, t1, p1, e1, none⟩).run P w = .ok .recover w := by
    simp [execOp, resolve, invoke, builtin]
  have hev : (a0.put (some d) v).eval (.tmp d) = v := (hfr.put hd v).ev (x := .tmp d) (by simp [ev, Sl.get])
  have hrun2 : (execOp (a0.put (some d) v).eval ⟨some d2, .assign (.tmp d), t2, p2, e2, none⟩).run P w = .ok (.value v) w := by
    simp only [execOp, hev, Sem.run_pure]
  have key : ∀ cs', (match recoverD (c₀ :: cs) with | some (x, c') => x = v ∧ c' = cs' | none => .nilIface = v ∧ (c₀ :: cs) = cs') → cs' = { c₀ with mode := u' } :: cs →
      wpOpsS P [⟨some d, .call ⟨.builtin .recover, #[], ats⟩, t1, p1, e1, none⟩, ⟨some d2, .assign (.tmp d), t2, p2, e2, none⟩].toArray (Exit.thenS (y.wpS P (bodyPostS P fn c₀ cs fun e u'' w' => u'' = u' ∧ ∃ H', OutR S e H' ∧ Hp ⟨0, [], w, M, R⟩ H' w')) (bodyPostS P fn c₀ cs fun e u'' w' => u'' = u' ∧ ∃ H', OutR S e H' ∧ Hp ⟨0, [], w, M, R⟩ H' w')) [0, 1] a0 (c₀ :: cs) w := by
    intro cs' hrec hcs'
    have hy : y.wpS P (bodyPostS P fn c₀ cs fun e u'' w' => u'' = u' ∧ ∃ H', OutR S e H' ∧ Hp ⟨0, [], w, M, R⟩ H' w') ((a0.put (some d) v).put (some d2) v) cs' w := by
      subst hcs'
      refine wpS_of_wp ?_
      refine h w M _ ?_ _ _ hfr2 hp
      refine ⟨fun idx hi he hS hr a w' hfr hp => ?_, fun idx hi he hS hr a w' hfr hp => ?_, fun idx hi he hS a w' hfr hp => ?_⟩
      · exact ⟨hfr.defers, u', rfl, _, hr a w' hfr hp, rfl, _, .inl ⟨_, rfl, hS⟩, he ▸ (hp.pick idx hi).ctx⟩
      · exact ⟨hfr.defers, u', rfl, _, hr a w' hfr hp, rfl, _, .inl ⟨_, rfl, hS⟩, he ▸ (hp.pick idx hi).ctx⟩
      · exact ⟨hfr.defers, u', rfl, rfl, _, .inr ⟨_, rfl, hS⟩, he ▸ (hp.pick idx hi).ctx⟩
    have hy2 : wpOpsS P [⟨some d, .call ⟨.builtin .recover, #[], ats⟩, t1, p1, e1, none⟩, ⟨some d2, .assign (.tmp d), t2, p2, e2, none⟩].toArray (Exit.thenS (y.wpS P (bodyPostS P fn c₀ cs fun e u'' w' => u'' = u' ∧ ∃ H', OutR S e H' ∧ Hp ⟨0, [], w, M, R⟩ H' w')) (bodyPostS P fn c₀ cs fun e u'' w' => u'' = u' ∧ ∃ H', OutR S e H' ∧ Hp ⟨0, [], w, M, R⟩ H' w')) [1] (a0.put (some d) v) cs' w := by
      simp only [wpOpsS, List.getElem?_toArray, List.getElem?_cons_succ, List.getElem?_cons_zero, Region.wanted, if_true, hrun2, Oper.upon]
      exact hy
    unfold wpOpsS
    simp only [List.getElem?_toArray, List.getElem?_cons_zero, Region.wanted, if_true, hrun]
    cases hr : recoverD (c₀ :: cs) with
    | none => rw [hr] at hrec; obtain ⟨rfl, rfl⟩ := hrec; exact hy2
    | some q => rw [hr] at hrec; obtain ⟨x, c'⟩ := q; obtain ⟨rfl, rfl⟩ := hrec; exact hy2
  have hrange : List.range ([⟨some d, .call ⟨.builtin .recover, #[], ats⟩, t1, p1, e1, none⟩, ⟨some d2, .assign (.tmp d), t2, p2, e2, none⟩] : List Oper).toArray.size = [0, 1] := rfl
  rw [hrange]
  rcases hu with ⟨rfl, rfl, rfl⟩ | ⟨x, rfl, rfl, rfl⟩
  · refine key _ ?_ rfl
    have : recoverD (c₀ :: cs) = none := by simp [recoverD, hc]
    rw [this]
    exact ⟨rfl, by cases c₀; simp_all⟩
  · refine key _ ?_ rfl
    have : recoverD (c₀ :: cs) = some (v, { c₀ with mode := .panicking [{ v, recovered := true }] } :: cs) := by simp [recoverD, hc]
    rw [this]
    exact ⟨rfl, rfl⟩

/-! ### the function that defers -/
theorem wc_seqC {x y : Code} (h : ∀ K : Act → World → Prop, (∀ C L H, WC P y Q C L H → KX K C L H) → WC P x (Exit.then K Q) C L H) : WC P (.seq x y) Q C L H :=
  fun a w hf hp => wp_seq (h _ (fun _ _ _ hy => hy) a w hf hp)
theorem OV.makeFunc {f : FuncId} {xs : List Operand} {vs : List Value} {ty : TypeId} {d : Option Tmp} {p : String} {e : Array Edge} {g : Option (Nat × Bool)} (hx : evs L xs = some vs) : OV P C L H ⟨d, .makeFunc (.func f) #[] xs.toArray, ty, p, e, g⟩ (.func (.func f) #[] vs.toArray) := fun a w hf _ => by
  simp [execOp, Instr.makeFunc, evs_spec hf hx]
theorem WL.defer {x : Operand} {ats : Array TypeId} {ty : TypeId} {p : String} {e : Array Edge} {d : Option Tmp} {f : FuncId} {vs : List Value} (hx : ev L x = some (.func (.func f) #[] vs.toArray)) (hd : d = none)
    (h : WL P ops Q { C with D := ⟨.fn (.func f) vs.toArray, #[]⟩ :: C.D } L H rest) : WL P ops Q C L H (⟨d, .defer ⟨.value x, #[], ats⟩, ty, p, e, none⟩ :: rest) := by
  intro a w hf hp
  subst hd
  refine wpList_want' (by simp [Region.wanted]) ?_
  unfold Oper.wp
  have : (execOp a.eval ⟨none, .defer ⟨.value x, #[], ats⟩, ty, p, e, none⟩).run P w = .ok (.defer ⟨.fn (.func f) vs.toArray, #[]⟩) w := by
    simp [execOp, resolve, hf.ev hx, Deferred.ofValue]
  rw [this]
  simp only [Oper.upon, Act.put]
  exact h _ _ ⟨by simp [hf.defers], hf.size, hf.get⟩ hp.ctx
structure EndsD (P : Program) (fn : Func) (n : Nat) (w0 : World) (M : List Nat) (R : List (Nat × Obj)) (S : Out → Prop) (Q : Exit → Act → World → Prop) : Prop where
  ret : ∀ {D : List Deferred} {L : Sl} {H : List HA}, (∀ a w, Fr ⟨n, D, w0, M, R⟩ L a → Hp ⟨n, D, w0, M, R⟩ H w → Leaves P fn a.tmps (fun e w' => ∃ H', OutR S e H' ∧ Hp ⟨0, [], w0, M, R⟩ H' w') D .returning w) → QX Q .ret ⟨n, D, w0, M, R⟩ L H
  norm : ∀ {D : List Deferred} {L : Sl} {H : List HA}, (∀ a w, Fr ⟨n, D, w0, M, R⟩ L a → Hp ⟨n, D, w0, M, R⟩ H w → Leaves P fn a.tmps (fun e w' => ∃ H', OutR S e H' ∧ Hp ⟨0, [], w0, M, R⟩ H' w') D .returning w) → QX Q .normal ⟨n, D, w0, M, R⟩ L H
  pan : ∀ {D : List Deferred} {L : Sl} {H : List HA} {c : List PanicEntry}, (∀ a w, Fr ⟨n, D, w0, M, R⟩ L a → Hp ⟨n, D, w0, M, R⟩ H w → Leaves P fn a.tmps (fun e w' => ∃ H', OutR S e H' ∧ Hp ⟨0, [], w0, M, R⟩ H' w') D (.panicking c) w) → QX Q (.panic c) ⟨n, D, w0, M, R⟩ L H
theorem does_of_wcD {f : FuncId} {fn : Func} {c : Code} {args : List Value} {R : List (Nat × Obj)} {A : List HA} {S : Out → Prop} {L0 : Sl} {n : Nat} (hf : P.funcs[f]? = some fn) (hb : fn.body = some c) (hnt : fn.ntmps = n) (hl : Nat.ble args.length n = true)
    (hL : (List.range args.length).zip args = L0)
    (h : ∀ w0 M Q, EndsD P fn n w0 M R S Q → WC P c Q ⟨n, [], w0, M, R⟩ L0 A) : Does P f args R A S := by
  intro w M hO hn hlt hR
  subst hnt
  have hle : args.length ≤ fn.ntmps := Nat.le_of_ble_eq_true hl
  refine calls_of_wp_defers hf hb ?_
  refine h w M _ ?_ _ _ ⟨rfl, ?_, ?_⟩ (Hp.start _ _ w hO hn hlt hR)
  · refine ⟨fun hh a w' hfr hp => ?_, fun hh a w' hfr hp => ?_, fun hh a w' hfr hp => ?_⟩
    all_goals
      have := hh a w' hfr hp
      have hd := hfr.defers
      simp only at hd
      rw [← hd] at this
      exact this
  · simp; omega
  · intro i v hg
    subst hL
    have hm := Sl.get_mem hg
    obtain ⟨j, hj⟩ := List.mem_iff_getElem?.1 hm
    rw [List.getElem?_zip_eq_some] at hj
    obtain ⟨h1, h2⟩ := hj
    have hij : j = i := by
      have h3 := (List.getElem?_eq_some_iff.1 h1)
      obtain ⟨h4, h5⟩ := h3
      simp at h5; exact h5
    subst hij
    have hjl : j < args.length := (List.getElem?_eq_some_iff.1 h2).1
    simp only [List.size_toArray]
    rw [Array.getElem?_append_left (by simpa using hjl)]
    simpa using h2
/-- Left with nothing deferred. -/
theorem leaves0 {fn : Func} {n : Nat} {w0 : World} {M : List Nat} {R : List (Nat × Obj)} {S : Out → Prop} {H' : List HA} {v : Value} (idx : List Nat) (hi : nodupB idx = true) (he : sel H idx = H') (hS : S (.ret v H')) (hr : ResV P fn ⟨n, [], w0, M, R⟩ L H v) :
    ∀ a w, Fr ⟨n, [], w0, M, R⟩ L a → Hp ⟨n, [], w0, M, R⟩ H w → Leaves P fn a.tmps (fun e w' => ∃ H', OutR S e H' ∧ Hp ⟨0, [], w0, M, R⟩ H' w') [] .returning w :=
  fun a w hf hp => ⟨v, hr a w hf hp, _, .inl ⟨_, rfl, hS⟩, he ▸ (hp.pick idx hi).ctx⟩
/-- Left with one closure deferred, which returns and leaves nothing of a panic. -/
theorem leaves1 {fn : Func} {n : Nat} {w0 : World} {M : List Nat} {R R' : List (Nat × Obj)} {S : Out → Prop} {H' A A' Rest : List HA} {v vc : Value} {f : FuncId} {vs : List Value} {u u' : FrameMode} {H : List HA} (idx0 : List Nat) (hi0 : nodupB idx0 = true) (hH : sel H idx0 = A ++ Rest)
    (hent : entB P f = true) (hc : DoesD P f vs u u' R' A (Ret vc A')) (hrun : u ≠ .run) (hset : settle u' = .returning) (hR : ROk ⟨n, [⟨.fn (.func f) vs.toArray, #[]⟩], w0, M, R⟩ Rest R')
    (idx : List Nat) (hi : nodupB idx = true) (he : sel (A' ++ Rest) idx = H') (hS : S (.ret v H')) (hr : ResV P fn ⟨n, [⟨.fn (.func f) vs.toArray, #[]⟩], w0, M, R⟩ L (A' ++ Rest) v) :
    ∀ a w, Fr ⟨n, [⟨.fn (.func f) vs.toArray, #[]⟩], w0, M, R⟩ L a → Hp ⟨n, [⟨.fn (.func f) vs.toArray, #[]⟩], w0, M, R⟩ H w → Leaves P fn a.tmps (fun e w' => ∃ H', OutR S e H' ∧ Hp ⟨0, [], w0, M, R⟩ H' w') [⟨.fn (.func f) vs.toArray, #[]⟩] u w := by
  intro a w hf hp
  have hp := hH ▸ hp.pick idx0 hi0
  refine ⟨hrun, .func f, vs.toArray, f, vs.toArray, rfl, by simp [invoke, run_enter hent], ?_⟩
  obtain ⟨F, h1, h2, h3⟩ := hp.own
  obtain ⟨F1, F2, rfl, hA, hB⟩ := h1.split
  have hnd := List.nodup_append.1 h2
  refine (hc w F1 hA hnd.1 (fun k hk => (h3 k (List.mem_append.2 (.inl hk))).1) ?_).mono ?_
  · intro q hq
    rcases hR.all q hq with ⟨i, hi⟩ | hm
    · refine ⟨hp.blk (i := A.length + i) (by rw [List.getElem?_append_right (by omega)]; simpa using hi), fun hm => ?_⟩
      exact hnd.2.2 q.1 hm q.1 (hB.mem_blk hi) rfl
    · refine ⟨hp.old hm, fun hk => ?_⟩
      have hro := hp.ro q hm
      have hlt := lt_of_blk hro.1
      rcases (h3 q.1 (List.mem_append.2 (.inl hk))).2 with h4 | h4
      · omega
      · exact hro.2 h4
  · rintro en u'' w' ⟨rfl, H'', hS', hh⟩
    rcases hS' with ⟨r, rfl, hS'⟩ | ⟨c, rfl, hS'⟩
    · cases hS'
      have hp' := hp.call hB h2 h3 hh
      show Leaves P fn a.tmps _ [] (settle u'') w'
      rw [hset]
      exact ⟨v, hr a w' hf hp', _, .inl ⟨_, rfl, hS⟩, he ▸ (hp'.pick idx hi).ctx⟩
    · cases hS'
theorem OV.assertIs {x : Operand} {t t' ty : TypeId} {d : Option Tmp} {p : String} {e : Array Edge} {g : Option (Nat × Bool)} {v : Value} {dd : TypeDesc} (hx : ev L x = some (.iface t' v)) (hu : P.underlying t' = some dd) (hn : (match dd with | .interface _ => false | _ => true) = true) : OV P C L H ⟨d, .typeAssert x t t' false, ty, p, e, g⟩ v := fun a w hf _ => by
  have : (Instr.typeAssert (.iface t' v) t t' false).run P w = .ok v w := by
    unfold Instr.typeAssert
    rw [Sem.run_bind, run_under hu]
    cases dd <;> simp_all
  simp [execOp, hf.ev hx, this]
theorem OV.neqNil {x y : Operand} {t t' ty tv : TypeId} {d : Option Tmp} {p : String} {e : Array Edge} {g : Option (Nat × Bool)} {v : Value} {ms : Array (String × TypeId)} (hx : ev L x = some (.iface tv v)) (hy : ev L y = some .nilIface) (hu : P.underlying t = some (.interface ms)) : OV P C L H ⟨d, .binOp .neq t x y t', ty, p, e, g⟩ (.bool true) := fun a w hf _ => by
  have h : binOp .neq t (.iface tv v) .nilIface = (do pure (.bool (!(← Op.equal t (.iface tv v) .nilIface)))) := rfl
  have h2 : (Op.equal t (.iface tv v) .nilIface).run P w = .ok false w := by
    unfold Op.equal Op.maxDepth Op.equalIn
    rw [Sem.run_bind, run_under hu]; rfl
  simp only [execOp, hf.ev hx, hf.ev hy, eqGuard_at_iface, h, Sem.run_bind, Sem.run_pure, Result.andThen_ok, h2]
  rfl
theorem OV.neqNil0 {x : Operand} {t t' ty : TypeId} {d : Option Tmp} {p : String} {e : Array Edge} {g : Option (Nat × Bool)} {ms : Array (String × TypeId)} (hx : ev L x = some .nilIface) (hu : P.underlying t = some (.interface ms)) : OV P C L H ⟨d, .binOp .neq t x (.const .nilIface) t', ty, p, e, g⟩ (.bool false) := fun a w hf _ => by
  have h : binOp .neq t .nilIface .nilIface = (do pure (.bool (!(← Op.equal t .nilIface .nilIface)))) := rfl
  have h2 : (Op.equal t .nilIface .nilIface).run P w = .ok true w := by
    unfold Op.equal Op.maxDepth Op.equalIn
    rw [Sem.run_bind, run_under hu]; rfl
  have hc : a.eval (.const .nilIface) = .nilIface := rfl
  simp only [execOp, hf.ev hx, hc, eqGuard_nil_constR, h, Sem.run_bind, Sem.run_pure, Result.andThen_ok, h2]
  rfl
theorem DoesD.weak {f : FuncId} {args : List Value} {u u' : FrameMode} {R : List (Nat × Obj)} {A : List HA} {S S' : Out → Prop} (h : DoesD P f args u u' R A S) (hs : ∀ o, S o → S' o) : DoesD P f args u u' R A S' := fun w M hO hn hl hr => (h w M hO hn hl hr).mono fun en u'' w' ⟨hu, H', hS, hh⟩ => ⟨hu, H', by
    rcases hS with ⟨r, e1, hS⟩ | ⟨c, e1, hS⟩
    · exact .inl ⟨r, e1, hs _ hS⟩
    · exact .inr ⟨c, e1, hs _ hS⟩, hh⟩
end Go.Proofs.YtkjnhjhkaaampaaDoor
