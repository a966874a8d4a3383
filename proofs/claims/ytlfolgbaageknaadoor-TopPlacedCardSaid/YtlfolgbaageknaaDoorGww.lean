/-
  The calculus of walks: operations that make or write memory, calls, panics, regions whose order is drawn, a function's start and end.
-/
import Derived.Test.YtlfolgbaageknaaDoorGwm
import Derived.Great.Walk
import Derived.Laws.Strings2
namespace Go.Proofs.YtlfolgbaageknaaDoor
open Go Go.RowKit

variable {P : Program} {ops : Array Oper} {Q : Exit → Act → World → Prop} {C : Cx} {L : Sl} {H : List HA} {rest : List Oper} {o : Oper}

/-- The operation makes the block Z and gives f of its number. -/
def MV (P : Program) (C : Cx) (L : Sl) (H : List HA) (o : Oper) (Z : Obj) (f : Nat → Value) : Prop := ∀ a w, Fr C L a → Hp C H w → (execOp a.eval o).run P w = .ok (.value (f w.heap.size)) (w.alloc Z)
theorem WL.make {Z : Obj} {f : Nat → Value} {d : Nat} (hv : MV P C L H o Z f) (hw : wantB ops L o = some true) (hd : o.dst = some d) (hn : Nat.blt d C.n = true) (h : ∀ b, WL P ops Q C ((d, f b) :: L) (.blk b Z :: H) rest) : WL P ops Q C L H (o :: rest) := by
  intro a w hf hp
  refine wpList_want' (wanted_of hf hw) ?_
  unfold Oper.wp
  rw [hv a w hf hp]
  simp only [Oper.upon, hd]
  exact h _ _ _ (hf.put hn _) (hp.alloc Z)
section mv
variable {x y z : Operand} {u v : Value} {t t' ty e' : TypeId} {d : Option Tmp} {p : String} {e : Array Edge} {g : Option (Nat × Bool)} {n m : Int} {k k' : IntKind} {b off sz : Nat}
def zeroB (P : Program) (t : TypeId) : Option (List Value) := ((P.info? t).bind (·.zero)).map (·.cells.toList)
theorem MV.alloc {cs : List Value} (hz : zeroB P t = some cs) : MV P C L H ⟨d, .alloc t, ty, p, e, g⟩ (.cells cs.toArray t (0, 0)) (fun b => .pointer (some ⟨b, 0, none⟩)) := fun a w _ _ => by
  unfold zeroB at hz
  cases hq : P.info? t with
  | none => simp [hq] at hz
  | some i =>
    cases hz2 : i.zero with
    | none => simp [hq, hz2] at hz
    | some zv =>
      simp only [hq, hz2, Option.bind_some, Option.map_some, Option.some.injEq] at hz
      subst hz
      have hzr : (zeroValue t).run P w = .ok zv w := by simp [zeroValue, typeInfo, hq, hz2]
      simp only [execOp, Instr.alloc, Sem.run_bind, hzr, Result.andThen_ok, Sem.run_pure, newVar, newRow, newObj, Array.toArray_toList]
      rfl
theorem MV.box {cs : List Value} (hx : ev L x = some v) (hc : v.cells = cs.toArray) : MV P C L H ⟨d, .box t x, ty, p, e, g⟩ (.cells cs.toArray t (0, 0)) (fun b => .pointer (some ⟨b, 0, none⟩)) := fun a w hf _ => by
  simp only [execOp, Instr.box, hf.ev hx, hc, Sem.run_bind, Sem.run_pure, newVar, newRow, newObj]
  rfl
def evs (L : Sl) : List Operand → Option (List Value)
  | [] => some []
  | x :: r => match ev L x, evs L r with
    | some v, some vs => some (v :: vs)
    | _, _ => none
theorem evs_spec {a : Act} (hf : Fr C L a) : ∀ {xs : List Operand} {vs : List Value}, evs L xs = some vs → xs.map a.eval = vs
  | [], vs, h => by simp [evs] at h; simp [h]
  | x :: r, vs, h => by
    unfold evs at h
    split at h
    · rename_i v ws h1 h2
      simp only [Option.some.injEq] at h
      rw [← h, List.map_cons, hf.ev h1, evs_spec hf h2]
    · cases h
def evp (L : Sl) : List (Nat × Operand) → Option (List (Nat × Value))
  | [] => some []
  | x :: r => match ev L x.2, evp L r with
    | some v, some vs => some ((x.1, v) :: vs)
    | _, _ => none
theorem evp_spec {a : Act} (hf : Fr C L a) : ∀ {xs : List (Nat × Operand)} {vs : List (Nat × Value)}, evp L xs = some vs → xs.map (fun q => (q.1, a.eval q.2)) = vs
  | [], vs, h => by simp [evp] at h; simp [h]
  | x :: r, vs, h => by
    unfold evp at h
    split at h
    · rename_i v ws h1 h2
      simp only [Option.some.injEq] at h
      rw [← h, List.map_cons, hf.ev h1, evp_spec hf h2]
    · cases h
theorem OV.build {ps : List (Nat × Operand)} {vs : List (Nat × Value)} {cs : List Value} (hx : evp L ps = some vs) (hb : P.built t vs = some cs.toArray) : OV P C L H ⟨d, .build t ps.toArray, ty, p, e, g⟩ (.agg cs.toArray) := fun a w hf _ => by
  have h1 := evp_spec hf hx
  have h2 : (ps.toArray.map fun (i, x) => (i, a.eval x)).toList = vs := by simpa using h1
  have h3 := run_build (P := P) w t (ps.toArray.map fun (i, x) => (i, a.eval x)) cs.toArray (by rw [h2]; exact hb)
  simp only [execOp, Sem.run_bind, h3, Result.andThen_ok, Sem.run_pure]
theorem MV.buildSlice {ps : List (Nat × Operand)} {vs : List (Nat × Value)} {cs : List Value} {len : Nat} (hx : evp L ps = some vs) (hs : slB P t e' sz = true) (hb : P.builtSlice e' len vs = some cs.toArray) :
    MV P C L H ⟨d, .buildSlice t len ps.toArray, ty, p, e, g⟩ (.cells cs.toArray e' (0, 0)) (fun b => .slice (some ⟨b, 0, none⟩) len len) := fun a w hf _ => by
  have h1 := evp_spec hf hx
  have h2 : (ps.toArray.map fun (i, x) => (i, a.eval x)).toList = vs := by simpa using h1
  have hu := (slB_spec hs).1
  unfold Program.builtSlice at hb
  cases hie : P.info? e' with
  | none => simp [hie] at hb
  | some ie =>
    simp only [hie] at hb
    cases hz : ie.zero with
    | none => simp [hz] at hb
    | some z =>
      simp only [hz] at hb
      by_cases hc : len * ie.size > 2 ^ 24 ∨ len * ie.size = 0
      · simp [hc] at hb
      · rw [if_neg hc] at hb
        have hc1 : ¬ len * ie.size > 2 ^ 24 := fun h' => hc (.inl h')
        have hc2 : ¬ len * ie.size = 0 := fun h' => hc (.inr h')
        have hfill : Instr.fill (fun i => some (i * ie.size, ie.size)) ((Array.range (len * ie.size)).map (z.cells[· % z.cells.size]!)) (ps.toArray.map fun (i, x) => (i, a.eval x)).toList = some cs.toArray := by rw [h2]; exact hb
        have hzr : (zeroValue e').run P w = .ok z w := by simp [zeroValue, typeInfo, hie, hz]
        have hsr : (sizeOf e').run P w = .ok ie.size w := by simp [sizeOf, typeInfo, hie]
        simp only [execOp, Instr.buildSlice, Sem.run_bind, run_under hu, Result.andThen_ok, hsr, if_neg hc1, if_neg hc2, hzr, Sem.run_pure, hfill, newRow, newObj]
        rfl
theorem OV.sliceS {l : List UInt8} {i j : Int} (hx : ev L x = some (st l)) (hy : ev L y = some (.int k i)) (hz : ev L z = some (.int k' j)) (ht : strB P t = true) (hb : 0 ≤ i ∧ i ≤ j ∧ j ≤ l.length) :
    OV P C L H ⟨d, .slice t x (some y) (some z) none, ty, p, e, g⟩ (st ((l.drop i.toNat).take (j.toNat - i.toNat))) := fun a w hf _ => by
  have hu := strB_spec ht
  have h1 := run_slice_string (P := P) w t ⟨l.toArray⟩ k k' i j hu hb.1 hb.2.1 (by simpa [ByteArray.size] using hb.2.2)
  have h2 : (⟨l.toArray⟩ : ByteArray).extract i.toNat j.toNat = ⟨((l.drop i.toNat).take (j.toNat - i.toNat)).toArray⟩ := by
    rw [ByteArray.ext_iff]; simp [ByteArray.data_extract]
  have h3 : Instr.sliceAt t (st l) (some (.int k i)) (some (.int k' j)) none = (do match ← underlying t with | .array n elem => (do let a ← Instr.sureAddr (st l); let (l', h, m) ← Instr.sliceBounds false n n (some (.int k i)) (some (.int k' j)) none; let size ← sizeOf elem; pure (.slice (some (if m = l' then a else a.add (l' * size))) (h - l') (m - l'))) | _ => Instr.slice t (st l) (some (.int k i)) (some (.int k' j)) none) := rfl
  rw [h2] at h1
  simp only [execOp, Option.map_some, Option.map_none, hf.ev hx, hf.ev hy, hf.ev hz, Sem.run_bind, run_sliceAt_string (P := P) w t _ _ _ _ hu, h1, Result.andThen_ok, Sem.run_pure]
end mv

/-- An operation from one state to another. -/
def OpK (P : Program) (o : Oper) (Q : Exit → Act → World → Prop) (C : Cx) (L : Sl) (H : List HA) (L' : Sl) (H' : List HA) : Prop :=
  ∀ K : Act → World → Prop, (∀ a w, Fr C L' a → Hp C H' w → K a w) → ∀ a w, Fr C L a → Hp C H w → o.wp P a w K Q
theorem WL.op {L' : Sl} {H' : List HA} (hop : OpK P o Q C L H L' H') (hw : wantB ops L o = some true) (h : WL P ops Q C L' H' rest) : WL P ops Q C L H (o :: rest) :=
  fun a w hf hp => wpList_want' (wanted_of hf hw) (hop _ h a w hf hp)
theorem OpK.val {v : Value} {d : Nat} (hv : OV P C L H o v) (hd : o.dst = some d) (hn : Nat.blt d C.n = true) : OpK P o Q C L H ((d, v) :: L) H := by
  intro K hK a w hf hp
  unfold Oper.wp
  rw [hv a w hf hp]
  simp only [Oper.upon, hd]
  exact hK _ _ (hf.put hn v) hp
/-- A store: the cells of the value go into the block from an offset on. -/
theorem OpK.store {x y : Operand} {t ty T : TypeId} {p : String} {e : Array Edge} {g : Option (Nat × Bool)} {b off : Nat} {v : Value} {cs vs cs' : List Value} (i : Nat)
    (hx : ev L x = some (.pointer (some ⟨b, off, none⟩))) (hy : ev L y = some v) (hi : H[i]? = some (.blk b (.cells cs.toArray T (0, 0)))) (hv : v.cells = vs.toArray) (hs : sizeB P t vs.length = true)
    (hfit : off + vs.length ≤ cs.length) (h1 : vs.all (·.oneCell') = true) (he : cs.take off ++ vs ++ cs.drop (off + vs.length) = cs') :
    OpK P ⟨none, .store t x y, ty, p, e, g⟩ Q C L H L (H.set i (.blk b (.cells cs'.toArray T (0, 0)))) := by
  intro K hK a w hf hp
  have hb := hp.blk hi
  have hrun := run_storeCells_at (P := P) b off T vs 0 cs.toArray w hb (by simpa using hfit) (by simpa using h1)
  simp only [Nat.add_zero] at hrun
  rw [he] at hrun
  have hst : (storeVar t ⟨b, off, none⟩ v).run P w = .ok () (w.setRow b cs'.toArray) := by
    simp only [storeVar, Sem.run_bind, run_size hs, Result.andThen_ok, hv, List.size_toArray, ne_eq, not_true_eq_false, if_false, hrun]
  unfold Oper.wp
  simp only [execOp, hf.ev hx, hf.ev hy, Instr.storeAt, Instr.sureAddr, Sem.run_bind, Sem.run_pure, Result.andThen_ok, hst, Oper.upon]
  refine hK _ _ (hf.put0 _) (hp.set hi rfl rfl rfl ?_ (fun k hk => setRow_other w b k _ hk) (heap_setRow_same hb))
  simp [World.setRow]
theorem WL.store {x y : Operand} {t ty T : TypeId} {p : String} {e : Array Edge} {g : Option (Nat × Bool)} {b off : Nat} {v : Value} {cs vs cs' : List Value} (i : Nat)
    (hx : ev L x = some (.pointer (some ⟨b, off, none⟩))) (hy : ev L y = some v) (hi : H[i]? = some (.blk b (.cells cs.toArray T (0, 0)))) (hv : v.cells = vs.toArray) (hs : sizeB P t vs.length = true)
    (hfit : off + vs.length ≤ cs.length) (h1 : vs.all (·.oneCell') = true) (he : cs.take off ++ vs ++ cs.drop (off + vs.length) = cs') (hw : wantB ops L ⟨none, .store t x y, ty, p, e, g⟩ = some true)
    (h : WL P ops Q C L (H.set i (.blk b (.cells cs'.toArray T (0, 0)))) rest) : WL P ops Q C L H (⟨none, .store t x y, ty, p, e, g⟩ :: rest) :=
  WL.op (OpK.store i hx hy hi hv hs hfit h1 he) hw h
/-- A store of one cell at a place that the walk computed. -/
theorem WL.storeA {x y : Operand} {t ty T : TypeId} {p : String} {e : Array Edge} {g : Option (Nat × Bool)} {b n off : Nat} {v : Value} {f : Nat → Value} (i : Nat)
    (hx : ev L x = some (.pointer (some ⟨b, off, none⟩))) (hy : ev L y = some v) (hi : H[i]? = some (.blk b (.cells (arr n f).toArray T (0, 0)))) (hv : v.cells = #[v]) (hs : sizeB P t 1 = true)
    (hfit : off < n) (h1 : v.oneCell' = true) (hw : wantB ops L ⟨none, .store t x y, ty, p, e, g⟩ = some true)
    (h : WL P ops Q C L (H.set i (.blk b (.cells (arr n (fun j => if j = off then v else f j)).toArray T (0, 0)))) rest) : WL P ops Q C L H (⟨none, .store t x y, ty, p, e, g⟩ :: rest) := by
  refine WL.store (vs := [v]) i hx hy hi hv hs (by rw [arr_length]; simp; omega) (by simp [h1]) ?_ hw h
  have : (arr n f).set off v = arr n (fun j => if j = off then v else f j) := arr_set
  rw [← this, List.set_eq_take_append_cons_drop, arr_length, if_pos hfit]
  simp

/-! ### contracts -/
inductive Out where
  | ret (v : Value) (H : List HA)
  | pan (c : List PanicEntry) (H : List HA)
def OutR (S : Out → Prop) (e : Ending) (H' : List HA) : Prop := (∃ v, e = .returned v ∧ S (.ret v H')) ∨ (∃ c, e = .panicked c ∧ S (.pan c H'))
/-- What a call does: A the blocks that it may write, R blocks that it reads alone, S what it may come to. -/
def Does (P : Program) (f : FuncId) (args : List Value) (R : List (Nat × Obj)) (A : List HA) (S : Out → Prop) : Prop :=
  ∀ w M, Own w A M → M.Nodup → (∀ k ∈ M, k < w.heap.size) → (∀ p ∈ R, w.heap[p.1]? = some p.2 ∧ p.1 ∉ M) → Calls P f args.toArray w (fun e w' => ∃ H', OutR S e H' ∧ Hp ⟨0, [], w, M, R⟩ H' w')
def Ret (v : Value) (A' : List HA) : Out → Prop := fun o => o = .ret v A'
def ROk (C : Cx) (Rest : List HA) : List (Nat × Obj) → Prop
  | [] => True
  | p :: r => ((∃ i : Nat, Rest[i]? = some (HA.blk p.1 p.2)) ∨ p ∈ C.R) ∧ ROk C Rest r
theorem ROk.all {Rest : List HA} : ∀ {R : List (Nat × Obj)}, ROk C Rest R → ∀ p ∈ R, (∃ i : Nat, Rest[i]? = some (HA.blk p.1 p.2)) ∨ p ∈ C.R
  | [], _, p, hp => by cases hp
  | q :: r, h, p, hp => by
    rcases List.mem_cons.1 hp with rfl | hp
    · exact h.1
    · exact h.2.all p hp
theorem Own.mem_blk {w : World} : ∀ {H : List HA} {F : List Nat}, Own w H F → ∀ {i b : Nat} {ob : Obj}, H[i]? = some (.blk b ob) → b ∈ F
  | [], _, _, i, b, ob, h => by simp at h
  | x :: H, F, ⟨F1, F2, hF, h1, h2⟩, i, b, ob, h => by
    cases i with
    | zero =>
      simp at h
      subst h
      rw [hF, h1.1]; simp
    | succ i => rw [hF]; exact List.mem_append.2 (.inr (h2.mem_blk (i := i) (by simpa using h)))
theorem call_at {f : FuncId} {args : List Value} {R : List (Nat × Obj)} {A Rest : List HA} {S : Out → Prop} {w : World} (hc : Does P f args R A S) (hp : Hp C (A ++ Rest) w) (hR : ROk C Rest R) :
    Calls P f args.toArray w (fun e w' => ∃ H', OutR S e H' ∧ Hp C (H' ++ Rest) w') := by
  obtain ⟨F, h1, h2, h3⟩ := hp.own
  obtain ⟨F1, F2, rfl, hA, hB⟩ := h1.split
  have hn := List.nodup_append.1 h2
  refine (hc w F1 hA hn.1 (fun k hk => (h3 k (List.mem_append.2 (.inl hk))).1) ?_).mono ?_
  · intro q hq
    rcases hR.all q hq with ⟨i, hi⟩ | hm
    · refine ⟨hp.blk (i := A.length + i) (by rw [List.getElem?_append_right (by omega)]; simpa using hi), fun hm => ?_⟩
      exact hn.2.2 q.1 hm q.1 (hB.mem_blk hi) rfl
    · refine ⟨hp.old hm, fun hk => ?_⟩
      have hro := hp.ro q hm
      have hlt := lt_of_blk hro.1
      rcases (h3 q.1 (List.mem_append.2 (.inl hk))).2 with h4 | h4
      · omega
      · exact hro.2 h4
  · rintro e w' ⟨H', hS, hh⟩
    exact ⟨H', hS, hp.call hB h2 h3 hh⟩
theorem exec_callV {a : Act} {f : FuncId} {xs : List Operand} {ats : Array TypeId} {d : Option Tmp} {ty : TypeId} {p : String} {e : Array Edge} {g : Option (Nat × Bool)} {w : World} {vs : List Value} (he : entB P f = true) (hf : Fr C L a) (hx : evs L xs = some vs) :
    (execOp a.eval ⟨d, .call ⟨.value (.func f), xs.toArray, ats⟩, ty, p, e, g⟩).run P w = .ok (.enter f vs.toArray) w := by
  rw [exec_call _ _ _ _ _ _ _ _ _ _ he]
  have : xs.toArray.map a.eval = vs.toArray := by rw [List.map_toArray, evs_spec hf hx]
  rw [this]
section call
variable {f : FuncId} {xs : List Operand} {ats : Array TypeId} {d : Nat} {ty : TypeId} {p : String} {e : Array Edge} {g : Option (Nat × Bool)} {vs : List Value} {R : List (Nat × Obj)} {A Rest : List HA} {S : Out → Prop} {v : Value} {A' : List HA}
theorem WL.callS (he : entB P f = true) (hx : evs L xs = some vs) (hc : Does P f vs R A S) (hH : H = A ++ Rest) (hR : ROk C Rest R) (hw : wantB ops L ⟨some d, .call ⟨.value (.func f), xs.toArray, ats⟩, ty, p, e, g⟩ = some true) (hn : Nat.blt d C.n = true)
    (h : ∀ r H', S (.ret r H') → WL P ops Q C ((d, r) :: L) (H' ++ Rest) rest) (hpan : ∀ c H', S (.pan c H') → QX Q (.panic c) C L (H' ++ Rest)) : WL P ops Q C L H (⟨some d, .call ⟨.value (.func f), xs.toArray, ats⟩, ty, p, e, g⟩ :: rest) := by
  intro a w hf hp
  subst hH
  refine wpList_want' (wanted_of hf hw) ?_
  unfold Oper.wp
  rw [exec_callV he hf hx]
  simp only [Oper.upon]
  refine (call_at hc hp hR).mono ?_
  rintro en w' ⟨H', hS, hh⟩
  rcases hS with ⟨r, rfl, hS⟩ | ⟨c, rfl, hS⟩
  · exact h r H' hS _ _ (hf.put hn r) hh
  · exact hpan c H' hS _ _ hf hh
/-- A call that hands back one value. -/
theorem WL.call (he : entB P f = true) (hx : evs L xs = some vs) (hc : Does P f vs R A (Ret v A')) (hH : H = A ++ Rest) (hR : ROk C Rest R) (hw : wantB ops L ⟨some d, .call ⟨.value (.func f), xs.toArray, ats⟩, ty, p, e, g⟩ = some true) (hn : Nat.blt d C.n = true)
    (h : WL P ops Q C ((d, v) :: L) (A' ++ Rest) rest) : WL P ops Q C L H (⟨some d, .call ⟨.value (.func f), xs.toArray, ats⟩, ty, p, e, g⟩ :: rest) :=
  WL.callS he hx hc hH hR hw hn (fun r H' hS => by cases hS; exact h) (fun c H' hS => by cases hS)
/-- A call that only makes memory, by a contract of the elder form. -/
theorem Does.ofPure (h : Pure P f vs.toArray v) : Does P f vs [] [] (Ret v []) := fun w M hO hn _ _ => by
  have : M = [] := hO
  subst this
  refine (h w).mono ?_
  rintro en w' ⟨rfl, hb⟩
  exact ⟨[], .inl ⟨v, rfl, rfl⟩, (Hp.start 0 [] w (H := []) rfl hn (fun k hk => by cases hk) (fun p hp => by cases hp)).below hb⟩
theorem Does.pure (h : Does P f vs [] [] (Ret v [])) : Pure P f vs.toArray v := fun w => by
  refine (h w [] rfl List.nodup_nil (fun k hk => by cases hk) (fun p hp => by cases hp)).mono ?_
  rintro en w' ⟨H', hS, hh⟩
  rcases hS with ⟨r, rfl, hS⟩ | ⟨c, rfl, hS⟩
  · cases hS; exact ⟨rfl, hh.toBelow⟩
  · cases hS
theorem Does.weak {S' : Out → Prop} (h : Does P f vs R A S) (hs : ∀ o, S o → S' o) : Does P f vs R A S' := fun w M hO hn hl hr => (h w M hO hn hl hr).mono fun en w' ⟨H', hS, hh⟩ => ⟨H', by
    rcases hS with ⟨r, e1, hS⟩ | ⟨c, e1, hS⟩
    · exact .inl ⟨r, e1, hs _ hS⟩
    · exact .inr ⟨c, e1, hs _ hS⟩, hh⟩
end call
theorem WL.panic {x : Operand} {ty : TypeId} {p : String} {e : Array Edge} {g : Option (Nat × Bool)} {d : Option Tmp} {t : TypeId} {v : Value} (hx : ev L x = some (.iface t v)) (hw : wantB ops L ⟨d, .panic x, ty, p, e, g⟩ = some true)
    (h : QX Q (.panic [{ v := .iface t v, recovered := false }]) C L H) : WL P ops Q C L H (⟨d, .panic x, ty, p, e, g⟩ :: rest) := by
  intro a w hf hp
  refine wpList_want' (wanted_of hf hw) ?_
  unfold Oper.wp
  have : (execOp a.eval ⟨d, .panic x, ty, p, e, g⟩).run P w = .halt (.panic (.iface t v)) w := by
    simp [execOp, hf.ev hx, Instr.panic, goPanic]
  rw [this]
  exact h _ _ hf hp

/-! ### a function's start and end -/
def ResV (P : Program) (fn : Func) (C : Cx) (L : Sl) (H : List HA) (v : Value) : Prop := ∀ a w, Fr C L a → Hp C H w → (results fn a.tmps).run P w = .ok v w
/-- Where a panic leaves no slot counts. -/
def Stays (Q : Exit → Act → World → Prop) : Prop := ∀ c a d v w, Q (.panic c) (a.put d v) w → Q (.panic c) a w
structure Ends (P : Program) (fn : Func) (C : Cx) (S : Out → Prop) (Q : Exit → Act → World → Prop) : Prop where
  ret : ∀ {L : Sl} {H H' : List HA} {v : Value} (idx : List Nat), nodupB idx = true → sel H idx = H' → S (.ret v H') → ResV P fn C L H v → QX Q .ret C L H
  norm : ∀ {L : Sl} {H H' : List HA} {v : Value} (idx : List Nat), nodupB idx = true → sel H idx = H' → S (.ret v H') → ResV P fn C L H v → QX Q .normal C L H
  pan : ∀ {L : Sl} {H H' : List HA} {c : List PanicEntry} (idx : List Nat), nodupB idx = true → sel H idx = H' → S (.pan c H') → QX Q (.panic c) C L H
theorem QX.pick {e : Exit} (idx : List Nat) (hi : nodupB idx = true) {H' : List HA} (he : sel H idx = H') (h : QX Q e C L H') : QX Q e C L H := fun a w hf hp => h a w hf (he ▸ hp.pick idx hi)
theorem if_T {b : Bool} {A B : Prop} (h : if b = true then A else B) (hb : b = true) : A := by rw [if_pos hb] at h; exact h
theorem if_F {b : Bool} {A B : Prop} (h : if b = true then A else B) (hb : b = false) : B := by rw [if_neg (by simp [hb])] at h; exact h
theorem bT {b : Bool} {v : Bool} (hb : b = true) : Value.bool v = Value.bool (b && v) := by rw [hb]; rfl
theorem bF {b : Bool} {v : Bool} (hb : b = false) : Value.bool false = Value.bool (b && v) := by rw [hb]; rfl
theorem oT {b : Bool} {v : Bool} (hb : b = true) : Value.bool true = Value.bool (b || v) := by rw [hb]; rfl
theorem oF {b : Bool} {v : Bool} (hb : b = false) : Value.bool v = Value.bool (b || v) := by rw [hb]; rfl
theorem does_of_wc {f : FuncId} {fn : Func} {c : Code} {args : List Value} {R : List (Nat × Obj)} {A : List HA} {S : Out → Prop} {L0 : Sl} {n : Nat} (hf : P.funcs[f]? = some fn) (hb : fn.body = some c) (hnt : fn.ntmps = n) (hl : Nat.ble args.length n = true)
    (hL : (List.range args.length).zip args = L0)
    (h : ∀ w0 M Q, Ends P fn ⟨n, [], w0, M, R⟩ S Q → WC P c Q ⟨n, [], w0, M, R⟩ L0 A) : Does P f args R A S := by
  intro w M hO hn hlt hR
  subst hnt
  have hle : args.length ≤ fn.ntmps := Nat.le_of_ble_eq_true hl
  refine calls_of_wp hf hb ?_
  refine h w M _ ?_ _ _ ⟨rfl, ?_, ?_⟩ (Hp.start _ _ w hO hn hlt hR)
  · refine ⟨fun idx hi he hS hr a w' hfr hp => ?_, fun idx hi he hS hr a w' hfr hp => ?_, fun idx hi he hS a w' hfr hp => ?_⟩
    · exact ⟨hfr.defers, _, hr a w' hfr hp, _, .inl ⟨_, rfl, hS⟩, he ▸ (hp.pick idx hi).ctx⟩
    · exact ⟨hfr.defers, _, hr a w' hfr hp, _, .inl ⟨_, rfl, hS⟩, he ▸ (hp.pick idx hi).ctx⟩
    · exact ⟨hfr.defers, _, .inr ⟨_, rfl, hS⟩, he ▸ (hp.pick idx hi).ctx⟩
  · simp; omega
  · intro i v hg
    subst hL
    have hm := Sl.get_mem hg
    obtain ⟨j, hj⟩ := List.mem_iff_getElem?.1 hm
    rw [List.getElem?_zip_eq_some] at hj
    obtain ⟨h1, h2⟩ := hj
    have hij : j = i := by
      have h3 := (List.getElem?_eq_some_iff.1 h1)
      obtain ⟨h4, h5⟩ := h3
      simp at h5; exact h5
    subst hij
    have hjl : j < args.length := (List.getElem?_eq_some_iff.1 h2).1
    simp only [List.size_toArray]
    rw [Array.getElem?_append_left (by simpa using hjl)]
    simpa using h2
section res
variable {fn : Func}
theorem ResV.none (hr : fn.results = #[]) : ResV P fn C L H (.tuple #[]) := fun _ _ _ _ => results_none hr _ _ _
theorem ResV.one {t : Tmp} {v : Value} (hr : fn.results = #[.tmp t]) (ht : L.get t = some v) : ResV P fn C L H v := fun a w hf _ => by
  have := results_tmp hr a.tmps P w
  simpa [Array.getD_eq_getD_getElem?, hf.get _ _ ht] using this
theorem ResV.two {t t' : Tmp} {v v' : Value} (hr : fn.results = #[.tmp t, .tmp t']) (ht : L.get t = some v) (ht' : L.get t' = some v') : ResV P fn C L H (.tuple #[v, v']) := fun a w hf _ => by
  have := results_tmp2 hr a.tmps P w
  simpa [Array.getD_eq_getD_getElem?, hf.get _ _ ht, hf.get _ _ ht'] using this
def resRun (tmps : Array Value) (r : ResultVar) : Sem Value := match r with
  | .tmp t => pure (tmps.getD t undef)
  | .cell q t => do loadVar t (← asAddr (tmps.getD q undef))
theorem results_eq (fn : Func) (tmps : Array Value) : results fn tmps = (do let vs ← fn.results.mapM (resRun tmps); pure (if h : vs.size = 1 then vs[0] else .tuple vs)) := rfl
/-- One result variable: what it holds. -/
def RV (P : Program) (C : Cx) (L : Sl) (H : List HA) (r : ResultVar) (v : Value) : Prop := ∀ a w, Fr C L a → Hp C H w → (resRun a.tmps r).run P w = .ok v w
theorem RV.tmp {t : Tmp} {v : Value} (ht : L.get t = some v) : RV P C L H (.tmp t) v := fun a w hf _ => by
  simp [resRun, Array.getD_eq_getD_getElem?, hf.get _ _ ht]
theorem RV.row {q : Tmp} {t T : TypeId} {b : Nat} {cs : List Value} {fr : Nat × Nat} (hq : L.get q = some (.pointer (some ⟨b, 0, none⟩))) (hb : At C H b (.cells cs.toArray T fr)) (ht : RowT P t cs.length) : RV P C L H (.cell q t) (.agg cs.toArray) := fun a w hf hp => by
  have h1 : (loadVar t ⟨b, 0, none⟩).run P w = .ok (.agg cs.toArray) w := run_loadT (hb w hp) (by simpa using ht)
  simp [resRun, Array.getD_eq_getD_getElem?, hf.get _ _ hq, asAddr, h1]
theorem RV.cell {q : Tmp} {t T : TypeId} {b : Nat} {cs : List Value} {v : Value} {fr : Nat × Nat} (hq : L.get q = some (.pointer (some ⟨b, 0, none⟩))) (hb : At C H b (.cells cs.toArray T fr)) (hc : cs[0]? = some v) (ht : scalB P t = true) : RV P C L H (.cell q t) v := fun a w hf hp => by
  have hcell : w.cell? ⟨b, 0, none⟩ = some v := by simp [World.cell?, hb w hp, hc]
  have h1 : (loadVar t ⟨b, 0, none⟩).run P w = .ok v w := by simp [loadVar, run_isAgg_no ht, hcell]
  simp [resRun, Array.getD_eq_getD_getElem?, hf.get _ _ hq, asAddr, h1]
theorem ResV.of1 {r : ResultVar} {v : Value} (hr : fn.results = #[r]) (h0 : RV P C L H r v) : ResV P fn C L H v := fun a w hf hp => by
  rw [results_eq, hr]
  simp [h0 a w hf hp]
theorem ResV.of2 {r s : ResultVar} {v u : Value} (hr : fn.results = #[r, s]) (h0 : RV P C L H r v) (h1 : RV P C L H s u) : ResV P fn C L H (.tuple #[v, u]) := fun a w hf hp => by
  rw [results_eq, hr]
  simp [h0 a w hf hp, h1 a w hf hp]
theorem ResV.of3 {r s q : ResultVar} {v u x : Value} (hr : fn.results = #[r, s, q]) (h0 : RV P C L H r v) (h1 : RV P C L H s u) (h2 : RV P C L H q x) : ResV P fn C L H (.tuple #[v, u, x]) := fun a w hf hp => by
  rw [results_eq, hr]
  simp [h0 a w hf hp, h1 a w hf hp, h2 a w hf hp]
theorem ResV.of4 {r s q z : ResultVar} {v u x y : Value} (hr : fn.results = #[r, s, q, z]) (h0 : RV P C L H r v) (h1 : RV P C L H s u) (h2 : RV P C L H q x) (h3 : RV P C L H z y) : ResV P fn C L H (.tuple #[v, u, x, y]) := fun a w hf hp => by
  rw [results_eq, hr]
  simp [h0 a w hf hp, h1 a w hf hp, h2 a w hf hp, h3 a w hf hp]
end res
end Go.Proofs.YtlfolgbaageknaaDoor
