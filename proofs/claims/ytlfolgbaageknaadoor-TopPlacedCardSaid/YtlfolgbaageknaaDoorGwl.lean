/-
  The calculus of walks: slices that are lent: read alone.
-/
import Derived.Test.YtlfolgbaageknaaDoorGwb
namespace Go.Proofs.YtlfolgbaageknaaDoor
open Go Go.RowKit

variable {P : Program} {ops : Array Oper} {Q : Exit → Act → World → Prop} {C : Cx} {L : Sl} {H : List HA} {rest : List Oper} {w : World}

def offOf (v : Value) : Nat := match v with
  | .slice (some a) _ _ => a.off
  | _ => 0
/-- The slice v has n elements whose cells are xs; the blocks R hold them. -/
def InSl (v : Value) (R : List (Nat × Obj)) (n : Nat) (xs : List Value) : Prop :=
  (n = 0 ∧ xs = [] ∧ (∃ a c, v = .slice a 0 c) ∧ R = []) ∨
  ∃ b off cap, ∃ cs : List Value, ∃ T fr, v = .slice (some ⟨b, off, none⟩) n cap ∧ R = [(b, .cells cs.toArray T fr)] ∧ (cs.drop off).take xs.length = xs
def LIn (C : Cx) (v : Value) (n : Nat) (xs : List Value) : Prop := ∃ R, InSl v R n xs ∧ ∀ p ∈ R, p ∈ C.R
theorem LIn.mk {v : Value} {R : List (Nat × Obj)} {n : Nat} {xs : List Value} (h : InSl v R n xs) (hR : ∀ p ∈ R, p ∈ C.R) : LIn C v n xs := ⟨R, h, hR⟩
section ov
variable {x y : Operand} {t e' ty : TypeId} {d : Option Tmp} {p : String} {e : Array Edge} {g : Option (Nat × Bool)} {v : Value} {k : IntKind} {sz n : Nat} {xs : List Value} {α : Type} [Inhabited α] {f : α → List Value} {l : List α}
theorem OV.lenIn (h : LIn C v n xs) (hx : ev L x = some v) (ht : slB P t e' sz = true) : OV P C L H ⟨d, .call ⟨.builtin .len, #[x], #[t]⟩, ty, p, e, g⟩ (.int .i64 (n : Int)) := by
  obtain ⟨R, hi, _⟩ := h
  rcases hi with ⟨rfl, _, ⟨a, c, rfl⟩, _⟩ | ⟨b, off, cap, cs, T, fr, rfl, _⟩ <;> exact OV.lenS hx ht
theorem OV.indexIn (h : LIn C v n xs) {j : Int} (hx : ev L x = some v) (hy : ev L y = some (.int k j)) (ht : slB P t e' sz = true) (hb : 0 ≤ j ∧ j < n) : OV P C L H ⟨d, .indexAddr t x y, ty, p, e, g⟩ (.pointer (some ⟨blkOf v, offOf v + j.toNat * sz, none⟩)) := by
  obtain ⟨R, hi, _⟩ := h
  rcases hi with ⟨rfl, _⟩ | ⟨b, off, cap, cs, T, fr, rfl, _⟩
  · omega
  · exact OV.indexSl hx hy ht hb rfl
theorem LIn.at (h : LIn C v n xs) (hne : xs ≠ []) : ∃ b off, ∃ cs : List Value, ∃ T fr, blkOf v = b ∧ offOf v = off ∧ At C H b (.cells cs.toArray T fr) ∧ (cs.drop off).take xs.length = xs := by
  obtain ⟨R, hi, hR⟩ := h
  rcases hi with ⟨_, h0, _⟩ | ⟨b, off, cap, cs, T, fr, rfl, rfl, hc⟩
  · exact absurd h0 hne
  · exact ⟨b, off, cs, T, fr, rfl, rfl, At.old (hR _ (by simp)), hc⟩
theorem OV.loadIn1 (h : LIn C v n xs) {off : Nat} {u : Value} (hx : ev L x = some (.pointer (some ⟨blkOf v, offOf v + off, none⟩))) (hc : xs[off]? = some u) (ht : scalB P t = true) : OV P C L H ⟨d, .load t x, ty, p, e, g⟩ u := by
  obtain ⟨b, o, cs, T, fr, hb, ho, hA, hcs⟩ := h.at (H := H) (fun h => by subst h; simp at hc)
  rw [hb, ho] at hx
  refine OV.load hx hA ?_ ht
  have hlt : off < xs.length := (List.getElem?_eq_some_iff.1 hc).1
  rw [← hcs, List.getElem?_take, if_pos hlt, List.getElem?_drop] at hc
  exact hc
theorem OV.loadInM (h : LIn C v n xs) {off : Nat} {vs : List Value} (hx : ev L x = some (.pointer (some ⟨blkOf v, offOf v + off, none⟩))) (hv : (xs.drop off).take vs.length = vs) (hne : vs ≠ []) (ht : RowT P t vs.length) : OV P C L H ⟨d, .load t x, ty, p, e, g⟩ (.agg vs.toArray) := by
  obtain ⟨b, o, cs, T, fr, hb, ho, hA, hcs⟩ := h.at (H := H) (fun h => by subst h; simp at hv; exact hne hv)
  rw [hb, ho] at hx
  refine OV.loadM hx hA ?_ ht
  have hle : vs.length ≤ xs.length - off := by
    have := congrArg List.length hv
    rw [List.length_take, List.length_drop] at this; omega
  generalize xs.length = N at hcs hle
  rw [← hcs, List.drop_take, List.take_take, Nat.min_eq_left hle, List.drop_drop] at hv
  exact hv
theorem OV.loadInE (h : LIn C v l.length (l.flatMap f)) {j : Nat} (hx : ev L x = some (.pointer (some ⟨blkOf v, offOf v + j * sz, none⟩))) (hf' : ∀ x, (f x).length = sz) (h0 : 0 < sz) (hj : j < l.length) (ht : RowT P t sz) : OV P C L H ⟨d, .load t x, ty, p, e, g⟩ (.agg (f (l.getD j default)).toArray) :=
  OV.loadInM h hx (by rw [hf']; exact flat_at hf' hj) (fun h => by have := hf' (l.getD j default); rw [h, List.length_nil] at this; omega) (by rw [hf']; exact ht)
theorem OV.loadInEF (h : LIn C v l.length (l.flatMap f)) {j o : Nat} {u : Value} (hx : ev L x = some (.pointer (some ⟨blkOf v, offOf v + j * sz + o, none⟩))) (hf' : ∀ x, (f x).length = sz) (hj : j < l.length) (hu : (f (l.getD j default))[o]? = some u) (ht : scalB P t = true) : OV P C L H ⟨d, .load t x, ty, p, e, g⟩ u :=
  OV.loadIn1 h (off := j * sz + o) (by rw [← Nat.add_assoc]; exact hx) (flat_get hf' hj hu) ht
theorem OV.loadInE1 (h : LIn C v l.length (l.flatMap f)) {j : Nat} {u : Value} (hx : ev L x = some (.pointer (some ⟨blkOf v, offOf v + j * 1, none⟩))) (hf' : ∀ x, (f x).length = 1) (hj : j < l.length) (hu : (f (l.getD j default))[0]? = some u) (ht : scalB P t = true) : OV P C L H ⟨d, .load t x, ty, p, e, g⟩ u :=
  OV.loadIn1 h hx (by have := flat_get hf' hj hu; simpa using this) ht
end ov

/-! ### a lent slice handed on; an owned slice lent -/
def LOk (C : Cx) (Rest : List HA) (v : Value) (n : Nat) (xs : List Value) : Prop := ∀ w F, Own w Rest F → ∃ R, InSl v R n xs ∧ ∀ p ∈ R, (w.heap[p.1]? = some p.2 ∧ p.1 ∈ F) ∨ p ∈ C.R
theorem LOk.inn {Rest : List HA} {v : Value} {n : Nat} {xs : List Value} (h : LIn C v n xs) : LOk C Rest v n xs := fun _ _ _ => by
  obtain ⟨R, h1, h2⟩ := h
  exact ⟨R, h1, fun p hp => .inr (h2 p hp)⟩
theorem Own.mem_row {w : World} : ∀ {H : List HA} {F : List Nat}, Own w H F → ∀ {i : Nat} {v : Value} {T sz n : Nat} {xs : List Value}, H[i]? = some (.row v T sz n xs) → w.ownsRow 0 T sz v n xs ∧ ∀ k, v.ownBlock = some k → k ∈ F
  | [], _, _, i, _, _, _, _, _, h => by simp at h
  | x :: H, F, ⟨F1, F2, hF, h1, h2⟩, i, v, T, sz, n, xs, h => by
    cases i with
    | zero =>
      simp at h
      subst h
      exact ⟨h1.2, fun k hk => by rw [hF, h1.1, hk]; simp⟩
    | succ i =>
      have := h2.mem_row (i := i) (by simpa using h)
      exact ⟨this.1, fun k hk => by rw [hF]; exact List.mem_append.2 (.inr (this.2 k hk))⟩
def slTo (v : Value) (m : Nat) : Value := match v with
  | .slice a _ c => .slice a m c
  | v => v
theorem LOk.pre {Rest : List HA} {v : Value} {T sz n m : Nat} {xs : List Value} (i : Nat) (hi : Rest[i]? = some (.row v T sz n xs)) (hm : m ≤ n) : LOk C Rest (slTo v m) m (xs.take (m * sz)) := fun w F hO => by
  obtain ⟨⟨hl, hr⟩, hmem⟩ := hO.mem_row hi
  rcases hr with ⟨rfl, rfl⟩ | ⟨b, cap, cur, rfl, _, hb, hn, hcm, hcs, htk⟩
  · have h0 : m = 0 := by omega
    subst h0
    exact ⟨[], .inl ⟨rfl, by simp, ⟨none, 0, rfl⟩, rfl⟩, fun p hp => by cases hp⟩
  · refine ⟨[(b, .cells cur T (0, 0))], .inr ⟨b, 0, cap, cur.toList, T, (0, 0), rfl, by simp, ?_⟩, fun p hp => ?_⟩
    · rw [List.drop_zero, ← htk, List.take_take, List.length_take, Array.length_toList]
      have h1 : m * sz ≤ n * sz := Nat.mul_le_mul_right _ hm
      have h2 : n * sz ≤ cur.size := by rw [hcs]; exact Nat.mul_le_mul_right _ hn
      rw [Nat.min_eq_left h1, Nat.min_eq_left (by omega)]
    · rw [List.mem_singleton.1 hp]
      exact .inl ⟨hb, hmem b rfl⟩
theorem LOk.row {Rest : List HA} {v : Value} {T sz n : Nat} {xs : List Value} (i : Nat) (hi : Rest[i]? = some (.row v T sz n xs)) : LOk C Rest v n xs := fun w F hO => by
  obtain ⟨⟨hl, hr⟩, _⟩ := hO.mem_row hi
  obtain ⟨R, h1, h2⟩ := LOk.pre (C := C) i hi (Nat.le_refl n) w F hO
  have : slTo v n = v := by rcases hr with ⟨rfl, rfl⟩ | ⟨b, cap, cur, rfl, _⟩ <;> rfl
  rw [this, ← hl, List.take_length] at h1
  exact ⟨R, h1, h2⟩
theorem LOk.preE {Rest : List HA} {v : Value} {T sz m : Nat} {α : Type} {f : α → List Value} {l : List α} (i : Nat) (hi : Rest[i]? = some (.row v T sz l.length (l.flatMap f))) (hf' : ∀ x, (f x).length = sz) (hm : m ≤ l.length) : LOk C Rest (slTo v m) (l.take m).length ((l.take m).flatMap f) := by
  have h := LOk.pre (C := C) i hi hm
  have h1 : (l.flatMap f).take (m * sz) = (l.take m).flatMap f := by
    have h2 : l.flatMap f = (l.take m).flatMap f ++ (l.drop m).flatMap f := by rw [← List.flatMap_append, List.take_append_drop]
    rw [h2, List.take_left' (by rw [flat_len hf', List.length_take, Nat.min_eq_left hm])]
  rw [h1] at h
  rw [List.length_take, Nat.min_eq_left hm]; exact h
theorem call_at2 {f : FuncId} {args : List Value} {R : List (Nat × Obj)} {A Rest : List HA} {S : Out → Prop} {w : World} (hc : Does P f args R A S) {F1 F2 : List Nat} (hA : Own w A F1) (hB : Own w Rest F2) (h2 : (F1 ++ F2).Nodup)
    (h3 : ∀ k ∈ F1 ++ F2, k < w.heap.size ∧ (C.w0.heap.size ≤ k ∨ k ∈ C.M)) (hp : Hp C (A ++ Rest) w) (hR : ∀ p ∈ R, (w.heap[p.1]? = some p.2 ∧ p.1 ∈ F2) ∨ p ∈ C.R) :
    Calls P f args.toArray w (fun e w' => ∃ H', OutR S e H' ∧ Hp C (H' ++ Rest) w') := by
  have hn := List.nodup_append.1 h2
  refine (hc w F1 hA hn.1 (fun k hk => (h3 k (List.mem_append.2 (.inl hk))).1) ?_).mono ?_
  · intro q hq
    rcases hR q hq with ⟨hi, hm⟩ | hm
    · exact ⟨hi, fun hk => hn.2.2 q.1 hk q.1 hm rfl⟩
    · refine ⟨hp.old hm, fun hk => ?_⟩
      have hro := hp.ro q hm
      have hlt := lt_of_blk hro.1
      rcases (h3 q.1 (List.mem_append.2 (.inl hk))).2 with h4 | h4
      · omega
      · exact hro.2 h4
  · rintro e w' ⟨H', hS, hh⟩
    exact ⟨H', hS, hp.call hB h2 h3 hh⟩
theorem ROk.mem {Rest : List HA} {w : World} {F : List Nat} (hO : Own w Rest F) (hh : ∀ (i : Nat) (x : HA), Rest[i]? = some x → ∃ f, x.at w f) {R : List (Nat × Obj)} (h : ROk C Rest R) : ∀ p ∈ R, (w.heap[p.1]? = some p.2 ∧ p.1 ∈ F) ∨ p ∈ C.R := fun p hp => by
  rcases h.all p hp with ⟨i, hi⟩ | hm
  · obtain ⟨f, hf⟩ := hh i _ hi
    exact .inl ⟨hf.2, hO.mem_blk hi⟩
  · exact .inr hm
theorem Own.each {w : World} : ∀ {H : List HA} {F : List Nat}, Own w H F → ∀ (i : Nat) (x : HA), H[i]? = some x → ∃ f, x.at w f
  | [], _, _, i, x, h => by simp at h
  | y :: H, _, ⟨F1, F2, _, h1, h2⟩, i, x, h => by
    cases i with
    | zero => simp at h; subst h; exact ⟨F1, h1⟩
    | succ i => exact h2.each i x (by simpa using h)
section call
variable {f : FuncId} {xs : List Operand} {ats : Array TypeId} {d : Nat} {ty : TypeId} {p : String} {e : Array Edge} {g : Option (Nat × Bool)} {vs : List Value} {R0 : List (Nat × Obj)} {A Rest : List HA} {S : Out → Prop} {v : Value} {A' : List HA} {v1 v2 : Value} {n1 n2 : Nat} {xs1 xs2 : List Value}
theorem WL.callS1 (he : entB P f = true) (hx : evs L xs = some vs) (hc : ∀ R1, InSl v1 R1 n1 xs1 → Does P f vs (R1 ++ R0) A S) (hH : H = A ++ Rest) (hL : LOk C Rest v1 n1 xs1) (hR : ROk C Rest R0) (hw : wantB ops L ⟨some d, .call ⟨.value (.func f), xs.toArray, ats⟩, ty, p, e, g⟩ = some true) (hn : Nat.blt d C.n = true)
    (h : ∀ r H', S (.ret r H') → WL P ops Q C ((d, r) :: L) (H' ++ Rest) rest) (hpan : ∀ c H', S (.pan c H') → QX Q (.panic c) C L (H' ++ Rest)) : WL P ops Q C L H (⟨some d, .call ⟨.value (.func f), xs.toArray, ats⟩, ty, p, e, g⟩ :: rest) := by
  intro a w hf hp
  subst hH
  refine wpList_want' (wanted_of hf hw) ?_
  unfold Oper.wp
  rw [exec_callV he hf hx]
  simp only [Oper.upon]
  obtain ⟨F, h1, h2, h3⟩ := hp.own
  obtain ⟨F1, F2, rfl, hA, hB⟩ := h1.split
  obtain ⟨R1, k1, k2⟩ := hL w F2 hB
  refine (call_at2 (hc R1 k1) hA hB h2 h3 hp (fun p hp => ?_)).mono ?_
  · rcases List.mem_append.1 hp with hp | hp
    · exact k2 p hp
    · exact hR.mem hB hB.each p hp
  rintro en w' ⟨H', hS, hh⟩
  rcases hS with ⟨r, rfl, hS⟩ | ⟨c, rfl, hS⟩
  · exact h r H' hS _ _ (hf.put hn r) hh
  · exact hpan c H' hS _ _ hf hh
theorem WL.callS2 (he : entB P f = true) (hx : evs L xs = some vs) (hc : ∀ R1, InSl v1 R1 n1 xs1 → ∀ R2, InSl v2 R2 n2 xs2 → Does P f vs (R1 ++ (R2 ++ R0)) A S) (hH : H = A ++ Rest) (hL : LOk C Rest v1 n1 xs1) (hL2 : LOk C Rest v2 n2 xs2) (hR : ROk C Rest R0) (hw : wantB ops L ⟨some d, .call ⟨.value (.func f), xs.toArray, ats⟩, ty, p, e, g⟩ = some true) (hn : Nat.blt d C.n = true)
    (h : ∀ r H', S (.ret r H') → WL P ops Q C ((d, r) :: L) (H' ++ Rest) rest) (hpan : ∀ c H', S (.pan c H') → QX Q (.panic c) C L (H' ++ Rest)) : WL P ops Q C L H (⟨some d, .call ⟨.value (.func f), xs.toArray, ats⟩, ty, p, e, g⟩ :: rest) := by
  intro a w hf hp
  subst hH
  refine wpList_want' (wanted_of hf hw) ?_
  unfold Oper.wp
  rw [exec_callV he hf hx]
  simp only [Oper.upon]
  obtain ⟨F, h1, h2, h3⟩ := hp.own
  obtain ⟨F1, F2, rfl, hA, hB⟩ := h1.split
  obtain ⟨R1, k1, k2⟩ := hL w F2 hB
  obtain ⟨R2, j1, j2⟩ := hL2 w F2 hB
  refine (call_at2 (hc R1 k1 R2 j1) hA hB h2 h3 hp (fun p hp => ?_)).mono ?_
  · rcases List.mem_append.1 hp with hp | hp
    · exact k2 p hp
    · rcases List.mem_append.1 hp with hp | hp
      · exact j2 p hp
      · exact hR.mem hB hB.each p hp
  rintro en w' ⟨H', hS, hh⟩
  rcases hS with ⟨r, rfl, hS⟩ | ⟨c, rfl, hS⟩
  · exact h r H' hS _ _ (hf.put hn r) hh
  · exact hpan c H' hS _ _ hf hh
theorem WL.call1 (he : entB P f = true) (hx : evs L xs = some vs) (hc : ∀ R1, InSl v1 R1 n1 xs1 → Does P f vs (R1 ++ R0) A (Ret v A')) (hH : H = A ++ Rest) (hL : LOk C Rest v1 n1 xs1) (hR : ROk C Rest R0) (hw : wantB ops L ⟨some d, .call ⟨.value (.func f), xs.toArray, ats⟩, ty, p, e, g⟩ = some true) (hn : Nat.blt d C.n = true)
    (h : WL P ops Q C ((d, v) :: L) (A' ++ Rest) rest) : WL P ops Q C L H (⟨some d, .call ⟨.value (.func f), xs.toArray, ats⟩, ty, p, e, g⟩ :: rest) :=
  WL.callS1 he hx hc hH hL hR hw hn (fun r H' hS => by cases hS; exact h) (fun c H' hS => by cases hS)
theorem WL.call2 (he : entB P f = true) (hx : evs L xs = some vs) (hc : ∀ R1, InSl v1 R1 n1 xs1 → ∀ R2, InSl v2 R2 n2 xs2 → Does P f vs (R1 ++ (R2 ++ R0)) A (Ret v A')) (hH : H = A ++ Rest) (hL : LOk C Rest v1 n1 xs1) (hL2 : LOk C Rest v2 n2 xs2) (hR : ROk C Rest R0) (hw : wantB ops L ⟨some d, .call ⟨.value (.func f), xs.toArray, ats⟩, ty, p, e, g⟩ = some true) (hn : Nat.blt d C.n = true)
    (h : WL P ops Q C ((d, v) :: L) (A' ++ Rest) rest) : WL P ops Q C L H (⟨some d, .call ⟨.value (.func f), xs.toArray, ats⟩, ty, p, e, g⟩ :: rest) :=
  WL.callS2 he hx hc hH hL hL2 hR hw hn (fun r H' hS => by cases hS; exact h) (fun c H' hS => by cases hS)
end call
/-- The first h elements of an owned slice. -/
theorem elem_of {P : Program} {t e : TypeId} (h : P.underlying t = some (.slice e)) : P.underlying t = some (.slice (P.elem t)) := by
  have : P.elem t = e := by simp [Program.elem, h]
  rw [this]; exact h
theorem OV.sliceTo {x y : Operand} {t e' ty T : TypeId} {d : Option Tmp} {p : String} {e : Array Edge} {g : Option (Nat × Bool)} {v : Value} {k : IntKind} {sz n : Nat} {xs : List Value} (i : Nat) {h : Int} (hx : ev L x = some v) (hy : ev L y = some (.int k h)) (hi : H[i]? = some (.row v T sz n xs)) (ht : slB P t e' sz = true) (hb : 0 ≤ h ∧ h ≤ n) :
    OV P C L H ⟨d, .slice t x none (some y) none, ty, p, e, g⟩ (slTo v h.toNat) := fun a w hf hp => by
  have he := elem_of (slB_spec ht).1
  have hs : (sizeOf (P.elem t)).run P w = .ok sz w := by
    have h1 := (slB_spec ht).2
    have h2 : P.elem t = e' := by simp [Program.elem, (slB_spec ht).1]
    rw [h2]; exact run_size h1 w
  rcases (hp.row hi).2 with ⟨rfl, rfl⟩ | ⟨b, cap, cur, rfl, _, hbk, hn, _⟩
  · have h0 : h = 0 := by omega
    subst h0
    have hr := run_slice_h (P := P) (w := w) t none 0 0 he k 0 (by omega) (by omega)
    simp only [execOp, Option.map_some, Option.map_none, hf.ev hx, hf.ev hy, Sem.run_bind, run_sliceAt_slice (P := P) w t _ _ _ _ he, hr, hs, Result.andThen_ok, Sem.run_pure]
    rfl
  · have hr := run_slice_h (P := P) (w := w) t (some ⟨b, 0, none⟩) n cap he k h hb.1 (by omega)
    simp only [execOp, Option.map_some, Option.map_none, hf.ev hx, hf.ev hy, Sem.run_bind, run_sliceAt_slice (P := P) w t _ _ _ _ he, hr, hs, Result.andThen_ok, Sem.run_pure]
    simp [sliced, slTo, Addr.add]
/-- A slice of an owned slice, from an element on up to another. -/
def slSub (v : Value) (sz lo hi : Nat) : Value := match v with
  | .slice a _ c => .slice (if c = lo then a else a.map (·.add (lo * sz))) (hi - lo) (c - lo)
  | v => v
theorem OV.sliceSub {x y z : Operand} {t e' ty T : TypeId} {d : Option Tmp} {p : String} {e : Array Edge} {g : Option (Nat × Bool)} {v : Value} {k k' : IntKind} {sz n : Nat} {xs : List Value} (i : Nat) {lo hi : Int} (hx : ev L x = some v) (hy : ev L y = some (.int k lo)) (hz : ev L z = some (.int k' hi)) (hi' : H[i]? = some (.row v T sz n xs)) (ht : slB P t e' sz = true) (hb : 0 ≤ lo ∧ lo ≤ hi ∧ hi ≤ n) :
    OV P C L H ⟨d, .slice t x (some y) (some z) none, ty, p, e, g⟩ (slSub v sz lo.toNat hi.toNat) := fun a w hf hp => by
  have he := elem_of (slB_spec ht).1
  have hs : (sizeOf (P.elem t)).run P w = .ok sz w := by
    have h1 := (slB_spec ht).2
    have h2 : P.elem t = e' := by simp [Program.elem, (slB_spec ht).1]
    rw [h2]; exact run_size h1 w
  have key : ∀ (a0 : Option Addr) (c : Nat), n ≤ c → v = .slice a0 n c → (execOp a.eval ⟨d, .slice t x (some y) (some z) none, ty, p, e, g⟩).run P w = .ok (.value (slSub v sz lo.toNat hi.toNat)) w := fun a0 c hc hv => by
    subst hv
    have hr := run_slice_lh (P := P) (w := w) t a0 n c he k k' lo hi hb.1 hb.2.1 (by omega)
    simp only [execOp, Option.map_some, Option.map_none, hf.ev hx, hf.ev hy, hf.ev hz, Sem.run_bind, run_sliceAt_slice (P := P) w t _ _ _ _ he, hr, hs, Result.andThen_ok, Sem.run_pure]
    rfl
  rcases (hp.row hi').2 with ⟨rfl, rfl⟩ | ⟨b, cap, cur, rfl, _, hbk, hn, _⟩
  · exact key none 0 (Nat.le_refl _) rfl
  · exact key _ cap hn rfl
theorem LOk.sub {Rest : List HA} {v : Value} {T sz lo hi : Nat} {α : Type} {f : α → List Value} {l : List α} (i : Nat) (hi' : Rest[i]? = some (.row v T sz l.length (l.flatMap f))) (hf' : ∀ x, (f x).length = sz) (hb : lo ≤ hi ∧ hi ≤ l.length) : LOk C Rest (slSub v sz lo hi) ((l.drop lo).take (hi - lo)).length (((l.drop lo).take (hi - lo)).flatMap f) := fun w F hO => by
  obtain ⟨⟨hl, hr⟩, hmem⟩ := hO.mem_row hi'
  have hlen : ((l.drop lo).take (hi - lo)).length = hi - lo := by rw [List.length_take, List.length_drop]; omega
  rw [hlen]
  rcases hr with ⟨rfl, h0⟩ | ⟨b, cap, cur, rfl, _, hb', hn, hcm, hcs, htk⟩
  · have hlo : hi - lo = 0 := by omega
    have : (l.drop lo).take (hi - lo) = [] := by rw [hlo]; rfl
    rw [this, hlo]
    refine ⟨[], .inl ⟨rfl, rfl, ⟨if 0 = lo then none else none, 0 - lo, ?_⟩, rfl⟩, fun p hp => by cases hp⟩
    dsimp only [slSub]; rw [hlo]; rfl
  · by_cases hz : hi - lo = 0
    · have : (l.drop lo).take (hi - lo) = [] := by rw [hz]; rfl
      rw [this, hz]
      refine ⟨[], .inl ⟨rfl, rfl, ⟨if cap = lo then some ⟨b, 0, none⟩ else some ((⟨b, 0, none⟩ : Addr).add (lo * sz)), cap - lo, ?_⟩, rfl⟩, fun p hp => by cases hp⟩
      dsimp only [slSub]; rw [hz]; rfl
    · refine ⟨[(b, .cells cur T (0, 0))], .inr ⟨b, lo * sz, cap - lo, cur.toList, T, (0, 0), ?_, by simp, ?_⟩, fun p hp => ?_⟩
      · dsimp only [slSub]
        rw [if_neg (by omega)]
        simp [Addr.add_mid]
      · rw [flat_len hf', hlen]
        have h1 : ((cur.toList.drop (lo * sz)).take ((hi - lo) * sz)) = (((cur.toList.take (l.length * sz)).drop (lo * sz)).take ((hi - lo) * sz)) := by
          rw [List.drop_take, List.take_take, Nat.min_eq_left]
          rw [← Nat.sub_mul]
          exact Nat.mul_le_mul_right _ (by omega)
        rw [h1, htk, flat_drop hf']
        have h2 : ∀ (m : List α) (q : Nat), q ≤ m.length → (m.flatMap f).take (q * sz) = (m.take q).flatMap f := fun m q hq => by
          have h3 : m.flatMap f = (m.take q).flatMap f ++ (m.drop q).flatMap f := by rw [← List.flatMap_append, List.take_append_drop]
          rw [h3, List.take_left' (by rw [flat_len hf', List.length_take, Nat.min_eq_left hq])]
        exact h2 _ _ (by rw [List.length_drop]; omega)
      · rw [List.mem_singleton.1 hp]
        exact .inl ⟨hb', hmem b rfl⟩
end Go.Proofs.YtlfolgbaageknaaDoor
