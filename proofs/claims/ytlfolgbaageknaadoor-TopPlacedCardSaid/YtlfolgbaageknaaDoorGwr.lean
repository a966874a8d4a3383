/-
  The calculus of walks: slices that the call owns, as lists of plain data.
-/
import Derived.Test.YtlfolgbaageknaaDoorGwg
import Derived.Deep.DeepAppendWide
import Derived.Laws.OwnMore
namespace Go.Proofs.YtlfolgbaageknaaDoor
open Go Go.RowKit

variable {P : Program} {ops : Array Oper} {Q : Exit → Act → World → Prop} {C : Cx} {L : Sl} {H : List HA} {rest : List Oper} {o : Oper} {w : World}

/-- The block of a slice value. -/
def blkOf : Value → Nat
  | .slice (some a) _ _ => a.block
  | _ => 0

/-! ### an entry is put in the place of another -/
theorem nodup_set : ∀ {Fs : List (List Nat)} {i : Nat} {F F' : List Nat}, Fs.flatten.Nodup → Fs[i]? = some F → F'.Nodup → (∀ k ∈ F', k ∈ F ∨ ∀ G ∈ Fs, k ∉ G) → (Fs.set i F').flatten.Nodup
  | [], i, F, F', _, h, _, _ => by simp at h
  | G :: Fs, 0, F, F', hn, h, hF, hk => by
    simp at h
    subst h
    rw [List.flatten_cons, List.nodup_append] at hn
    rw [List.set_cons_zero, List.flatten_cons, List.nodup_append]
    refine ⟨hF, hn.2.1, fun x hx y hy e => ?_⟩
    subst e
    obtain ⟨G', hG', hxG⟩ := List.mem_flatten.1 hy
    rcases hk x hx with h1 | h1
    · exact hn.2.2 x h1 x hy rfl
    · exact h1 G' (List.mem_cons_of_mem _ hG') hxG
  | G :: Fs, i + 1, F, F', hn, h, hF, hk => by
    simp at h
    rw [List.flatten_cons, List.nodup_append] at hn
    rw [List.set_cons_succ, List.flatten_cons, List.nodup_append]
    refine ⟨hn.1, nodup_set hn.2.1 h hF fun k hkk => (hk k hkk).imp_right fun h1 G' hG' => h1 G' (List.mem_cons_of_mem _ hG'), fun x hx y hy e => ?_⟩
    subst e
    obtain ⟨G', hG', hxG⟩ := List.mem_flatten.1 hy
    rcases List.mem_or_eq_of_mem_set hG' with h1 | h1
    · exact hn.2.2 x hx x (List.mem_flatten.2 ⟨G', h1, hxG⟩) rfl
    · subst h1
      rcases hk x hxG with h2 | h2
      · exact hn.2.2 x hx x (List.mem_flatten.2 ⟨F, List.mem_of_getElem? h, h2⟩) rfl
      · exact h2 G (List.mem_cons_self ..) hx
theorem own_set {w' : World} : ∀ {Fs : List (List Nat)} {H : List HA} {i : Nat} {x' : HA} {F' : List Nat}, Fs.length = H.length → (∀ (j : Nat) (h : HA) (f : List Nat), H[j]? = some h → j ≠ i → Fs[j]? = some f → h.at w' f) → x'.at w' F' → Own w' (H.set i x') (Fs.set i F').flatten
  | [], [], i, x', F', _, _, _ => by simp [Own]
  | [], _ :: _, _, _, _, hl, _, _ => by simp at hl
  | _ :: _, [], _, _, _, hl, _, _ => by simp at hl
  | F :: Fs, h0 :: H, 0, x', F', hl, hall, hx => by
    refine ⟨F', Fs.flatten, by simp, hx, ?_⟩
    have := own_set (w' := w') (Fs := Fs) (H := H) (i := H.length) (x' := x') (F' := F') (by simpa using hl) (fun j h f hh _ hf => hall (j + 1) h f (by simpa using hh) (by omega) (by simpa using hf)) hx
    have hl' : Fs.length = H.length := by simpa using hl
    rwa [List.set_eq_of_length_le (Nat.le_refl _), List.set_eq_of_length_le (by omega)] at this
  | F :: Fs, h0 :: H, i + 1, x', F', hl, hall, hx => by
    refine ⟨F, (Fs.set i F').flatten, by simp, hall 0 h0 F (by simp) (by omega) (by simp), ?_⟩
    exact own_set (by simpa using hl) (fun j h f hh hn hf => hall (j + 1) h f (by simpa using hh) (by omega) (by simpa using hf)) hx
theorem Hp.swap (h : Hp C H w) {w' : World} {i : Nat} {x x' : HA} (hi : H[i]? = some x) (hos : w'.os = w.os) (htape : w'.tape = w.tape) (hout : w'.output = w.output) (hsz : w.heap.size ≤ w'.heap.size)
    (hoth : ∀ F, x.at w F → ∀ k, k < w.heap.size → k ∉ F → w'.heap[k]? = w.heap[k]?)
    (hst : ∀ F, x.at w F → F.Nodup → ∃ F', x'.at w' F' ∧ F'.Nodup ∧ (∀ k ∈ F', (k ∈ F ∨ w.heap.size ≤ k) ∧ k < w'.heap.size)) : Hp C (H.set i x') w' := by
  obtain ⟨F0, h1, h2, h3⟩ := h.own
  obtain ⟨Fs, hl, rfl, hall⟩ := h1.parts
  have hlt : i < Fs.length := by rw [hl]; exact (List.getElem?_eq_some_iff.1 hi).1
  have hfi : Fs[i]? = some Fs[i] := List.getElem?_eq_getElem hlt
  have hx := hall i _ _ hi hfi
  obtain ⟨F', k1, k2, k3⟩ := hst _ hx (nodup_part h2 hfi)
  have hmem : ∀ G ∈ Fs, ∀ k ∈ G, k < w.heap.size ∧ (C.w0.heap.size ≤ k ∨ k ∈ C.M) := fun G hG k hk => h3 k (List.mem_flatten.2 ⟨G, hG, hk⟩)
  refine ⟨hos.trans h.os, htape.trans h.tape, hout.trans h.output, Nat.le_trans h.size hsz, fun k hk hM => ?_, h.ro, (Fs.set i F').flatten, ?_, ?_, fun k hk => ?_⟩
  · rw [hoth _ hx k (by have := h.size; omega) (fun hm => by
      rcases (hmem _ (List.mem_of_getElem? hfi) k hm).2 with h4 | h4
      · omega
      · exact hM h4)]
    exact h.keep k hk hM
  · refine own_set hl (fun j hj f hjj hne hf => ?_) k1
    refine HA.at_keep (hall j hj f hjj hf) fun k hk => hoth _ hx k (hmem f (List.mem_of_getElem? hf) k hk).1 fun hm => ?_
    exact disj_of_nodup h2 hf hfi hne k hk hm
  · refine nodup_set h2 hfi k2 fun k hk => ?_
    rcases (k3 k hk).1 with h4 | h4
    · exact .inl h4
    · exact .inr fun G hG hkG => by have := (hmem G hG k hkG).1; omega
  · obtain ⟨G, hG, hkG⟩ := List.mem_flatten.1 hk
    rcases List.mem_or_eq_of_mem_set hG with h4 | h4
    · exact ⟨Nat.lt_of_lt_of_le (hmem G h4 k hkG).1 hsz, (hmem G h4 k hkG).2⟩
    · subst h4
      refine ⟨(k3 k hkG).2, ?_⟩
      rcases (k3 k hkG).1 with h5 | h5
      · exact (hmem _ (List.mem_of_getElem? hfi) k h5).2
      · exact .inl (Nat.le_trans h.size h5)
theorem Hp.row (h : Hp C H w) {i : Nat} {v : Value} {t : TypeId} {sz n : Nat} {xs : List Value} (hi : H[i]? = some (.row v t sz n xs)) : w.ownsRow 0 t sz v n xs := by
  obtain ⟨F, h1, _, _⟩ := h.own
  obtain ⟨Fs, hl, _, hall⟩ := h1.parts
  have hlt : i < Fs.length := by rw [hl]; exact (List.getElem?_eq_some_iff.1 hi).1
  exact (hall i _ _ hi (List.getElem?_eq_getElem hlt)).2

/-! ### lists of elements -/
section lists
variable {α : Type} {f : α → List Value} {sz : Nat}
theorem flat_len (hf : ∀ x, (f x).length = sz) : ∀ l : List α, (l.flatMap f).length = l.length * sz
  | [] => by simp
  | x :: l => by rw [List.flatMap_cons, List.length_append, hf, flat_len hf l, List.length_cons, Nat.add_mul]; omega
theorem flat_drop (hf : ∀ x, (f x).length = sz) : ∀ (l : List α) (i : Nat), (l.flatMap f).drop (i * sz) = (l.drop i).flatMap f
  | l, 0 => by simp
  | [], i + 1 => by simp
  | x :: l, i + 1 => by
    rw [List.flatMap_cons, Nat.add_mul, Nat.one_mul, Nat.add_comm, ← List.drop_drop, List.drop_left' (hf x), flat_drop hf l i]; rfl
theorem flat_at [Inhabited α] (hf : ∀ x, (f x).length = sz) {l : List α} {i : Nat} (hi : i < l.length) : ((l.flatMap f).drop (i * sz)).take sz = f (l.getD i default) := by
  rw [flat_drop hf, List.drop_eq_getElem_cons hi, List.flatMap_cons, List.take_left' (hf _), List.getD_eq_getElem?_getD, List.getElem?_eq_getElem hi]; rfl
theorem flat_get [Inhabited α] (hf : ∀ x, (f x).length = sz) {l : List α} {i o : Nat} {u : Value} (hi : i < l.length) (hu : (f (l.getD i default))[o]? = some u) : (l.flatMap f)[i * sz + o]? = some u := by
  have ho : o < sz := by rw [← hf (l.getD i default)]; exact (List.getElem?_eq_some_iff.1 hu).1
  rw [← flat_at hf hi, List.getElem?_take, if_pos ho, List.getElem?_drop] at hu
  exact hu
theorem flat_set [Inhabited α] (hf : ∀ x, (f x).length = sz) {l : List α} {i : Nat} (hi : i < l.length) (x : α) : (l.flatMap f).take (i * sz) ++ f x ++ (l.flatMap f).drop (i * sz + sz) = (l.set i x).flatMap f := by
  have h1 : ∀ (l : List α) (i : Nat), (l.flatMap f).take (i * sz) = (l.take i).flatMap f := by
    intro l
    induction l with
    | nil => intro i; simp
    | cons y l ih =>
      intro i
      cases i with
      | zero => simp
      | succ i =>
        rw [List.flatMap_cons, Nat.add_mul, Nat.one_mul, Nat.add_comm, List.take_append, hf, List.take_of_length_le (by rw [hf]; omega), show sz + i * sz - sz = i * sz by omega, ih i]; rfl
  have h2 : i * sz + sz = (i + 1) * sz := by rw [Nat.add_mul, Nat.one_mul]
  rw [h1, h2, flat_drop hf, List.set_eq_take_append_cons_drop, if_pos hi]
  simp [List.flatMap_append]
theorem flat_set1 [Inhabited α] (hf : ∀ x, (f x).length = sz) {l : List α} {i o : Nat} (hi : i < l.length) (ho : o < sz) {u : Value} {x : α} (he : (f (l.getD i default)).set o u = f x) :
    (l.flatMap f).take (i * sz + o) ++ [u] ++ (l.flatMap f).drop (i * sz + o + 1) = (l.set i x).flatMap f := by
  have hlen := flat_len hf l
  have hlt : i * sz + o < (l.flatMap f).length := by
    rw [hlen]
    have : (i + 1) * sz ≤ l.length * sz := Nat.mul_le_mul_right _ hi
    rw [Nat.add_mul, Nat.one_mul] at this; omega
  have h1 : (l.flatMap f).take (i * sz + o) ++ [u] ++ (l.flatMap f).drop (i * sz + o + 1) = (l.flatMap f).set (i * sz + o) u := by
    rw [List.set_eq_take_append_cons_drop, if_pos hlt]; simp
  rw [h1, ← flat_set hf hi x, ← he, ← flat_at hf hi]
  have hl2 : ((l.flatMap f).drop (i * sz)).length ≥ sz := by
    rw [List.length_drop, hlen]
    have : (i + 1) * sz ≤ l.length * sz := Nat.mul_le_mul_right _ hi
    rw [Nat.add_mul, Nat.one_mul] at this; omega
  generalize l.flatMap f = ys at hlt hl2 ⊢
  refine List.ext_getElem? fun j => ?_
  rw [List.length_drop] at hl2
  have e1 : (ys.take (i * sz)).length = i * sz := by rw [List.length_take]; omega
  have e2 : (((ys.drop (i * sz)).take sz).set o u).length = sz := by rw [List.length_set, List.length_take, List.length_drop]; omega
  rw [List.append_assoc]
  by_cases c1 : j < i * sz
  · rw [List.getElem?_append_left (by rw [e1]; exact c1), List.getElem?_take, if_pos c1, List.getElem?_set_ne (by omega)]
  · rw [List.getElem?_append_right (by rw [e1]; omega), e1]
    by_cases c2 : j < i * sz + sz
    · rw [List.getElem?_append_left (by rw [e2]; omega)]
      by_cases c3 : j = i * sz + o
      · subst c3
        rw [List.getElem?_set_self hlt, show i * sz + o - i * sz = o by omega, List.getElem?_set_self (by rw [List.length_take, List.length_drop]; omega)]
      · rw [List.getElem?_set_ne (by omega), List.getElem?_set_ne (by omega), List.getElem?_take, if_pos (by omega), List.getElem?_drop]
        congr 1; omega
    · rw [List.getElem?_append_right (by rw [e2]; omega), e2, List.getElem?_set_ne (by omega), List.getElem?_drop]
      congr 1; omega
end lists

/-! ### looks -/
section ov
variable {x y : Operand} {t e' ty T : TypeId} {d : Option Tmp} {p : String} {e : Array Edge} {g : Option (Nat × Bool)} {v : Value} {k : IntKind} {sz n : Nat} {xs : List Value} {α : Type} [Inhabited α] {f : α → List Value} {l : List α}
theorem OV.lenRow (i : Nat) (hx : ev L x = some v) (hi : H[i]? = some (.row v T sz n xs)) (ht : slB P t e' sz = true) : OV P C L H ⟨d, .call ⟨.builtin .len, #[x], #[t]⟩, ty, p, e, g⟩ (.int .i64 (n : Int)) := fun a w hf hp => by
  rcases (hp.row hi).2 with ⟨rfl, rfl⟩ | ⟨b, cap, cur, rfl, _⟩
  · exact OV.lenS hx ht a w hf hp
  · exact OV.lenS hx ht a w hf hp
theorem OV.indexRow (i : Nat) {j : Int} (hx : ev L x = some v) (hy : ev L y = some (.int k j)) (hi : H[i]? = some (.row v T sz n xs)) (ht : slB P t e' sz = true) (hb : 0 ≤ j ∧ j < n) : OV P C L H ⟨d, .indexAddr t x y, ty, p, e, g⟩ (.pointer (some ⟨blkOf v, j.toNat * sz, none⟩)) := fun a w hf hp => by
  rcases (hp.row hi).2 with ⟨rfl, rfl⟩ | ⟨b, cap, cur, rfl, _⟩
  · exact absurd hb.2 (by omega)
  · exact OV.indexSl hx hy ht hb (by simp) a w hf hp
theorem Hp.row_cells (hp : Hp C H w) {i : Nat} (hi : H[i]? = some (.row v T sz n xs)) (hne : xs ≠ []) : ∃ cur : List Value, w.heap[blkOf v]? = some (.cells cur.toArray T (0, 0)) ∧ cur.take xs.length = xs := by
  obtain ⟨hl, hr⟩ := hp.row hi
  rcases hr with ⟨rfl, rfl⟩ | ⟨b, cap, cur, rfl, _, hb, _, _, _, ht⟩
  · exact absurd (List.eq_nil_of_length_eq_zero (by simpa using hl)) hne
  · exact ⟨cur.toList, by simpa [blkOf] using hb, by rw [hl]; exact ht⟩
theorem OV.loadRow1 (i : Nat) {off : Nat} {u : Value} (hx : ev L x = some (.pointer (some ⟨blkOf v, off, none⟩))) (hi : H[i]? = some (.row v T sz n xs)) (hc : xs[off]? = some u) (ht : scalB P t = true) : OV P C L H ⟨d, .load t x, ty, p, e, g⟩ u := fun a w hf hp => by
  obtain ⟨cur, h1, h2⟩ := hp.row_cells hi (fun h => by subst h; simp at hc)
  have hlt : off < xs.length := (List.getElem?_eq_some_iff.1 hc).1
  have hcell : w.cell? ⟨blkOf v, off, none⟩ = some u := by
    rw [← h2, List.getElem?_take, if_pos hlt] at hc
    simp [World.cell?, h1, hc]
  simp [execOp, hf.ev hx, Instr.loadAt, Instr.sureAddr, loadVar, run_isAgg_no ht, hcell]
theorem OV.loadRowM (i : Nat) {off : Nat} {vs : List Value} (hx : ev L x = some (.pointer (some ⟨blkOf v, off, none⟩))) (hi : H[i]? = some (.row v T sz n xs)) (hv : (xs.drop off).take vs.length = vs) (hne : vs ≠ []) (ht : RowT P t vs.length) : OV P C L H ⟨d, .load t x, ty, p, e, g⟩ (.agg vs.toArray) := fun a w hf hp => by
  obtain ⟨cur, h1, h2⟩ := hp.row_cells hi (fun h => by subst h; simp at hv; exact hne hv)
  obtain ⟨dd, hu, hd⟩ : ∃ dd, P.underlying t = some dd ∧ dd.isRow = true := by
    rcases ht.desc with ⟨_, h⟩ | ⟨_, _, h⟩ <;> exact ⟨_, h, rfl⟩
  have hv2 : (cur.drop off).take vs.length = vs := by
    have hle : vs.length ≤ xs.length - off := by
      have := congrArg List.length hv
      rw [List.length_take, List.length_drop] at this; omega
    generalize xs.length = N at h2 hle
    rw [← h2, List.drop_take, List.take_take, Nat.min_eq_left hle] at hv
    exact hv
  simp [execOp, hf.ev hx, run_loadAt_mid w (blkOf v) off t vs dd (rangeAt_of h1 hv2) hu hd ht.size]
/-- One element. -/
theorem OV.loadE (i : Nat) {j : Nat} (hx : ev L x = some (.pointer (some ⟨blkOf v, j * sz, none⟩))) (hi : H[i]? = some (.row v T sz l.length (l.flatMap f))) (hf' : ∀ x, (f x).length = sz) (h0 : 0 < sz) (hj : j < l.length) (ht : RowT P t sz) : OV P C L H ⟨d, .load t x, ty, p, e, g⟩ (.agg (f (l.getD j default)).toArray) :=
  OV.loadRowM i hx hi (by rw [hf']; exact flat_at hf' hj) (fun h => by have := hf' (l.getD j default); rw [h, List.length_nil] at this; omega) (by rw [hf']; exact ht)
/-- One cell of an element. -/
theorem OV.loadEF (i : Nat) {j o : Nat} {u : Value} (hx : ev L x = some (.pointer (some ⟨blkOf v, j * sz + o, none⟩))) (hi : H[i]? = some (.row v T sz l.length (l.flatMap f))) (hf' : ∀ x, (f x).length = sz) (hj : j < l.length) (hu : (f (l.getD j default))[o]? = some u) (ht : scalB P t = true) : OV P C L H ⟨d, .load t x, ty, p, e, g⟩ u :=
  OV.loadRow1 i hx hi (flat_get hf' hj hu) ht
/-- One element of one cell. -/
theorem OV.loadE1 (i : Nat) {j : Nat} {u : Value} (hx : ev L x = some (.pointer (some ⟨blkOf v, j * 1, none⟩))) (hi : H[i]? = some (.row v T 1 l.length (l.flatMap f))) (hf' : ∀ x, (f x).length = 1) (hj : j < l.length) (hu : (f (l.getD j default))[0]? = some u) (ht : scalB P t = true) : OV P C L H ⟨d, .load t x, ty, p, e, g⟩ u :=
  OV.loadRow1 i hx hi (by have := flat_get hf' hj hu; simpa using this) ht
end ov

/-! ### stores -/
section st
variable {x y : Operand} {t ty T : TypeId} {p : String} {e : Array Edge} {g : Option (Nat × Bool)} {v u : Value} {sz n off : Nat} {xs vs xs' : List Value} {α : Type} [Inhabited α] {f : α → List Value} {l : List α}
theorem OpK.storeRow (i : Nat) (hx : ev L x = some (.pointer (some ⟨blkOf v, off, none⟩))) (hy : ev L y = some u) (hi : H[i]? = some (.row v T sz n xs)) (hv : u.cells = vs.toArray) (hs : sizeB P t vs.length = true) (hne : vs ≠ []) (hfit : off + vs.length ≤ xs.length) (h1 : vs.all (·.oneCell') = true)
    (he : xs.take off ++ vs ++ xs.drop (off + vs.length) = xs') : OpK P ⟨none, .store t x y, ty, p, e, g⟩ Q C L H L (H.set i (.row v T sz n xs')) := by
  intro K hK a w hf hp
  obtain ⟨hl, hr⟩ := hp.row hi
  have hvl : 0 < vs.length := by
    rcases vs with _ | _
    · exact absurd rfl hne
    · simp
  rcases hr with ⟨rfl, rfl⟩ | ⟨b, cap, cur, rfl, _, hb, hn, hm, hcs, htk⟩
  · have : xs = [] := List.eq_nil_of_length_eq_zero (by simpa using hl)
    subst this; simp at hfit; exact absurd hfit.2 hne
  have hlc : n * sz ≤ cur.size := by rw [hcs]; exact Nat.mul_le_mul_right _ hn
  have hrun := run_storeCells_at (P := P) b off T vs 0 cur w hb (by omega) (by simpa using h1)
  simp only [Nat.add_zero] at hrun
  have hst : (storeVar t ⟨b, off, none⟩ u).run P w = .ok () (w.setRow b (cur.toList.take off ++ vs ++ cur.toList.drop (off + vs.length)).toArray) := by
    simp only [storeVar, Sem.run_bind, run_size hs, Result.andThen_ok, hv, List.size_toArray, ne_eq, not_true_eq_false, if_false, hrun]
  unfold Oper.wp
  simp only [blkOf] at hx
  simp only [execOp, hf.ev hx, hf.ev hy, Instr.storeAt, Instr.sureAddr, Sem.run_bind, Sem.run_pure, Result.andThen_ok, hst, Oper.upon]
  refine hK _ _ (hf.put0 _) (hp.swap hi rfl rfl rfl (by simp [World.setRow]) (fun F hF k _ hk => setRow_other w b k _ (fun e => hk (by rw [hF.1, e]; simp [Value.ownBlock]))) (fun F hF hFn => ⟨F, ⟨hF.1, ?_, .inr ⟨b, cap, _, rfl, Nat.zero_le _, heap_setRow_same hb, hn, hm, ?_, ?_⟩⟩, hFn, fun k hk => ⟨.inl hk, ?_⟩⟩))
  · rw [← he, List.length_append, List.length_append, List.length_take, List.length_drop]; omega
  · simp only [List.size_toArray, List.length_append, List.length_take, List.length_drop, Array.length_toList]; omega
  · have hcl : cur.toList.length = cur.size := Array.length_toList
    have hA : (cur.toList.take off ++ vs).length = off + vs.length := by rw [List.length_append, List.length_take]; omega
    rw [← he, ← htk, List.take_append, List.take_of_length_le (by omega), hA, List.take_take, Nat.min_eq_left (by omega), List.drop_take]
  · rw [hF.1] at hk
    simp [Value.ownBlock] at hk
    subst hk
    simp only [World.setRow, Array.size_modify]; exact lt_of_blk hb
theorem WL.storeE (i : Nat) {j : Nat} {z : α} (hx : ev L x = some (.pointer (some ⟨blkOf v, j * sz, none⟩))) (hy : ev L y = some u) (hi : H[i]? = some (.row v T sz l.length (l.flatMap f))) (hf' : ∀ x, (f x).length = sz) (h0 : 0 < sz) (hj : j < l.length) (hv : u.cells = (f z).toArray) (hs : sizeB P t sz = true) (h1 : (f z).all (·.oneCell') = true)
    (hw : wantB ops L ⟨none, .store t x y, ty, p, e, g⟩ = some true) (h : WL P ops Q C L (H.set i (.row v T sz (l.set j z).length ((l.set j z).flatMap f))) rest) : WL P ops Q C L H (⟨none, .store t x y, ty, p, e, g⟩ :: rest) := by
  refine WL.op (OpK.storeRow (xs' := (l.set j z).flatMap f) i hx hy hi hv (by rw [hf']; exact hs) (fun e => by have := hf' z; rw [e, List.length_nil] at this; omega) ?_ h1 (by rw [hf']; exact flat_set hf' hj z)) hw (by rw [List.length_set] at h; exact h)
  rw [flat_len hf', hf']
  have : (j + 1) * sz ≤ l.length * sz := Nat.mul_le_mul_right _ hj
  rw [Nat.add_mul, Nat.one_mul] at this; exact this
theorem WL.storeEF (i : Nat) {j o : Nat} {z : α} (hx : ev L x = some (.pointer (some ⟨blkOf v, j * sz + o, none⟩))) (hy : ev L y = some u) (hi : H[i]? = some (.row v T sz l.length (l.flatMap f))) (hf' : ∀ x, (f x).length = sz) (hj : j < l.length) (ho : o < sz) (hv : u.cells = #[u]) (hs : sizeB P t 1 = true) (h1 : u.oneCell' = true) (he : (f (l.getD j default)).set o u = f z)
    (hw : wantB ops L ⟨none, .store t x y, ty, p, e, g⟩ = some true) (h : WL P ops Q C L (H.set i (.row v T sz (l.set j z).length ((l.set j z).flatMap f))) rest) : WL P ops Q C L H (⟨none, .store t x y, ty, p, e, g⟩ :: rest) := by
  refine WL.op (OpK.storeRow (vs := [u]) i hx hy hi hv hs (by simp) ?_ (by simp [h1]) (flat_set1 hf' hj ho he)) hw (by rw [List.length_set] at h; exact h)
  rw [flat_len hf']
  have : (j + 1) * sz ≤ l.length * sz := Nat.mul_le_mul_right _ hj
  rw [Nat.add_mul, Nat.one_mul] at this; simp only [List.length_cons, List.length_nil]; omega
end st

/-! ### more room -/
def infoB (P : Program) (e : TypeId) : Option (List Value × Nat × Nat) := match P.info? e with
  | some i => match i.zero with
    | some z => some (z.cells.toList, i.size, i.bytes)
    | none => none
  | none => none
theorem infoB_spec {e : TypeId} {zs : List Value} {sz bytes : Nat} (h : infoB P e = some (zs, sz, bytes)) : ∃ i z, P.info? e = some i ∧ i.zero = some z ∧ z.cells = zs.toArray ∧ i.size = sz ∧ i.bytes = bytes := by
  unfold infoB at h
  cases hq : P.info? e with
  | none => simp [hq] at h
  | some i =>
    cases hz : i.zero with
    | none => simp [hq, hz] at h
    | some z => simp [hq, hz] at h; exact ⟨i, z, rfl, hz, by rw [← h.1], h.2.1, h.2.2⟩
theorem append_in {w : World} {t ty e : TypeId} {i : TypeInfo} {z : Value} {size bytes : Nat} (ht : P.underlying t = some (.slice e)) (hi : P.info? e = some i) (hz : i.zero = some z)
    (hsize : i.size = size) (hby : i.bytes = bytes) {v : Value} {n : Nat} {xs : List Value} (hown : w.ownsRow 0 e size v n xs)
    {a : Addr} {m c : Nat} {news : List Value} (hl : news.length = m * size) (hnews : ∀ j u, news[j]? = some u → w.cell? (a.add j) = some u) (h1 : ∀ u ∈ news, u.oneCell' = true)
    (h63 : n + m ≤ 9223372036854775807) (hbytes : ((n + m) + (n + m) / 4 + 192) * bytes ≤ 281474976710656) {v' : Value} {w' : World} (hr : (Builtin.append_ #[t, t] ty #[v, .slice (some a) m c]).run P w = .ok v' w') {k : Nat} (hk : v'.ownBlock = some k) : v.ownBlock = some k ∨ w.heap.size ≤ k := by
  subst hsize
  subst hby
  rcases hown.2 with ⟨rfl, rfl⟩ | ⟨g, cap, cur, rfl, _, hg, hnc, _, hcs, _⟩
  · by_cases hm : m = 0
    · subst hm
      have hn : news = [] := List.eq_nil_of_length_eq_zero (by simpa using hl)
      subst hn
      have : (Builtin.append_ #[t, t] ty #[.slice none 0 0, .slice (some a) 0 c]).run P w = .ok (.slice none 0 0) w := by
        simp [Builtin.append_, run_underlying ht, sizeOf, typeInfo, hi, Builtin.lenOf, Builtin.firstCells, loadCells, loadCellsFrom]
      rw [this] at hr
      cases hr
      simp [Value.ownBlock] at hk
    · rw [run_append_nil (P := P) w t ty e i z ht hi hz a m c news hl hnews (by omega) (by omega) (by have hb := hbytes; simp only [Nat.zero_add] at hb; exact Nat.le_trans (Nat.mul_le_mul_right _ (by omega)) hb)] at hr
      cases hr
      simp [Value.ownBlock] at hk
      exact .inr (by omega)
  · by_cases hroom : n + m ≤ cap
    · have hfit : n * i.size + news.length ≤ cur.size := by rw [hl, hcs, ← Nat.add_mul]; exact Nat.mul_le_mul_right _ hroom
      rw [run_append_room (P := P) w t ty e i ht hi g n cap cur hg a m c news hl hnews h1 hroom hfit] at hr
      cases hr
      exact .inl hk
    · have holds : ∀ j u, xs[j]? = some u → w.cell? ((⟨g, 0, none⟩ : Addr).add j) = some u := hown.cells (g := g) rfl
      rw [run_append_grow (P := P) w t ty e i z ht hi hz ⟨g, 0, none⟩ n cap xs hown.1 holds a m c news hl hnews (by omega) (by omega) (growslice_fits_wide (by omega) hbytes)] at hr
      cases hr
      simp [Value.ownBlock] at hk
      exact .inr (by omega)
section ap
variable {s x y z : Operand} {t e' ty T : TypeId} {p : String} {e : Array Edge} {v : Value} {k k' : IntKind} {sz bytes : Nat} {zs cs : List Value} {α : Type} {f : α → List Value} {l ms : List α} {d : Nat}
theorem WL.append (i j : Nat) {b : Nat} {m c : Nat} (hs : ev L s = some v) (hx : ev L x = some (.slice (some ⟨b, 0, none⟩) m c)) (hi : H[i]? = some (.row v e' sz l.length (l.flatMap f))) (hj : H[j]? = some (.blk b (.cells cs.toArray T (0, 0)))) (hc : cs = ms.flatMap f) (hm : ms.length = m)
    (hf' : ∀ x, (f x).length = sz) (h0 : 0 < sz) (h1 : cs.all (·.oneCell') = true) (ht : slB P t e' sz = true) (hinf : infoB P e' = some (zs, sz, bytes)) (hzs : zs.length = sz) (hb : ((l.length + m) + (l.length + m) / 4 + 192) * bytes ≤ 281474976710656 ∧ l.length + m ≤ 9223372036854775807)
    (hw : wantB ops L ⟨some d, .call ⟨.builtin .append, #[s, x], #[t, t]⟩, ty, p, e, none⟩ = some true) (hn : Nat.blt d C.n = true)
    (h : ∀ v', WL P ops Q C ((d, v') :: L) (H.set i (.row v' e' sz (l ++ ms).length ((l ++ ms).flatMap f))) rest) : WL P ops Q C L H (⟨some d, .call ⟨.builtin .append, #[s, x], #[t, t]⟩, ty, p, e, none⟩ :: rest) := by
  intro a w hf hp
  obtain ⟨inf, z, q1, q2, q3, q4, q5⟩ := infoB_spec hinf
  have hblk := hp.blk hj
  subst hm
  have hlen : cs.length = ms.length * sz := by rw [hc, flat_len hf']
  have hnews : ∀ q u, cs[q]? = some u → w.cell? ((⟨b, 0, none⟩ : Addr).add q) = some u := fun q u hq => by
    rw [Addr.add_mid, Nat.zero_add]; simp [World.cell?, hblk, hq]
  have hone : ∀ u ∈ cs, u.oneCell' = true := fun u hu => (List.all_eq_true.1 h1) u hu
  obtain ⟨v', w', hr, r1, r2, _⟩ := run_append_own_wide (P := P) w 0 t ty e' inf z sz bytes (slB_spec ht).1 q1 q2 q4 q5 (by rw [q3]; simpa using hzs) h0 v l.length (l.flatMap f) (hp.row hi) ⟨b, 0, none⟩ ms.length c cs hlen hnews hone (by simp only [maxLen]; omega) hb.1 (Nat.zero_le _)
  refine wpList_want' (wanted_of hf hw) ?_
  unfold Oper.wp execOp
  simp only [resolve, invoke, builtin, Sem.run_bind, Sem.run_pure, Result.andThen_ok, List.map_toArray, List.map_cons, List.map_nil, hf.ev hs, hf.ev hx, hr]
  refine h v' _ w' (hf.put hn v') (hp.swap hi r2.os r2.tape r2.output r2.size (fun F hF k hk hkF => r2.block k hk (fun e => hkF (by rw [hF.1, ← e]; simp))) (fun F hF _ => ⟨v'.ownBlock.toList, ⟨rfl, by rw [List.length_append, List.flatMap_append, ← hc]; exact r1⟩, by cases v'.ownBlock <;> simp, fun k hk => ?_⟩))
  have hk' : v'.ownBlock = some k := by simpa using hk
  refine ⟨?_, (r1.lt k hk').2⟩
  rcases append_in (slB_spec ht).1 q1 q2 q4 q5 (hp.row hi) hlen hnews hone hb.2 hb.1 hr hk' with h4 | h4
  · exact .inl (by rw [hF.1, h4]; simp)
  · exact .inr h4
end ap
end Go.Proofs.YtlfolgbaageknaaDoor
