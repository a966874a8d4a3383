/-
  The contracts of the functions on sets of bytes that go through a text or through all bytes.
-/
import Derived.Test.YtkjnhjhkaaampaaClass
import Derived.Lib.Hide
namespace Go.Proofs.Ytkjnhjhkaaampaa
open Go Go.RowKit

theorem ofS_snoc (l : List UInt8) (c : UInt8) : ofS (l ++ [c]) = addB (ofS l) c.toNat := by
  refine set_ext fun i hi => ?_
  have hc : c.toNat < 256 := c.toNat_lt
  rw [addB_bit _ _ _ hc, ofS, mkS_bit _ _ hi, ofS, mkS_bit _ _ hi, List.any_append]
  simp [List.any_cons, Bool.beq_eq_decide_eq]
theorem take_snoc (s : ByteArray) (k : Nat) (h : k < s.size) : s.data.toList.take (k + 1) = s.data.toList.take k ++ [s[k]] := by
  rw [List.take_succ_eq_append_getElem (by simpa using h)]; rfl

theorem of_pure (s : ByteArray) (hs : s.size ≤ maxLen) : Pure Try.prog 11 #[.string s] (.agg (words (ofS s.data.toList))) := by
  intro w
  unfold maxLen at hs
  have hz := words_zero
  go_enter Try.func11, Try.ntmps11
  go_wp2
  clear hz
  go_loopw [7] (fun i wr => ∃ k : Nat, i = .int .i64 k ∧ k ≤ s.size ∧ wr.heap[w.heap.size]? = some (.cells (words cs0) 26 (0, 0)) ∧ wr.heap[w.heap.size + 1]? = some (.cells (words (ofS (s.data.toList.take k))) 26 (0, 0)) ∧ Below w.heap.size w wr)
    (fun i _ => s.size - (intOf i).toNat)
  case atStart =>
    refine ⟨0, rfl, Nat.zero_le _, ?_, ?_, ?_⟩
    · exact heap_alloc2_old _ _ _
    · rw [show ofS (s.data.toList.take 0) = cs0 from set_ext fun i hi => by rw [ofS, mkS_bit _ _ hi]; simp [cs0]]
      exact heap_alloc2_new _ _ _
    · exact ((Below.refl _ _).alloc (Nat.le_refl _) _).alloc (by simp) _
  case round =>
    obtain ⟨k, rfl, hk1, hb0, hb1, hbel⟩ := hrel
    have hsz : w.heap.size + 1 < wr.heap.size := lt_of_blk hb1
    by_cases hlt : k < s.size
    · have hts := take_snoc s k hlt
      have hsn := ofS_snoc (s.data.toList.take k) s[k]
      rw [← hts] at hsn
      clear hts
      have HS : Hid (ofS (s.data.toList.take (k + 1)) = addB (ofS (s.data.toList.take k)) s[k].toNat) := hsn
      clear hsn
      generalize ofS (s.data.toList.take k) = t at hb1 HS
      have hcl : s[k].toNat < 256 := s[k].toNat_lt
      have hc : ∀ i, wr.cell? ⟨w.heap.size + 1, i, none⟩ = _ := fun i => cell_of_row _ _ i _ _ _ hb1
      have hf : ∀ i, wr.frozen? ⟨w.heap.size + 1, i, none⟩ = false := fun i => frozen_of_row _ _ i _ _ hb1
      have q0 := words_at t (s[k].toNat/64) (by omega)
      have g0 : (0 : Int) ≤ (s[k].toNat : Int) / 64 := by omega
      have g1 : (s[k].toNat : Int) / 64 < 4 := by omega
      go_wp2
      have ek : ((s[k].toNat : Int) / 64).toNat = s[k].toNat / 64 := by omega
      have em : ((s[k].toNat : Int) % 64).toNat = s[k].toNat % 64 := by omega
      refine wp_region_flow_tail (fun w' => w' = wr.drew) 13 (by kernel_rfl) (by kernel_rfl) rfl ?_
      simp only [List.take_succ_cons, List.take_zero, List.drop_succ_cons, List.drop_zero]
      repeat
        refine wpFlow_step ?_ rfl (fun w' hS => ?_) ?_
        rotate_left
        · have hS' : w' = wr.drew := hS
          subst hS'
          go_simp
          try go_bits
          exact gives_value (P := Try.prog) rfl
        simp only [Act.put, List.setIfInBounds_toArray, List.set_cons_zero, List.set_cons_succ]
      refine wpFlow_nil ?_
      intro w' hS
      obtain rfl := hS
      go_wp2
      go_roundw
      case rel =>
        have hb1' := heap_setCell_same _ _ (s[k].toNat / 64) _ _ (.int .u64 (bits .or .u64 (wd t (s[k].toNat / 64)) (IntKind.u64.wrap (2 ^ (s[k].toNat % 64))))) hb1
        rw [words_setb _ _ hcl, ← HS.out] at hb1'
        refine ⟨k + 1, by go_num, by omega, ?_, hb1', ?_⟩
        · show (wr.setCell _ _).heap[_]? = _
          rw [heap_setCell_other _ _ _ _ (by simp)]; exact hb0
        · exact (hbel.setCell (by simp) _).drew
      case measure => simp [intOf]; omega
    · have hk : k = s.size := by omega
      subst hk
      rw [List.take_of_length_le (by simp)] at hb1
      go_wp2_with ((with_reducible refine wpList_copy_row (d := 24) (ty := 26) (x := .tmp 3) (y := .tmp 2) _ _ _ _ hb1 hb0 (words_sz _ _) (setT _) (words_cells _) ?_ ?_ ?_ ?_); rfl; (intro _; rfl); rfl)
      refine ret_row rfl _ _ _ (0, 0) rfl (heap_setRow_same hb0) (setT _) rfl ⟨rfl, ?_⟩
      exact below_setRow hbel (Nat.le_refl _) _

/-- What Next hands back. -/
def nextV (s : CS) (b : Nat) : Value := match nextS s b with | some c => .tuple #[.int .u8 (c : Nat), .bool true] | none => .tuple #[.int .u8 0, .bool false]

set_option maxRecDepth 100000 in
theorem next_pure (s : CS) (from_ : Int) (h0 : -9223372036854775808 ≤ from_) (h1 : from_ ≤ 9223372036854775807) : Pure Try.prog 9 #[.agg (words s), .int .i64 from_] (nextV s from_.toNat) := by
  intro w
  go_enter Try.func9, Try.ntmps9
  go_wp2
  all_goals
    go_loopw [6] (fun i wr => ∃ k : Nat, i = .int .i64 k ∧ (k ≤ 256 ∨ k = from_.toNat) ∧ nextS s k = nextS s from_.toNat ∧ wr.heap[w.heap.size]? = some (.cells (words s) 26 (0, 0)) ∧ Below w.heap.size w wr)
      (fun i _ => 256 - (intOf i).toNat)
    case atStart =>
      refine ⟨from_.toNat, by congr 1; omega, .inr rfl, rfl, heap_alloc_new _ _, (Below.refl _ _).alloc (Nat.le_refl _) _⟩
    case round =>
      obtain ⟨k, rfl, hk1, hk2, hb0, hbel⟩ := hrel
      have hsz : w.heap.size < wr.heap.size := lt_of_blk hb0
      by_cases hlt : k < 256
      · have hst := nextS_step (s := s) hlt
        have HS : Hid (nextS s from_.toNat = if s.getLsbD k then some k else nextS s (k + 1)) := by rw [← hk2]; exact hst
        clear hk2 hst
        have e1 : ((k : Int) % 256) = k := by omega
        cases hbit : s.getLsbD k
        · have HB := Lib.hid hbit; clear hbit
          go_wp2_with (first | ((with_reducible refine wpList_get_row (d := 13) (ty := 26) (x := .tmp 2) _ _ hb0 (setT _) ?_ ?_); rfl) | (go_at_call 13; refine (has_pure s (k : Int) ?_ ?_ wr).mono ?_; omega; omega; rw [Int.toNat_natCast, HB.out]; rintro e w' ⟨rfl, hb⟩))
          go_roundw
          case rel =>
            refine ⟨k + 1, by go_num, .inl (by omega), ?_, blk hb hb0 hsz, hbel.trans (hb.mono (by omega))⟩
            rw [HS.out, HB.out]; rfl
          case measure => simp [intOf]; omega
        · have HB := Lib.hid hbit; clear hbit
          go_wp2_with (first | ((with_reducible refine wpList_get_row (d := 13) (ty := 26) (x := .tmp 2) _ _ hb0 (setT _) ?_ ?_); rfl) | (go_at_call 13; refine (has_pure s (k : Int) ?_ ?_ wr).mono ?_; omega; omega; rw [Int.toNat_natCast, HB.out]; rintro e w' ⟨rfl, hb⟩))
          go_ret2
          refine ⟨?_, hbel.trans (hb.mono (by omega))⟩
          rw [nextV, HS.out, HB.out]; rfl
      · have hn := nextS_end (s := s) (b := k) (by omega)
        rw [hn] at hk2
        have HS := Lib.hid hk2; clear hk2 hn
        go_wp2
        go_ret2
        refine ⟨?_, hbel⟩
        rw [nextV, ← HS.out]; rfl

theorem boolT_zero : (Try.prog.info? 28).map (fun i => (i.zero, i.size)) = some (some (.agg (boolsF fun _ => false)), 256) := by kernel_rfl
def eqF (f g : Nat → Bool) : Bool := (List.range 256).all fun i => f i == g i
theorem eqF_true {f g : Nat → Bool} (h : ∀ i, i < 256 → f i = g i) : eqF f g = true := by
  unfold eqF; rw [List.all_eq_true]; intro i hi; rw [h i (List.mem_range.1 hi)]; simp
theorem eql_bools {T : TypeId} (hu : Try.prog.underlying T = some (.array 256 4)) (f g : Nat → Bool) (w : World) : (Op.equalIn 10000 T (.agg (boolsF f)) (.agg (boolsF g))).run Try.prog w = .ok (eqF f g) w := by
  obtain ⟨i, hi, hc⟩ : ∃ i, Try.prog.info? 4 = some i ∧ Try.prog.cellsOf 4 = 1 := ⟨_, rfl, by kernel_rfl⟩
  rw [run_equalIn_array w 9999 _ _ hu hi, hc, run_eqItems_of (fun i => f i == g i) _ ?_]
  · rfl
  intro j hj
  have hj : j < 256 := List.mem_range.1 hj
  refine ⟨_, _, run_part_one (Try.underlying4) (by kernel_rfl) (by rw [Nat.mul_one]; exact boolsF_at f j hj), run_part_one (Try.underlying4) (by kernel_rfl) (by rw [Nat.mul_one]; exact boolsF_at g j hj), ?_⟩
  exact run_equalIn_bool' w _ _ _ _ Try.underlying4

theorem boolT (f : Nat → Bool) : RowT Try.prog 28 (boolsF f).size :=
  ⟨by kernel_rfl, by
    have h : (Try.prog.info? 28).map (·.size) = some 256 := by kernel_rfl
    rw [h, boolsF_size]⟩

set_option maxRecDepth 100000 in
theorem from_pure (s : CS) : Pure Try.prog 10 #[.agg (words s)] (.agg (boolsF s.getLsbD)) := by
  intro w
  go_enter Try.func10, Try.ntmps10
  go_wp2_with (refine wpList_alloc_row rfl 28 rfl _ _ boolT_zero ?_)
  have h0 : (((w.alloc (.cells (words s) 23)).alloc (.cells (boolsF fun x => false) 28)).alloc (.cells (boolsF fun x => false) 28)).heap[w.heap.size]? = some (.cells (words s) 23) := by
    rw [heap_alloc_old _ _ (h := by simp; omega), heap_alloc2_old]
  have h1 : (((w.alloc (.cells (words s) 23)).alloc (.cells (boolsF fun x => false) 28)).alloc (.cells (boolsF fun x => false) 28)).heap[w.heap.size + 1]? = some (.cells (boolsF fun x => false) 28) := by
    rw [heap_alloc_old _ _ (h := by simp), heap_alloc2_new]
  have h2 := heap_alloc3_new w (.cells (words s) 23) (.cells (boolsF fun x => false) 28) (.cells (boolsF fun x => false) 28)
  have hb : Below w.heap.size w (((w.alloc (.cells (words s) 23)).alloc (.cells (boolsF fun x => false) 28)).alloc (.cells (boolsF fun x => false) 28)) :=
    (((Below.refl _ _).alloc (Nat.le_refl _) _).alloc (by simp) _).alloc (by simp; omega) _
  go_loopw [4] (fun i wr => ∃ k : Nat, i = .int .i64 k ∧ k ≤ 256 ∧ wr.heap[w.heap.size]? = some (.cells (words s) 23 (0, 0)) ∧ wr.heap[w.heap.size + 1]? = some (.cells (boolsF fun x => false) 28 (0, 0)) ∧ wr.heap[w.heap.size + 1 + 1]? = some (.cells (boolsF fun x => decide (x < k) && s.getLsbD x) 28 (0, 0)) ∧ Below w.heap.size w wr)
    (fun i _ => 256 - (intOf i).toNat)
  case atStart => exact ⟨0, rfl, by omega, h0, h1, by simpa using h2, hb⟩
  case round =>
    clear h0 h1 h2 hb
    obtain ⟨k, rfl, hk, hb0, hb1, hb2, hbel⟩ := hrel
    by_cases hlt : k < 256
    · have hc0 : ∀ i, wr.cell? ⟨w.heap.size, i, none⟩ = _ := fun i => cell_of_row _ _ i _ _ _ hb0
      have hc : ∀ i, wr.cell? ⟨w.heap.size + 1 + 1, i, none⟩ = _ := fun i => cell_of_row _ _ i _ _ _ hb2
      have hf : ∀ i, wr.frozen? ⟨w.heap.size + 1 + 1, i, none⟩ = false := fun i => frozen_of_row _ _ i _ _ hb2
      have q0 := words_at s (k/64) (by omega)
      have q1 := boolsF_at (fun x => decide (x < k) && s.getLsbD x) k hlt
      have g0 : (0 : Int) ≤ (k : Int) / 64 := by omega
      have g1 : (k : Int) / 64 < 4 := by omega
      have ek : ((k : Int) / 64).toNat = k / 64 := by omega
      have em : ((k : Int) % 64).toNat = k % 64 := by omega
      go_wp2
      go_roundw
      case rel =>
        have hb2' := heap_setCell_same _ _ k _ _ (.bool ((wd s (k / 64) / 2 ^ (k % 64)).tmod 2 == 1)) hb2
        rw [wd_tmod, boolsF_set] at hb2'
        rw [wd_tmod]
        refine ⟨k + 1, by go_num, by omega, ?_, ?_, ?_, ?_⟩
        · rw [heap_setCell_other _ _ _ _ (by simp; omega)]; exact hb0
        · rw [heap_setCell_other _ _ _ _ (by simp)]; exact hb1
        · rw [hb2']
          congr 2
          refine boolsF_congr fun i hi => ?_
          unfold upd
          by_cases e : i = k
          · subst e; simp
          · have : (i < k + 1) = (i < k) := by rw [eq_iff_iff]; omega
            simp [e, this]
        · exact hbel.setCell (by simp; omega) _
      case measure => simp [intOf]; omega
    · have hk : k = 256 := by omega
      subst hk
      rw [boolsF_congr (g := s.getLsbD) (fun i hi => by simp [hi])] at hb2
      go_wp2_with ((with_reducible refine wpList_copy_row (d := 21) (ty := 28) (x := .tmp 3) (y := .tmp 2) _ _ _ _ hb2 hb1 (boolsF_sz _ _) (boolT _) (boolsF_cells _) ?_ ?_ ?_ ?_); rfl; (intro _; rfl); rfl)
      refine ret_row rfl _ _ _ (0, 0) rfl (heap_setRow_same hb1) (boolT _) rfl ⟨rfl, ?_⟩
      exact below_setRow hbel (by omega) _

end Go.Proofs.Ytkjnhjhkaaampaa
