/-
  The contracts of the functions on sets of bytes, over the seat's translation.
-/
import Derived.Test.YtkjnhjhkaaampaaChecked
import Derived.Test.YtkjnhjhkaaampaaFlow
import Derived.Test.YtkjnhjhkaaampaaSet
import Derived.Test.YtkjnhjhkaaampaaRow
import Derived.WalkKit
import Derived.WalkSpells
import Derived.WalkLawsBesides
namespace Go.Proofs.Ytkjnhjhkaaampaa
open Go Go.RowKit

theorem setT (s : CS) : RowT Try.prog 26 (words s).size :=
  ⟨by kernel_rfl, by
    have h : (Try.prog.info? 26).map (·.size) = some 4 := by kernel_rfl
    rw [h, words_size]⟩
theorem setT_zero : (Try.prog.info? 26).map (fun i => (i.zero, i.size)) = some (some (.agg (words cs0)), 4) := by kernel_rfl
theorem wordT (s : CS) : RowT Try.prog 23 (words s).size :=
  ⟨by kernel_rfl, by
    have h : (Try.prog.info? 23).map (·.size) = some 4 := by kernel_rfl
    rw [h, words_size]⟩
theorem words_cells (s : CS) : ∀ v ∈ (words s).toList, v.oneCell' = true := by
  intro v hv; simp [words] at hv; rcases hv with rfl | rfl | rfl | rfl <;> rfl

theorem all4 (s t : CS) : ((List.range 4).all fun i => wd s i == wd t i) = (s == t) := by
  rw [Bool.eq_iff_iff]
  constructor
  · intro h
    have h' : ∀ i, i < 4 → wd s i = wd t i := fun i hi => by have := List.all_eq_true.1 h i (List.mem_range.2 hi); simpa using this
    have : words s = words t := by unfold words; rw [h' 0 (by omega), h' 1 (by omega), h' 2 (by omega), h' 3 (by omega)]
    rw [words_inj this]; simp
  · intro h
    have : s = t := by simpa using h
    subst this
    simp

theorem eql_words {T : TypeId} (hu : Try.prog.underlying T = some (.array 4 22)) (s t : CS) (w : World) : (Op.equalIn 10000 T (.agg (words s)) (.agg (words t))).run Try.prog w = .ok (s == t) w := by
  obtain ⟨i, hi, hc⟩ : ∃ i, Try.prog.info? 22 = some i ∧ Try.prog.cellsOf 22 = 1 := ⟨_, rfl, by kernel_rfl⟩
  rw [run_equalIn_array w 9999 _ _ hu hi, hc, run_eqItems_of (fun i => wd s i == wd t i) _ ?_, all4]
  intro j hj
  have hj : j < 4 := List.mem_range.1 hj
  refine ⟨_, _, run_part_one (Try.underlying22) (by kernel_rfl) (by rw [Nat.mul_one]; exact words_at s j hj), run_part_one (Try.underlying22) (by kernel_rfl) (by rw [Nat.mul_one]; exact words_at t j hj), ?_⟩
  exact run_equalIn_int w _ _ _ _ _ _ Try.underlying22

theorem has_pure (s : CS) (b : Int) (h0 : 0 ≤ b) (h1 : b < 256) : Pure Try.prog 13 #[.agg (words s), .int .u8 b] (.bool (s.getLsbD b.toNat)) := by
  intro w
  have q0 := words_at s (b/64).toNat (by omega)
  go_enter Try.func13, Try.ntmps13
  go_wp2
  go_ret
  exact ⟨by simp only [Array.getD_eq_getD_getElem?]; simp [wd_has s b h0 h1], (Below.refl _ _).alloc (Nat.le_refl _) _⟩

theorem not_pure (s : CS) : Pure Try.prog 19 #[.agg (words s)] (.agg (words (~~~ s))) := by
  intro w
  have q0 := words_at s 0 (by omega)
  have q1 := words_at s 1 (by omega)
  have q2 := words_at s 2 (by omega)
  have q3 := words_at s 3 (by omega)
  go_enter Try.func19, Try.ntmps19
  go_wp2
  rw [words_not]
  refine ret_row rfl _ _ (words (~~~ s)) (0, 0) rfl (heap_alloc2_new _ _ _) (setT _) rfl ⟨rfl, ?_⟩
  exact ((Below.refl _ _).alloc (Nat.le_refl _) _).alloc (by simp) _

theorem heap_alloc3_new (w : World) (A B C : Obj) : (((w.alloc A).alloc B).alloc C).heap[w.heap.size + 1 + 1]? = some C := by
  have h := heap_alloc_new ((w.alloc A).alloc B) C
  rw [World.size_alloc, World.size_alloc] at h
  exact h

theorem union_pure (s t : CS) : Pure Try.prog 16 #[.agg (words s), .agg (words t)] (.agg (words (s ||| t))) := by
  intro w
  have q0 := words_at s 0 (by omega)
  have q1 := words_at s 1 (by omega)
  have q2 := words_at s 2 (by omega)
  have q3 := words_at s 3 (by omega)
  have r0 := words_at t 0 (by omega)
  have r1 := words_at t 1 (by omega)
  have r2 := words_at t 2 (by omega)
  have r3 := words_at t 3 (by omega)
  go_enter Try.func16, Try.ntmps16
  go_wp2
  rw [words_or]
  refine ret_row rfl _ _ (words (s ||| t)) (0, 0) rfl (heap_alloc3_new _ _ _ _) (setT _) rfl ⟨rfl, ?_⟩
  exact (((Below.refl _ _).alloc (Nat.le_refl _) _).alloc (by simp) _).alloc (by simp; omega) _

theorem meet_pure (s t : CS) : Pure Try.prog 17 #[.agg (words s), .agg (words t)] (.agg (words (s &&& t))) := by
  intro w
  have q0 := words_at s 0 (by omega)
  have q1 := words_at s 1 (by omega)
  have q2 := words_at s 2 (by omega)
  have q3 := words_at s 3 (by omega)
  have r0 := words_at t 0 (by omega)
  have r1 := words_at t 1 (by omega)
  have r2 := words_at t 2 (by omega)
  have r3 := words_at t 3 (by omega)
  go_enter Try.func17, Try.ntmps17
  go_wp2
  rw [words_and]
  refine ret_row rfl _ _ (words (s &&& t)) (0, 0) rfl (heap_alloc3_new _ _ _ _) (setT _) rfl ⟨rfl, ?_⟩
  exact (((Below.refl _ _).alloc (Nat.le_refl _) _).alloc (by simp) _).alloc (by simp; omega) _

theorem span_pure (lo hi : Nat) (h0 : lo < 256) (h1 : hi < 256) : Pure Try.prog 12 #[.int .u8 lo, .int .u8 hi] (.agg (words (spanS lo hi))) := by
  intro w
  have e1 : wrap64 (lo : Int) = lo := IntWalk.wrap64_in _ ⟨by omega, by omega⟩
  have e2 : wrap64 (hi : Int) = hi := IntWalk.wrap64_in _ ⟨by omega, by omega⟩
  have hz := words_zero
  go_enter Try.func12, Try.ntmps12
  go_wp2
  clear hz
  go_loopw [6] (fun i wr => ∃ k : Nat, i = .int .i64 k ∧ lo ≤ k ∧ (k ≤ hi + 1 ∨ k = lo) ∧ k ≤ 256 ∧ wr.heap[w.heap.size]? = some (.cells (words cs0) 26 (0, 0)) ∧ wr.heap[w.heap.size + 1]? = some (.cells (words (mkS fun i => decide (lo ≤ i) && decide (i < k))) 26 (0, 0)) ∧ Below w.heap.size w wr)
    (fun i _ => 256 - (intOf i).toNat)
  case atStart =>
    refine ⟨lo, rfl, Nat.le_refl _, .inr rfl, by omega, ?_, ?_, ?_⟩
    · exact heap_alloc2_old _ _ _
    · rw [show (mkS fun i => decide (lo ≤ i) && decide (i < lo)) = cs0 from set_ext fun i hi => by rw [mkS_bit _ _ hi]; simp [cs0]]
      exact heap_alloc2_new _ _ _
    · exact ((Below.refl _ _).alloc (Nat.le_refl _) _).alloc (by simp) _
  case round =>
    obtain ⟨k, rfl, hk1, hk2, hk3, hb0, hb1, hbel⟩ := hrel
    have hsz : w.heap.size + 1 < wr.heap.size := lt_of_blk hb1
    by_cases hlt : k ≤ hi
    · have hc : ∀ i, wr.cell? ⟨w.heap.size + 1, i, none⟩ = _ := fun i => cell_of_row _ _ i _ _ _ hb1
      have hf : ∀ i, wr.frozen? ⟨w.heap.size + 1, i, none⟩ = false := fun i => frozen_of_row _ _ i _ _ hb1
      have q0 := words_at (mkS fun i => decide (lo ≤ i) && decide (i < k)) (k/64) (by omega)
      have g0 : (0 : Int) ≤ (k : Int) / 64 := by omega
      have g1 : (k : Int) / 64 < 4 := by omega
      go_wp2
      have ek : ((k : Int) / 64).toNat = k / 64 := by omega
      have em := and63_i64 k (by omega)
      refine wp_region_flow_tail (fun w' => w' = wr.drew) 9 (by kernel_rfl) (by kernel_rfl) rfl ?_
      simp only [List.take_succ_cons, List.take_zero, List.drop_succ_cons, List.drop_zero]
      repeat
        refine wpFlow_step ?_ rfl (fun w' hS => ?_) ?_
        rotate_left
        · have hS' : w' = wr.drew := hS
          subst hS'
          go_simp
          try go_bits
          exact gives_value (P := Try.prog) rfl
        simp only [Act.put, List.setIfInBounds_toArray, List.set_cons_zero, List.set_cons_succ]
      refine wpFlow_nil ?_
      intro w' hS
      obtain rfl := hS
      go_wp2
      go_roundw
      case rel =>
        have hb1' : (wr.setCell ⟨w.heap.size + 1, k / 64, none⟩ (.int .u64 (bits .or .u64 (wd (mkS fun i => decide (lo ≤ i) && decide (i < k)) (k / 64)) (IntKind.u64.wrap (2 ^ (k % 64)))))).heap[w.heap.size + 1]? = some (.cells (words (mkS fun i => decide (lo ≤ i) && decide (i < k + 1))) 26 (0, 0)) := by
          have ea : addB (mkS fun i => decide (lo ≤ i) && decide (i < k)) k = mkS fun i => decide (lo ≤ i) && decide (i < k + 1) := by
            refine set_ext fun i hi => ?_
            rw [addB_bit _ _ _ (by omega), mkS_bit _ _ hi, mkS_bit _ _ hi, Bool.eq_iff_iff]
            simp; omega
          rw [heap_setCell_same _ _ _ _ _ _ hb1, words_setb _ k (by omega), ea]
        refine ⟨k + 1, by go_num, by omega, .inl (by omega), by omega, ?_, hb1', ?_⟩
        · rw [World.drew]; show (wr.setCell _ _).heap[_]? = _
          rw [heap_setCell_other _ _ _ _ (by simp)]; exact hb0
        · exact (hbel.setCell (by simp) _).drew
      case measure => simp [intOf]; omega
    · have hlt' : hi < k := by omega
      have hsp : (mkS fun i => decide (lo ≤ i) && decide (i < k)) = spanS lo hi := mkS_congr fun i _ => by
        rw [Bool.eq_iff_iff]; simp; omega
      rw [hsp] at hb1
      go_wp2_with ((with_reducible refine wpList_copy_row (d := 24) (ty := 26) (x := .tmp 5) (y := .tmp 4) _ _ _ _ hb1 hb0 (words_sz _ _) (setT _) (words_cells _) ?_ ?_ ?_ ?_); rfl; (intro _; rfl); rfl)
      refine ret_row rfl _ _ _ (0, 0) rfl (heap_setRow_same hb0) (setT _) rfl ⟨rfl, ?_⟩
      exact below_setRow hbel (Nat.le_refl _) _

theorem minus_pure (s t : CS) : Pure Try.prog 18 #[.agg (words s), .agg (words t)] (.agg (words (s &&& ~~~ t))) := by
  intro w
  have hz := words_zero
  go_enter Try.func18, Try.ntmps18
  go_wp2
  clear hz
  have hb : Below w.heap.size w (((w.alloc (.cells (words s) 26)).alloc (.cells (words t) 26)).alloc (.cells (words cs0) 26)) :=
    (((Below.refl _ _).alloc (Nat.le_refl _) _).alloc (by simp) _).alloc (by simp; omega) _
  have h2 := heap_alloc3_new w (.cells (words s) 26) (.cells (words t) 26) (.cells (words cs0) 26)
  have h0 : (((w.alloc (.cells (words s) 26)).alloc (.cells (words t) 26)).alloc (.cells (words cs0) 26)).heap[w.heap.size]? = some (.cells (words s) 26) := by
    rw [heap_alloc_old _ _ (h := by simp; omega), heap_alloc2_old]
  have h1 : (((w.alloc (.cells (words s) 26)).alloc (.cells (words t) 26)).alloc (.cells (words cs0) 26)).heap[w.heap.size + 1]? = some (.cells (words t) 26) := by
    rw [heap_alloc_old _ _ (h := by simp), heap_alloc2_new]
  generalize ((w.alloc (.cells (words s) 26)).alloc (.cells (words t) 26)).alloc (.cells (words cs0) 26) = W at hb h0 h1 h2 ⊢
  have hlt : w.heap.size + 1 + 1 < W.heap.size := lt_of_blk h2
  refine wp_region_flow_tail (Below W.heap.size W.drew) 4 (by kernel_rfl) (by kernel_rfl) (Below.refl _ _) ?_
  simp only [List.take_succ_cons, List.take_zero, List.drop_succ_cons, List.drop_zero]
  refine wpFlow_load_row w.heap.size 26 (fun w' hS => blk hS h0 (by omega)) (setT _) rfl rfl ?_
  refine wpFlow_load_row (w.heap.size + 1) 26 (fun w' hS => blk hS h1 (by omega)) (setT _) rfl rfl ?_
  refine wpFlow_call _ (by kernel_rfl) (not_pure t) (Nat.le_refl _) rfl rfl ?_
  refine wpFlow_call _ (by kernel_rfl) (meet_pure s (~~~ t)) (Nat.le_refl _) rfl rfl ?_
  refine wpFlow_nil ?_
  intro w' hS
  refine wpList_put_row (w.heap.size + 1 + 1) 26 (blk hS h2 hlt) (words_sz _ _) (setT _) (words_cells _) rfl rfl ?_
  go_wp2
  refine ret_row rfl _ _ _ (0, 0) rfl (heap_setRow_same (blk hS h2 hlt)) (setT _) rfl ⟨rfl, ?_⟩
  exact below_setRow (hb.drew.trans (hS.mono hb.size)) (by omega) _

end Go.Proofs.Ytkjnhjhkaaampaa
