/-
  The law ClassUnfolds: the contracts of Unfold and of the reference's Small, and its walk.
-/
import Derived.Test.YtkjnhjhkaaampaaClass2
namespace Go.Proofs.Ytkjnhjhkaaampaa
open Go Go.RowKit

def unfoldTo (s : CS) (k : Nat) : CS := mkS fun i => if 65 ≤ i ∧ i ≤ 90 then decide (i + 32 < k) && s.getLsbD (i + 32) else s.getLsbD i
def unfoldS (s : CS) : CS := unfoldTo s 123
theorem unfoldTo_97 (s : CS) : unfoldTo s 97 = s &&& ~~~ spanS 65 90 := by
  refine set_ext fun i hi => ?_
  rw [unfoldTo, mkS_bit _ _ hi, BitVec.getLsbD_and, BitVec.getLsbD_not, spanS, mkS_bit _ _ hi]
  by_cases h : 65 ≤ i ∧ i ≤ 90
  · have : ¬ i + 32 < 97 := by omega
    simp [h, this]
  · rw [if_neg h]
    have : (decide (65 ≤ i) && decide (i ≤ 90)) = false := by rw [Bool.and_eq_false_iff]; simp; omega
    simp [this, hi]
theorem unfoldTo_succ (s : CS) (k : Nat) (h0 : 97 ≤ k) (h1 : k ≤ 122) : unfoldTo s (k + 1) = if s.getLsbD k then unfoldTo s k ||| spanS (k - 32) (k - 32) else unfoldTo s k := by
  refine set_ext fun i hi => ?_
  have e1 : (unfoldTo s (k + 1)).getLsbD i = if 65 ≤ i ∧ i ≤ 90 then decide (i + 32 < k + 1) && s.getLsbD (i + 32) else s.getLsbD i := by rw [unfoldTo, mkS_bit _ _ hi]
  have e2 : (unfoldTo s k).getLsbD i = if 65 ≤ i ∧ i ≤ 90 then decide (i + 32 < k) && s.getLsbD (i + 32) else s.getLsbD i := by rw [unfoldTo, mkS_bit _ _ hi]
  have e3 : (spanS (k - 32) (k - 32)).getLsbD i = decide (i + 32 = k) := by
    rw [spanS, mkS_bit _ _ hi, Bool.eq_iff_iff]; simp; omega
  rw [e1]
  by_cases hk : i + 32 = k
  · subst hk
    have hc : 65 ≤ i ∧ i ≤ 90 := by omega
    rw [if_pos hc]
    cases hb : s.getLsbD (i + 32)
    · rw [if_neg (by simp), e2, if_pos hc]; simp
    · rw [if_pos rfl, BitVec.getLsbD_or, e2, e3]; simp
  · have hne : (if s.getLsbD k = true then unfoldTo s k ||| spanS (k - 32) (k - 32) else unfoldTo s k).getLsbD i = (unfoldTo s k).getLsbD i := by
      cases s.getLsbD k
      · rw [if_neg (by simp)]
      · rw [if_pos rfl, BitVec.getLsbD_or, e3]; simp [hk]
    rw [hne, e2]
    by_cases hc : 65 ≤ i ∧ i ≤ 90
    · rw [if_pos hc, if_pos hc]
      congr 1
      rw [decide_eq_decide]; omega
    · rw [if_neg hc, if_neg hc]

set_option maxRecDepth 100000 in
set_option maxHeartbeats 1000000 in
theorem unfold_pure (s : CS) : Pure Try.prog 14 #[.agg (words s)] (.agg (words (unfoldS s))) := by
  intro w
  have C1 := Lib.hid (span_pure 65 90 (by omega) (by omega))
  have C2 := Lib.hid (minus_pure s (spanS 65 90))
  go_enter Try.func14, Try.ntmps14
  go_wp2_with (first | ((with_reducible refine wpList_alloc_row (o := ⟨some 2, _, _, _, _, _⟩) rfl 26 ?_ _ _ setT_zero ?_); rfl) | fail)
  have h1 := heap_alloc2_old w (.cells (words s) 26) (.cells (words cs0) 26)
  have h2 := heap_alloc2_new w (.cells (words s) 26) (.cells (words cs0) 26)
  have hb : Below w.heap.size w ((w.alloc (.cells (words s) 26)).alloc (.cells (words cs0) 26)) := ((Below.refl _ _).alloc (Nat.le_refl _) _).alloc (by simp) _
  generalize (w.alloc (.cells (words s) 26)).alloc (.cells (words cs0) 26) = W0 at h1 h2 hb ⊢
  have hl0 : w.heap.size + 1 < W0.heap.size := lt_of_blk h2
  refine (C1.out W0).mono ?_
  rintro e W1 ⟨rfl, hv⟩
  have H1 := Lib.hid (heap_alloc_keep (o' := .cells (words (spanS 65 90)) 26) (blk hv h1 (by omega)))
  have H2 := Lib.hid (heap_alloc_keep (o' := .cells (words (spanS 65 90)) 26) (blk hv h2 hl0))
  have hb1 : Below w.heap.size w (W1.alloc (.cells (words (spanS 65 90)) 26)) := (hb.trans (hv.mono hb.size)).alloc (Nat.le_trans hb.size hv.size) _
  have H3 := Lib.hid (heap_alloc_new W1 (.cells (words (spanS 65 90)) 26))
  clear h1 h2 hb hv C1
  go_wp2_with (first | ((with_reducible refine wpList_var_row (d := 3) (ty := 26) (y := .tmp 6) (cs := words (spanS 65 90)) setT_zero (words_sz _ _) (setT _) (words_cells _) ?_ ?_ ?_); rfl; (intro _; rfl)) | (with_reducible refine stop_dst (d := 7) ?_) | fail)
  unfold Hid
  generalize hW1 : W1.heap.size = b3 at H3 ⊢
  clear hW1
  generalize W1.alloc (.cells (words (spanS 65 90)) 26) = W2 at H1 H2 H3 hb1 ⊢
  have hl3 : b3 < W2.heap.size := lt_of_blk H3.out
  refine wpList_get_row (d := 7) w.heap.size 26 H1.out (setT _) rfl ?_
  simp only [Act.put, List.setIfInBounds_toArray, List.set_cons_zero, List.set_cons_succ]
  refine wpList_get_row (d := 8) b3 26 H3.out (setT _) rfl ?_
  simp only [Act.put, List.setIfInBounds_toArray, List.set_cons_zero, List.set_cons_succ]
  go_wp2_with fail
  refine (C2.out W2).mono ?_
  clear C2
  rw [← unfoldTo_97]
  rintro e W3 ⟨rfl, hv⟩
  have hl2 : w.heap.size + 1 < W2.heap.size := lt_of_blk H2.out
  have H1a := Lib.hid (heap_alloc_keep (o' := .cells (words (unfoldTo s 97)) 26) (blk hv H1.out (by omega)))
  have H2a := Lib.hid (heap_alloc_keep (o' := .cells (words (unfoldTo s 97)) 26) (blk hv H2.out hl2))
  have H4 := Lib.hid (heap_alloc_new W3 (.cells (words (unfoldTo s 97)) 26))
  have hb2 : Below w.heap.size w (W3.alloc (.cells (words (unfoldTo s 97)) 26)) := (hb1.trans (hv.mono hb1.size)).alloc (Nat.le_trans hb1.size hv.size) _
  have hl4 : w.heap.size + 1 < W3.heap.size := Nat.lt_of_lt_of_le hl2 hv.size
  clear H1 H2 H3 hb1 hv
  go_wp2_with (first | ((with_reducible refine wpList_var_row (d := 4) (ty := 26) (y := .tmp 9) (cs := words (unfoldTo s 97)) setT_zero (words_sz _ _) (setT _) (words_cells _) ?_ ?_ ?_); rfl; (intro _; rfl)) | fail)
  generalize hW3 : W3.heap.size = b4 at H4 hl4 ⊢
  clear hW3
  generalize W3.alloc (.cells (words (unfoldTo s 97)) 26) = W4 at H1a H2a H4 hb2 ⊢
  go_loopw [5] (fun i wr => ∃ k : Nat, i = .int .u8 k ∧ 97 ≤ k ∧ k ≤ 123 ∧ wr.heap[w.heap.size]? = some (.cells (words s) 26 (0, 0)) ∧ wr.heap[w.heap.size + 1]? = some (.cells (words cs0) 26 (0, 0)) ∧ wr.heap[b4]? = some (.cells (words (unfoldTo s k)) 26 (0, 0)) ∧ Below w.heap.size w wr)
    (fun i _ => 123 - (intOf i).toNat)
  case atStart => exact ⟨97, rfl, by omega, by omega, H1a.out, H2a.out, H4.out, hb2⟩
  case round =>
    clear H1a H2a H4 hb2
    obtain ⟨k, rfl, hk0, hk1, h1, h2, h4, hbel⟩ := hrel
    have hl : b4 < wr.heap.size := lt_of_blk h4
    by_cases hlt : k ≤ 122
    · have H1 := Lib.hid h1; have H2 := Lib.hid h2; have H4 := Lib.hid h4; clear h1 h2 h4
      have P1 := has_pure s (k : Int) (by omega) (by omega)
      rw [Int.toNat_natCast] at P1
      have HS := Lib.hid (unfoldTo_succ s k hk0 hlt)
      cases hbit : s.getLsbD k
      · rw [hbit] at P1 HS
        have P1 := Lib.hid P1
        clear hbit
        go_wp2_with (first | ((with_reducible refine wpList_get_row (d := 14) (ty := 26) (x := .tmp 1) _ _ H1.out (setT _) ?_ ?_); rfl) | fail)
        refine (P1.out wr).mono ?_
        rintro e V ⟨rfl, hv⟩
        go_wp2
        go_roundw
        case rel =>
          refine ⟨k + 1, by go_num, by omega, by omega, blk hv H1.out (by omega), blk hv H2.out (by omega), ?_, hbel.trans (hv.mono hbel.size)⟩
          rw [HS.out]; exact blk hv H4.out hl
        case measure => simp [intOf] <;> omega
      · rw [hbit] at P1 HS
        have P1 := Lib.hid P1
        clear hbit
        have P2 := span_pure (k - 32) (k - 32) (by omega) (by omega)
        have e32 : ((k - 32 : Nat) : Int) = (k : Int) - 32 := by omega
        rw [e32] at P2
        have P2 := Lib.hid P2
        clear e32
        have P3 := Lib.hid (union_pure (unfoldTo s k) (spanS (k - 32) (k - 32)))
        go_wp2_with (first | ((with_reducible refine wpList_get_row (d := 14) (ty := 26) (x := .tmp 1) _ _ H1.out (setT _) ?_ ?_); rfl) | fail)
        refine (P1.out wr).mono ?_
        rintro e V ⟨rfl, hv⟩
        go_wp2
        have K1 := Lib.hid (blk hv H1.out (by omega)); have K2 := Lib.hid (blk hv H2.out (by omega)); have K4 := Lib.hid (blk hv H4.out hl)
        have hlv : b4 < V.heap.size := lt_of_blk K4.out
        have hbv := hbel.trans (hv.mono hbel.size)
        refine wp_region_flow_tail (Below V.heap.size V.drew) 7 (by kernel_rfl) (by kernel_rfl) (Below.refl _ _) ?_
        simp only [List.take_succ_cons, List.take_zero, List.drop_succ_cons, List.drop_zero]
        refine wpFlow_load_row b4 26 (fun w' hS => blk hS K4.out hlv) (setT _) rfl rfl ?_
        simp only [Act.put, List.setIfInBounds_toArray, List.set_cons_zero, List.set_cons_succ]
        repeat
          refine wpFlow_step ?_ rfl (fun w' hS => ?_) ?_
          rotate_left
          · have hcc := (bcell hS).1
            go_simp
            try go_bits
            exact gives_value (P := Try.prog) hS
          simp only [Act.put, List.setIfInBounds_toArray, List.set_cons_zero, List.set_cons_succ]
        refine wpFlow_call _ (by kernel_rfl) P2.out (Nat.le_refl _) rfl rfl ?_
        simp only [Act.put, List.setIfInBounds_toArray, List.set_cons_zero, List.set_cons_succ]
        refine wpFlow_call _ (by kernel_rfl) P3.out (Nat.le_refl _) rfl rfl ?_
        simp only [Act.put, List.setIfInBounds_toArray, List.set_cons_zero, List.set_cons_succ]
        refine wpFlow_nil ?_
        intro w' hS
        refine wpList_put_row b4 26 (blk hS K4.out hlv) (words_sz _ _) (setT _) (words_cells _) rfl rfl ?_
        go_wp2
        go_roundw
        case rel =>
          refine ⟨k + 1, by go_num, by omega, by omega, heap_setRow_other (blk hS K1.out (by omega)) (by omega), heap_setRow_other (blk hS K2.out (by omega)) (by omega), ?_, below_setRow (hbv.drew.trans (hS.mono hbv.size)) (by omega) _⟩
          rw [HS.out]; exact heap_setRow_same (blk hS K4.out hlv)
        case measure => simp [intOf] <;> omega
    · have hk : k = 123 := by omega
      subst hk
      go_wp2_with ((with_reducible refine wpList_copy_row (d := 24) (ty := 26) (x := .tmp 4) (y := .tmp 2) _ _ _ _ h4 h2 (words_sz _ _) (setT _) (words_cells _) ?_ ?_ ?_ ?_); rfl; (intro _; rfl); rfl)
      refine ret_row rfl _ _ _ (0, 0) rfl (heap_setRow_same h2) (setT _) rfl ⟨rfl, ?_⟩
      exact below_setRow hbel (by omega) _

def small (n : Nat) : Nat := if 65 ≤ n ∧ n ≤ 90 then n + 32 else n
theorem unfoldS_bit (s : CS) (i : Nat) (hi : i < 256) : (unfoldS s).getLsbD i = s.getLsbD (small i) := by
  rw [unfoldS, unfoldTo, mkS_bit _ _ hi, small]
  by_cases h : 65 ≤ i ∧ i ≤ 90
  · rw [if_pos h, if_pos h]
    have : i + 32 < 123 := by omega
    simp [this]
  · rw [if_neg h, if_neg h]

theorem small_pure (n : Nat) (hn : n < 256) : Pure Try.prog 15 #[.int .u8 n] (.int .u8 (small n)) := by
  intro w
  by_cases h1 : 65 ≤ n
  · by_cases h2 : n ≤ 90
    · have e : ((small n : Nat) : Int) = (n : Int) - 65 + 97 := by rw [small, if_pos ⟨h1, h2⟩]; omega
      rw [e]
      go_enter Try.func15, Try.ntmps15
      go_wp2
      go_ret
      exact ⟨rfl, Below.refl _ _⟩
    · have e : small n = n := by rw [small, if_neg (by omega)]
      rw [e]
      clear e
      go_enter Try.func15, Try.ntmps15
      go_wp2
      go_ret
      exact ⟨rfl, Below.refl _ _⟩
  · have e : small n = n := by rw [small, if_neg (by omega)]
    rw [e]
    clear e
    go_enter Try.func15, Try.ntmps15
    go_wp2
    go_ret
    exact ⟨rfl, Below.refl _ _⟩

end Go.Proofs.Ytkjnhjhkaaampaa
