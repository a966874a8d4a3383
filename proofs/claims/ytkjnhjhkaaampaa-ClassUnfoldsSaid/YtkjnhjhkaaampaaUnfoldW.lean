/-
  The law ClassUnfolds: its walk.
-/
import Derived.Test.YtkjnhjhkaaampaaUnfold
namespace Go.Proofs.Ytkjnhjhkaaampaa
open Go Go.RowKit

theorem lit97 : words (mkS fun i => i == 97) = #[Value.int .u64 0, .int .u64 8589934592, .int .u64 0, .int .u64 0] := by kernel_rfl
theorem unf97 : (unfoldS (mkS fun i => i == 97)).getLsbD 65 = true := by
  rw [unfoldS_bit _ _ (by omega)]; exact mkS_bit _ _ (by decide)

set_option maxRecDepth 100000 in
set_option maxHeartbeats 1000000 in
theorem unfolds_walk (s : CS) (w : World) :
    Calls Try.prog 5 #[.agg (words s)] w fun e w' => e = .returned (.bool true) ∧ Below w.heap.size w w' := by
  have C1 := Lib.hid (unfold_pure s)
  have C2 := Lib.hid (from_pure s)
  have c3 := unfold_pure (mkS fun i => i == 97)
  rw [lit97] at c3
  have C3 := Lib.hid c3; clear c3
  have c4 := has_pure (unfoldS (mkS fun i => i == 97)) 65 (by omega) (by omega)
  rw [show (65 : Int).toNat = 65 from rfl, unf97] at c4
  have C4 := Lib.hid c4; clear c4
  have H1 := Lib.hid (heap_alloc_new w (.cells (words s) 23))
  have hb1 : Below w.heap.size w (w.alloc (.cells (words s) 23)) := (Below.refl _ _).alloc (Nat.le_refl _) _
  go_enter Try.func5, Try.ntmps5
  go_wp2_with (first | (with_reducible refine stop_dst (d := 6) ?_) | fail)
  unfold Hid
  generalize w.alloc (.cells (words s) 23) = W1 at H1 hb1 ⊢
  have hl1 : w.heap.size < W1.heap.size := lt_of_blk H1.out
  refine wpList_get_row (d := 6) w.heap.size 23 H1.out (wordT _) rfl ?_
  simp only [Act.put, List.setIfInBounds_toArray, List.set_cons_zero, List.set_cons_succ]
  go_wp2_with fail
  refine (C1.out W1).mono ?_
  rintro e W2 ⟨rfl, hv⟩
  have H1a := Lib.hid (heap_alloc_keep (o' := .cells (words (unfoldS s)) 26) (blk hv H1.out hl1))
  have H3 := Lib.hid (heap_alloc_new W2 (.cells (words (unfoldS s)) 26))
  have hb2 : Below w.heap.size w (W2.alloc (.cells (words (unfoldS s)) 26)) := (hb1.trans (hv.mono hb1.size)).alloc (Nat.le_trans hb1.size hv.size) _
  have hl2 : w.heap.size < W2.heap.size := Nat.lt_of_lt_of_le hl1 hv.size
  clear H1 hb1 hv C1
  go_wp2_with (first | ((with_reducible refine wpList_var_row (d := 3) (ty := 26) (y := .tmp 7) (cs := words (unfoldS s)) setT_zero (words_sz _ _) (setT _) (words_cells _) ?_ ?_ ?_); rfl; (intro _; rfl)) | (with_reducible refine stop_dst (d := 8) ?_) | fail)
  unfold Hid
  generalize hW2 : W2.heap.size = b3 at H3 hl2 ⊢
  clear hW2
  generalize W2.alloc (.cells (words (unfoldS s)) 26) = W3 at H1a H3 hb2 ⊢
  have hl3 : b3 < W3.heap.size := lt_of_blk H3.out
  refine wpList_get_row (d := 8) w.heap.size 23 H1a.out (wordT _) rfl ?_
  simp only [Act.put, List.setIfInBounds_toArray, List.set_cons_zero, List.set_cons_succ]
  go_wp2_with fail
  refine (C2.out W3).mono ?_
  rintro e W4 ⟨rfl, hv⟩
  have H3a := Lib.hid (heap_alloc_keep (o' := .cells (boolsF s.getLsbD) 28) (blk hv H3.out hl3))
  have H4 := Lib.hid (heap_alloc_new W4 (.cells (boolsF s.getLsbD) 28))
  have hb3 : Below w.heap.size w (W4.alloc (.cells (boolsF s.getLsbD) 28)) := (hb2.trans (hv.mono hb2.size)).alloc (Nat.le_trans hb2.size hv.size) _
  have hl4 : b3 < W4.heap.size := Nat.lt_of_lt_of_le hl3 hv.size
  clear H1a H3 hb2 hv C2
  go_wp2_with (first | ((with_reducible refine wpList_var_row (d := 4) (ty := 28) (y := .tmp 9) (cs := boolsF s.getLsbD) boolT_zero (boolsF_sz _ _) (boolT _) (boolsF_cells _) ?_ ?_ ?_); rfl; (intro _; rfl)) | fail)
  generalize hW4 : W4.heap.size = b4 at H4 hl4 ⊢
  clear hW4
  generalize W4.alloc (.cells (boolsF s.getLsbD) 28) = W5 at H3a H4 hb3 ⊢
  go_loopw [5] (fun i wr => ∃ k : Nat, i = .int .i64 k ∧ k ≤ 256 ∧ wr.heap[b3]? = some (.cells (words (unfoldS s)) 26 (0, 0)) ∧ wr.heap[b4]? = some (.cells (boolsF s.getLsbD) 28 (0, 0)) ∧ Below w.heap.size w wr)
    (fun i _ => 256 - (intOf i).toNat)
  case atStart => exact ⟨0, rfl, by omega, H3a.out, H4.out, hb3⟩
  case round =>
    clear H3a H4 hb3
    obtain ⟨k, rfl, hk, h3, h4, hbel⟩ := hrel
    have hl : b4 < wr.heap.size := lt_of_blk h4
    by_cases hlt : k < 256
    · have H3 := Lib.hid h3; have H4 := Lib.hid h4; clear h3 h4
      have P1 := has_pure (unfoldS s) (k : Int) (by omega) (by omega)
      have P2 := Lib.hid (small_pure k hlt)
      rw [Int.toNat_natCast, unfoldS_bit s k hlt] at P1
      have hsm : small k < 256 := by unfold small; split <;> omega
      have P1 := Lib.hid P1
      have q := boolsF_at s.getLsbD (small k) hsm
      generalize s.getLsbD (small k) = x at P1 q
      have e1 : ((k : Int) % 256) = k := by omega
      go_wp2_with (first | (with_reducible refine stop_dst (d := 14) ?_) | fail)
      unfold Hid
      refine wpList_get_row (d := 14) b3 26 H3.out (setT _) rfl ?_
      simp only [Act.put, List.setIfInBounds_toArray, List.set_cons_zero, List.set_cons_succ]
      go_wp2_with fail
      refine (P1.out wr).mono ?_
      rintro e V ⟨rfl, hv⟩
      go_wp2_with fail
      refine (P2.out V).mono ?_
      rintro e V2 ⟨rfl, hv2⟩
      have K3 := Lib.hid (blk hv2 (blk hv H3.out (by omega)) (Nat.lt_of_lt_of_le (by omega) hv.size))
      have K4 := Lib.hid (blk hv2 (blk hv H4.out hl) (Nat.lt_of_lt_of_le hl hv.size))
      have hcell : ∀ i, V2.cell? ⟨b4, i, none⟩ = _ := fun i => cell_of_row _ _ i _ _ _ K4.out
      generalize small k = sk at hsm q ⊢
      go_wp2
      go_roundw
      case rel => exact ⟨k + 1, by go_num, by omega, K3.out, K4.out, (hbel.trans (hv.mono hbel.size)).trans (hv2.mono (Nat.le_trans hbel.size hv.size))⟩
      case measure => simp [intOf] <;> omega
    · clear h3 h4
      go_wp2_with fail
      refine (C3.out wr).mono ?_
      rintro e V ⟨rfl, hv⟩
      go_wp2_with fail
      refine (C4.out V).mono ?_
      rintro e V2 ⟨rfl, hv2⟩
      go_wp2
      go_ret
      exact ⟨rfl, (hbel.trans (hv.mono hbel.size)).trans (hv2.mono (Nat.le_trans hbel.size hv.size))⟩
end Go.Proofs.Ytkjnhjhkaaampaa
