/-
  The contract of Count.
-/
import Derived.Test.YtkjnhjhkaaampaaPop
namespace Go.Proofs.Ytkjnhjhkaaampaa
open Go Go.RowKit

def cntTo (s : CS) : Nat → Nat
  | 0 => 0
  | k + 1 => cntTo s k + cntR (wdN s k) 64
theorem cntR_le (x n : Nat) : cntR x n ≤ n := by
  have := List.countP_le_length (p := fun i => x.testBit i) (l := List.range n)
  simpa [cntR] using this
theorem cntTo_le (s : CS) (k : Nat) : cntTo s k ≤ 64 * k := by
  induction k with
  | zero => simp [cntTo]
  | succ k ih => have := cntR_le (wdN s k) 64; simp only [cntTo]; omega
theorem cntTo_4 (s : CS) : cntTo s 4 = countS s := by
  rw [← countS_words]; simp only [cntTo]; omega

set_option maxRecDepth 100000 in
theorem count_pure (s : CS) : Pure Try.prog 20 #[.agg (words s)] (.int .i64 (countS s)) := by
  intro w
  have H1 := Lib.hid (heap_alloc_new w (.cells (words s) 26))
  have hb1 : Below w.heap.size w (w.alloc (.cells (words s) 26)) := (Below.refl _ _).alloc (Nat.le_refl _) _
  go_enter Try.func20, Try.ntmps20
  go_wp2_with (first | (with_reducible refine stop_dst (d := 6) ?_) | fail)
  unfold Hid
  generalize w.alloc (.cells (words s) 26) = W1 at H1 hb1 ⊢
  refine wpList_get_row (d := 6) w.heap.size 26 H1.out (setT _) rfl ?_
  simp only [Act.put, List.setIfInBounds_toArray, List.set_cons_zero, List.set_cons_succ]
  go_wp2_with fail
  go_loopw [3, 7] (fun n i wr => ∃ k : Nat, k ≤ 4 ∧ i = .int .i64 k ∧ n = .int .i64 (cntTo s k) ∧ Below w.heap.size w wr)
    (fun _ i _ => 4 - (intOf i).toNat)
  case atStart => exact ⟨0, by omega, rfl, rfl, hb1⟩
  case round =>
    obtain ⟨k, hk, rfl, rfl, hbel⟩ := hrel
    have hle := cntTo_le s k
    by_cases hlt : k < 4
    · have C1 := Lib.hid (ones_pure (wdN s k) (wdN_lt s k))
      obtain ⟨i, hi, hs1⟩ : ∃ i, Try.prog.info? 22 = some i ∧ i.size = 1 := ⟨_, rfl, by kernel_rfl⟩
      have hidx : ∀ W, (Instr.index 26 (.agg (words s)) (.int .i64 (k : Int))).run Try.prog W = .ok (.int .u64 (wd s k)) W := fun W => run_index_arr Try.underlying26 Try.underlying22 (by kernel_rfl) hi hs1 hlt (words_at s k hlt)
      have HS := Lib.hid (show cntTo s (k + 1) = cntTo s k + cntR (wdN s k) 64 from rfl)
      have hcr := cntR_le (wdN s k) 64
      clear hs1 hi
      go_wp2_with fail
      refine (C1.out wr).mono ?_
      rintro e V ⟨rfl, hv⟩
      generalize cntR (wdN s k) 64 = cr at HS hcr ⊢
      generalize cntTo s k = ct at HS hle ⊢
      go_wp2
      go_roundw
      case rel => exact ⟨k + 1, by omega, by go_num, by rw [HS.out]; go_num, hbel.trans (hv.mono hbel.size)⟩
      case measure => simp [intOf] <;> omega
    · have hk4 : k = 4 := by omega
      subst hk4
      rw [cntTo_4]
      generalize hc : countS s = c
      have HC := Lib.hid hc; clear hc
      go_wp2
      go_ret
      exact ⟨by rw [HC.out]; rfl, hbel⟩
end Go.Proofs.Ytkjnhjhkaaampaa
