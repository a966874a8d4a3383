/-
  Merged: RefShow, Rback, Shows.
-/
import Derived.Test.YtohnchdnkbadaaaDoorPd3
namespace Go.Proofs.YtohnchdnkbadaaaDoor
open Go Go.RowKit
set_option maxRecDepth 100000 in
theorem aqq {s : CS} {k : Nat} (hk : k < 256) (hb : s.getLsbD k = true) (h : ∀ i, i < k → s.getLsbD i = false) : aav s 0 = some k := by
 cases hn : aav s 0 with
 | none => have := ah4 hn k (by omega) hk; rw [hb] at this; cases this
 | some c =>
  obtain ⟨h1, h2, h3, h4⟩ := ahu hn
  rcases Nat.lt_trichotomy c k with h5 | h5 | h5
  ·rw [h c h5] at h3; cases h3
  ·rw [h5]
  ·rw [h4 k (by omega) h5] at hb; cases hb
set_option maxRecDepth 100000 in
theorem aj7 {s : CS} (h : ∀ i, i < 256 → s.getLsbD i = false) : s8 s = 0 := by
 unfold s8
 rw [List.countP_eq_zero]
 intro i hi
 rw [h i (List.mem_range.1 hi)]; simp
set_option maxRecDepth 100000 in
theorem a0c (f : Nat → Bool) : RowT Tryd.prog 100 (x4 f).size := by rw [arn]; exact ⟨by kernel_rfl, by kernel_rfl⟩
set_option maxRecDepth 100000 in
theorem aoc (s : CS) : (List.range 256).countP s.getLsbD = s8 s := rfl
set_option maxRecDepth 100000 in
theorem x7 (b : Nat) (hb : b < 256) (l : List UInt8) : aen Tryd.prog 128 #[.int .u8 b, .bool (l.contains b.toUInt8)] (.string (bs (l0 b l))) := ayu b hb _
set_option maxRecDepth 100000 in
set_option maxHeartbeats 1000000 in
theorem apo (s : CS) (h1 : s8 s = 1) : aen Tryd.prog 87 #[.agg (x4 s.getLsbD)] (.string (bs (u1 s))) := by
 intro w
 have HS := Lib.hid (show u1 s = l0 ((aav s 0).getD 0) spL by unfold u1; rw [if_pos h1])
 have HN : Hid (¬ ∀ i, i < 256 → s.getLsbD i = false) := Lib.hid (fun h => by have := aj7 h; omega)
 have c0 := aoi s.getLsbD
 rw [aoc] at c0
 have C0 := Lib.hid c0; clear c0
 have H0 := Lib.hid (heap_alloc_new w (.cells (x4 s.getLsbD) 100))
 have hb0 : Below w.heap.size w (w.alloc (.cells (x4 s.getLsbD) 100)) := (Below.refl _ _).alloc (Nat.le_refl _) _
 go_enter Tryd.func87, Tryd.ntmps87
 go_wp2_with (first | (with_reducible refine abg (d := 10) ?_) | fail)
 unfold Hid
 generalize w.alloc (.cells (x4 s.getLsbD) 100) = W1 at H0 hb0 ⊢
 have hl0 : w.heap.size < W1.heap.size := b6 H0.out
 refine n9 (d := 10) w.heap.size 100 H0.out (a0c _) rfl ?_
 simp only [Act.put, List.setIfInBounds_toArray, List.set_cons_zero, List.set_cons_succ]
 go_wp2_with fail
 refine (C0.out W1).mono ?_
 rintro e0 W2 ⟨rfl, hv⟩
 have H1 := Lib.hid (blk hv H0.out hl0)
 have hb1 := hb0.trans (hv.mono hb0.size)
 have hl1 : w.heap.size < W2.heap.size := b6 H1.out
 clear hv hb0 H0 hl0 C0
 rw [h1]
 clear h1
 go_wp2_with fail
 go_loopw [4] (fun i wr => ∃ k : Nat, i = .int .i64 k ∧ k ≤ 256 ∧ (∀ i, i < k → s.getLsbD i = false) ∧ wr = W2)
  (fun i _ => 256 - (intOf i).toNat)
 case atStart => exact ⟨0, rfl, by omega, fun i h => by omega, rfl⟩
 case round =>
  obtain ⟨k, rfl, hk, hall, rfl⟩ := hrel
  have HA := Lib.hid hall; clear hall
  by_cases hlt : k < 256
  ·have hcell : wr.cell? ⟨w.heap.size, k, none⟩ = some (.bool (s.getLsbD k)) := (cell_of_row _ _ k _ _ _ H1.out).trans (aa3 _ k hlt)
   cases hf : s.getLsbD k
   ·rw [hf] at hcell
    have HF := Lib.hid hf; clear hf
    go_wp2
    go_roundw
    case rel =>
     refine ⟨k + 1, by go_num, by omega, fun i h => ?_, trivial⟩
     by_cases he : i = k
     ·subst he; exact HF.out
     ·exact HA.out i (by omega)
    case measure => simp [intOf] <;> omega
   ·have HQ := Lib.hid (show u1 s = l0 k spL by rw [HS.out, aqq hlt hf HA.out]; rfl)
    rw [hf] at hcell
    clear hf
    have C2 := Lib.hid (akn k hlt)
    have C3 := Lib.hid (x7 k hlt spL)
    generalize spL.contains k.toUInt8 = r at C2 C3
    go_wp2_with fail
    refine (C2.out wr).mono ?_
    rintro e0 W3 ⟨rfl, hv⟩
    have hb2 := hb1.trans (hv.mono hb1.size)
    go_wp2_with fail
    refine (C3.out W3).mono ?_
    rintro e0 W4 ⟨rfl, hv3⟩
    go_wp2
    go_ret
    exact ⟨by rw [HQ.out]; rfl, hb2.trans (hv3.mono hb2.size)⟩
  ·exact absurd (fun i hi => HA.out i (by omega)) HN.out
set_option maxRecDepth 100000 in
set_option maxHeartbeats 20000000 in
theorem anf (s : CS) (h1 : s8 s ≠ 1) : aen Tryd.prog 87 #[.agg (x4 s.getLsbD)] (.string (bs (u1 s))) := by
 intro w
 have hcb : s8 s ≤ 256 := by
  have := List.countP_le_length (p := fun i => s.getLsbD i) (l := List.range 256)
  simpa [s8] using this
 have HS0 := Lib.hid (show u1 s = if 128 < s8 s then [91, 94] ++ d5 (~~~ s) 256 ++ [93] else [91] ++ d5 s 256 ++ [93] by unfold u1; rw [if_neg h1])
 have hn1 : ((s8 s : Int) == 1) = false := by simpa using (show ¬ ((s8 s : Int) = 1) by omega)
 clear h1
 have c0 := aoi s.getLsbD
 rw [aoc] at c0
 have C0 := Lib.hid c0; clear c0
 have H0 := Lib.hid (heap_alloc_new w (.cells (x4 s.getLsbD) 100))
 have hb0 : Below w.heap.size w (w.alloc (.cells (x4 s.getLsbD) 100)) := (Below.refl _ _).alloc (Nat.le_refl _) _
 go_enter Tryd.func87, Tryd.ntmps87
 go_wp2_with (first | (with_reducible refine abg (d := 10) ?_) | fail)
 unfold Hid
 generalize w.alloc (.cells (x4 s.getLsbD) 100) = W1 at H0 hb0 ⊢
 have hl0 : w.heap.size < W1.heap.size := b6 H0.out
 refine n9 (d := 10) w.heap.size 100 H0.out (a0c _) rfl ?_
 simp only [Act.put, List.setIfInBounds_toArray, List.set_cons_zero, List.set_cons_succ]
 go_wp2_with fail
 refine (C0.out W1).mono ?_
 rintro e0 W2 ⟨rfl, hv⟩
 have H1 := Lib.hid (blk hv H0.out hl0)
 have hb1 := hb0.trans (hv.mono hb0.size)
 have hl1 : w.heap.size < W2.heap.size := b6 H1.out
 clear hv hb0 H0 hl0 C0
 generalize s8 s = n at *
 by_cases h128 : 128 < n
 ·have HS := Lib.hid (HS0.out.trans (if_pos h128))
  clear HS0
  have hd128 : decide ((128 : Int) < (n : Int)) = true := decide_eq_true (by omega)
  clear h128
  go_wp2_with fail
  have HI : Hid (∀ i, i < 256 → (~~~ s).getLsbD i = true → s.getLsbD i = false) := Lib.hid fun i hi h => by simpa [hi] using h
  have HO : Hid (∀ i, i < 256 → (~~~ s).getLsbD i = false → s.getLsbD i = true) := Lib.hid fun i hi h => by simpa [hi] using h
  have h0 : (⟨#[91, 94]⟩ : ByteArray) = bs [91, 94] := rfl
  rw [h0]
  clear h0
  have hpre : ([91, 94] : List UInt8).length ≤ 2 := by decide
  generalize ([91, 94] : List UInt8) = pre at *
  generalize ~~~ s = S at *
  go_loopw [5, 7] (fun out i wr => ∃ k : Nat, i = .int .i64 k ∧ k ≤ 256 ∧ out = .string (bs (pre ++ d5 S k)) ∧ wr.heap[w.heap.size]? = some (.cells (x4 s.getLsbD) 100 (0, 0)) ∧ Below w.heap.size w wr)
   (fun _ i _ => 256 - (intOf i).toNat)
  case atStart => exact ⟨0, rfl, by omega, by simp [d5], H1.out, hb1⟩
  case round =>
   obtain ⟨k, rfl, hk, rfl, hblk0, hb3⟩ := hrel
   have H3 := Lib.hid hblk0; clear hblk0
   have hl3 : w.heap.size < wr.heap.size := b6 H3.out
   clear H1 hb1 hl1
   by_cases hk6 : k < 256
   ·have hc3 : wr.cell? ⟨w.heap.size, k, none⟩ = some (.bool (s.getLsbD k)) := (cell_of_row _ _ k _ _ _ H3.out).trans (aa3 _ k hk6)
    by_cases hbit : S.getLsbD k = true
    ·rw [HI.out _ hk6 hbit] at hc3
     by_cases hk0 : k = 0
     ·have hkd : k < 1 := by omega
      have hstart : (k == 0 || !S.getLsbD (k - 1)) = true := by rw [hk0]; rfl
      clear hk0
      go_wp2_with fail
      clear hkd
      (try (rename (k : Int) ≤ 0 => hk9; clear hk9))
      (try (rename ¬ (0 : Int) < (k : Int) => hk9; clear hk9))
      go_loopw [8] (fun i wr => ∃ j : Nat, i = .int .i64 j ∧ 1 ≤ j ∧ k + j ≤ 256 ∧ (∀ i, k < i → i < k + j → S.getLsbD i = true) ∧ wr.heap[w.heap.size]? = some (.cells (x4 s.getLsbD) 100 (0, 0)) ∧ Below w.heap.size w wr)
       (fun i _ => 256 - (intOf i).toNat)
      case atStart => exact ⟨1, rfl, by omega, by omega, fun i h1 h2 => by omega, H3.out, hb3⟩
      case round =>
       obtain ⟨j, rfl, hj1, hj2, hrun, hblk1, hb5⟩ := hrel
       have H5 := Lib.hid hblk1; clear hblk1
       clear H3 hb3 hl3
       have hl5 : w.heap.size < wr.heap.size := b6 H5.out
       by_cases hj6 : k + j < 256
       ·have hc5 : wr.cell? ⟨w.heap.size, k + j, none⟩ = some (.bool (s.getLsbD (k + j))) := (cell_of_row _ _ (k + j) _ _ _ H5.out).trans (aa3 _ (k + j) hj6)
        have hde : decide ((k : Int) + (j : Int) < 256) = true := decide_eq_true (by omega)
        by_cases hb2 : S.getLsbD (k + j) = true
        ·rw [HI.out _ hj6 hb2] at hc5
         go_wp2
         go_roundw
         case rel =>
          refine ⟨j + 1, by go_num, by omega, by omega, fun i h1 h2 => ?_, H5.out, hb5⟩
          by_cases hx : i = k + j
          ·rw [hx]; exact hb2
          ·exact hrun i h1 (by omega)
         case measure => simp [intOf] <;> omega
        ·have hb2' : S.getLsbD (k + j) = false := by simpa using hb2
         rw [HO.out _ hj6 hb2'] at hc5
         have hend : ∀ e, k + j = e + 1 → e < 255 → S.getLsbD (e + 1) = false := fun e he _ => by rw [← he]; exact hb2'
         clear hb2
         obtain ⟨e, he⟩ : ∃ e, k + j = e + 1 := ⟨k + j - 1, by omega⟩
         have hE : (k : Int) + j - 1 = (e : Int) := by omega
         have hre := w4 (s := S) (k := k) (e := e) (by omega) (by omega) (fun i h1 h2 => hrun i h1 (by omega)) (hend e he)
         have hT : pre ++ d5 S (k + 1) = pre ++ d5 S k ++ u7 k e := by rw [d5, w7, hre, hbit, hstart, Bool.true_and, if_pos rfl, List.append_assoc]
         have CI1 := Lib.hid (v8 k (by omega))
         have CS1 := Lib.hid (x7 k (by omega) inL)
         have hq1 := l8 k inL
         have CI2 := Lib.hid (v8 e (by omega))
         have CS2 := Lib.hid (x7 e (by omega) inL)
         have hq2 := l8 e inL
         have hol : (pre ++ d5 S k).length ≤ 2 + 9 * k := by have := r8 S k; rw [List.length_append]; omega
         have HE := Lib.hid he
         clear hend hre hrun hstart hbit HI HO he
         have HB := Lib.hid d6
         generalize pre ++ d5 S k = o at hol hT ⊢
         unfold u7 at hT
         generalize hq : l0 k inL = q1 at hq1 CS1 hT
         clear hq
         generalize hq : l0 e inL = q2 at hq2 CS2 hT
         clear hq
         generalize inL.contains k.toUInt8 = r1 at CI1 CS1
         generalize inL.contains e.toUInt8 = r2 at CI2 CS2
         have z1 : (bs o).size ≤ 2 + 9 * 256 := by rw [f0]; omega
         have z2 : (bs q1).size ≤ 4 := by rw [f0]; omega
         have z3 : (bs q2).size ≤ 4 := by rw [f0]; omega
         have z4 : (bs o ++ bs q1).size ≤ 2 + 9 * 256 + 4 := by rw [d6, f0, List.length_append]; omega
         clear hol hq1 hq2
         by_cases c1 : 2 < j
         ·rw [if_pos (show k + 1 < e by have := HE.out; omega), if_pos (show k < e by have := HE.out; omega)] at hT
          have HT := Lib.hid hT; clear hT
          have z5 : (bs o ++ bs q1 ++ (⟨#[45]⟩ : ByteArray)).size ≤ 2 + 9 * 256 + 5 := by rw [show (⟨#[45]⟩ : ByteArray) = bs [45] from rfl, d6, d6, f0]; rw [d6, f0] at z4; simp only [List.length_append, List.length_cons, List.length_nil] at z4 ⊢; omega
          go_wp2_with fail
          refine (CI1.out wr).mono ?_
          rintro e0 V1 ⟨rfl, hv⟩
          have hb7 := hb5.trans (hv.mono hb5.size)
          have H7 := Lib.hid (blk hv H5.out hl5)
          have hl7 : w.heap.size < V1.heap.size := b6 H7.out
          clear hv hb5 H5 hl5 CI1
          go_wp2_with fail
          refine (CS1.out V1).mono ?_
          rintro e0 V2 ⟨rfl, hv⟩
          have hb8 := hb7.trans (hv.mono hb7.size)
          have H8 := Lib.hid (blk hv H7.out hl7)
          have hl8 : w.heap.size < V2.heap.size := b6 H8.out
          clear hv hb7 H7 hl7 CS1
          go_wp2_with fail
          refine (CI2.out V2).mono ?_
          rintro e0 V3 ⟨rfl, hv⟩
          have hb9 := hb8.trans (hv.mono hb8.size)
          have H9 := Lib.hid (blk hv H8.out hl8)
          have hl9 : w.heap.size < V3.heap.size := b6 H9.out
          clear hv hb8 H8 hl8 CI2
          go_wp2_with fail
          refine (CS2.out V3).mono ?_
          rintro e0 V4 ⟨rfl, hv⟩
          have hb10 := hb9.trans (hv.mono hb9.size)
          have H10 := Lib.hid (blk hv H9.out hl9)
          clear hv hb9 H9 hl9 CS2
          go_wp2
          go_roundw
          case rel => exact ⟨k + 1, by go_num, by omega, by rw [HT.out]; show Value.string (bs o ++ bs q1 ++ bs [45] ++ bs q2) = _; simp only [HB.out, List.append_assoc], H10.out, hb10⟩
          case measure => simp [intOf] <;> omega
         ·by_cases c2 : 1 < j
          ·rw [if_neg (show ¬ k + 1 < e by have := HE.out; omega), if_pos (show k < e by have := HE.out; omega), List.append_nil] at hT
           have HT := Lib.hid hT; clear hT
           go_wp2_with fail
           refine (CI1.out wr).mono ?_
           rintro e0 V1 ⟨rfl, hv⟩
           have hb7 := hb5.trans (hv.mono hb5.size)
           have H7 := Lib.hid (blk hv H5.out hl5)
           have hl7 : w.heap.size < V1.heap.size := b6 H7.out
           clear hv hb5 H5 hl5 CI1
           go_wp2_with fail
           refine (CS1.out V1).mono ?_
           rintro e0 V2 ⟨rfl, hv⟩
           have hb8 := hb7.trans (hv.mono hb7.size)
           have H8 := Lib.hid (blk hv H7.out hl7)
           have hl8 : w.heap.size < V2.heap.size := b6 H8.out
           clear hv hb7 H7 hl7 CS1
           go_wp2_with fail
           refine (CI2.out V2).mono ?_
           rintro e0 V3 ⟨rfl, hv⟩
           have hb9 := hb8.trans (hv.mono hb8.size)
           have H9 := Lib.hid (blk hv H8.out hl8)
           have hl9 : w.heap.size < V3.heap.size := b6 H9.out
           clear hv hb8 H8 hl8 CI2
           go_wp2_with fail
           refine (CS2.out V3).mono ?_
           rintro e0 V4 ⟨rfl, hv⟩
           have hb10 := hb9.trans (hv.mono hb9.size)
           have H10 := Lib.hid (blk hv H9.out hl9)
           clear hv hb9 H9 hl9 CS2
           go_wp2
           go_roundw
           case rel => exact ⟨k + 1, by go_num, by omega, by rw [HT.out]; show Value.string (bs o ++ bs q1 ++ bs q2) = _; simp only [HB.out, List.append_assoc], H10.out, hb10⟩
           case measure => simp [intOf] <;> omega
          ·rw [if_neg (show ¬ k + 1 < e by have := HE.out; omega), if_neg (show ¬ k < e by have := HE.out; omega), List.append_nil, List.append_nil] at hT
           have HT := Lib.hid hT; clear hT
           clear CS2 CI2
           go_wp2_with fail
           refine (CI1.out wr).mono ?_
           rintro e0 V1 ⟨rfl, hv⟩
           have hb7 := hb5.trans (hv.mono hb5.size)
           have H7 := Lib.hid (blk hv H5.out hl5)
           have hl7 : w.heap.size < V1.heap.size := b6 H7.out
           clear hv hb5 H5 hl5 CI1
           go_wp2_with fail
           refine (CS1.out V1).mono ?_
           rintro e0 V2 ⟨rfl, hv⟩
           have hb8 := hb7.trans (hv.mono hb7.size)
           have H8 := Lib.hid (blk hv H7.out hl7)
           have hl8 : w.heap.size < V2.heap.size := b6 H8.out
           clear hv hb7 H7 hl7 CS1
           go_wp2
           go_roundw
           case rel => exact ⟨k + 1, by go_num, by omega, by rw [HT.out]; show Value.string (bs o ++ bs q1) = _; simp only [HB.out], H8.out, hb8⟩
           case measure => simp [intOf] <;> omega
       ·have hend : ∀ e, k + j = e + 1 → e < 255 → S.getLsbD (e + 1) = false := fun e he h => by omega
        have hde : decide ((k : Int) + (j : Int) < 256) = false := decide_eq_false (by omega)
        clear hj6
        obtain ⟨e, he⟩ : ∃ e, k + j = e + 1 := ⟨k + j - 1, by omega⟩
        have hE : (k : Int) + j - 1 = (e : Int) := by omega
        have hre := w4 (s := S) (k := k) (e := e) (by omega) (by omega) (fun i h1 h2 => hrun i h1 (by omega)) (hend e he)
        have hT : pre ++ d5 S (k + 1) = pre ++ d5 S k ++ u7 k e := by rw [d5, w7, hre, hbit, hstart, Bool.true_and, if_pos rfl, List.append_assoc]
        have CI1 := Lib.hid (v8 k (by omega))
        have CS1 := Lib.hid (x7 k (by omega) inL)
        have hq1 := l8 k inL
        have CI2 := Lib.hid (v8 e (by omega))
        have CS2 := Lib.hid (x7 e (by omega) inL)
        have hq2 := l8 e inL
        have hol : (pre ++ d5 S k).length ≤ 2 + 9 * k := by have := r8 S k; rw [List.length_append]; omega
        have HE := Lib.hid he
        clear hend hre hrun hstart hbit HI HO he
        have HB := Lib.hid d6
        generalize pre ++ d5 S k = o at hol hT ⊢
        unfold u7 at hT
        generalize hq : l0 k inL = q1 at hq1 CS1 hT
        clear hq
        generalize hq : l0 e inL = q2 at hq2 CS2 hT
        clear hq
        generalize inL.contains k.toUInt8 = r1 at CI1 CS1
        generalize inL.contains e.toUInt8 = r2 at CI2 CS2
        have z1 : (bs o).size ≤ 2 + 9 * 256 := by rw [f0]; omega
        have z2 : (bs q1).size ≤ 4 := by rw [f0]; omega
        have z3 : (bs q2).size ≤ 4 := by rw [f0]; omega
        have z4 : (bs o ++ bs q1).size ≤ 2 + 9 * 256 + 4 := by rw [d6, f0, List.length_append]; omega
        clear hol hq1 hq2
        by_cases c1 : 2 < j
        ·rw [if_pos (show k + 1 < e by have := HE.out; omega), if_pos (show k < e by have := HE.out; omega)] at hT
         have HT := Lib.hid hT; clear hT
         have z5 : (bs o ++ bs q1 ++ (⟨#[45]⟩ : ByteArray)).size ≤ 2 + 9 * 256 + 5 := by rw [show (⟨#[45]⟩ : ByteArray) = bs [45] from rfl, d6, d6, f0]; rw [d6, f0] at z4; simp only [List.length_append, List.length_cons, List.length_nil] at z4 ⊢; omega
         go_wp2_with fail
         refine (CI1.out wr).mono ?_
         rintro e0 V1 ⟨rfl, hv⟩
         have hb7 := hb5.trans (hv.mono hb5.size)
         have H7 := Lib.hid (blk hv H5.out hl5)
         have hl7 : w.heap.size < V1.heap.size := b6 H7.out
         clear hv hb5 H5 hl5 CI1
         go_wp2_with fail
         refine (CS1.out V1).mono ?_
         rintro e0 V2 ⟨rfl, hv⟩
         have hb8 := hb7.trans (hv.mono hb7.size)
         have H8 := Lib.hid (blk hv H7.out hl7)
         have hl8 : w.heap.size < V2.heap.size := b6 H8.out
         clear hv hb7 H7 hl7 CS1
         go_wp2_with fail
         refine (CI2.out V2).mono ?_
         rintro e0 V3 ⟨rfl, hv⟩
         have hb9 := hb8.trans (hv.mono hb8.size)
         have H9 := Lib.hid (blk hv H8.out hl8)
         have hl9 : w.heap.size < V3.heap.size := b6 H9.out
         clear hv hb8 H8 hl8 CI2
         go_wp2_with fail
         refine (CS2.out V3).mono ?_
         rintro e0 V4 ⟨rfl, hv⟩
         have hb10 := hb9.trans (hv.mono hb9.size)
         have H10 := Lib.hid (blk hv H9.out hl9)
         clear hv hb9 H9 hl9 CS2
         go_wp2
         go_roundw
         case rel => exact ⟨k + 1, by go_num, by omega, by rw [HT.out]; show Value.string (bs o ++ bs q1 ++ bs [45] ++ bs q2) = _; simp only [HB.out, List.append_assoc], H10.out, hb10⟩
         case measure => simp [intOf] <;> omega
        ·by_cases c2 : 1 < j
         ·rw [if_neg (show ¬ k + 1 < e by have := HE.out; omega), if_pos (show k < e by have := HE.out; omega), List.append_nil] at hT
          have HT := Lib.hid hT; clear hT
          go_wp2_with fail
          refine (CI1.out wr).mono ?_
          rintro e0 V1 ⟨rfl, hv⟩
          have hb7 := hb5.trans (hv.mono hb5.size)
          have H7 := Lib.hid (blk hv H5.out hl5)
          have hl7 : w.heap.size < V1.heap.size := b6 H7.out
          clear hv hb5 H5 hl5 CI1
          go_wp2_with fail
          refine (CS1.out V1).mono ?_
          rintro e0 V2 ⟨rfl, hv⟩
          have hb8 := hb7.trans (hv.mono hb7.size)
          have H8 := Lib.hid (blk hv H7.out hl7)
          have hl8 : w.heap.size < V2.heap.size := b6 H8.out
          clear hv hb7 H7 hl7 CS1
          go_wp2_with fail
          refine (CI2.out V2).mono ?_
          rintro e0 V3 ⟨rfl, hv⟩
          have hb9 := hb8.trans (hv.mono hb8.size)
          have H9 := Lib.hid (blk hv H8.out hl8)
          have hl9 : w.heap.size < V3.heap.size := b6 H9.out
          clear hv hb8 H8 hl8 CI2
          go_wp2_with fail
          refine (CS2.out V3).mono ?_
          rintro e0 V4 ⟨rfl, hv⟩
          have hb10 := hb9.trans (hv.mono hb9.size)
          have H10 := Lib.hid (blk hv H9.out hl9)
          clear hv hb9 H9 hl9 CS2
          go_wp2
          go_roundw
          case rel => exact ⟨k + 1, by go_num, by omega, by rw [HT.out]; show Value.string (bs o ++ bs q1 ++ bs q2) = _; simp only [HB.out, List.append_assoc], H10.out, hb10⟩
          case measure => simp [intOf] <;> omega
         ·rw [if_neg (show ¬ k + 1 < e by have := HE.out; omega), if_neg (show ¬ k < e by have := HE.out; omega), List.append_nil, List.append_nil] at hT
          have HT := Lib.hid hT; clear hT
          clear CS2 CI2
          go_wp2_with fail
          refine (CI1.out wr).mono ?_
          rintro e0 V1 ⟨rfl, hv⟩
          have hb7 := hb5.trans (hv.mono hb5.size)
          have H7 := Lib.hid (blk hv H5.out hl5)
          have hl7 : w.heap.size < V1.heap.size := b6 H7.out
          clear hv hb5 H5 hl5 CI1
          go_wp2_with fail
          refine (CS1.out V1).mono ?_
          rintro e0 V2 ⟨rfl, hv⟩
          have hb8 := hb7.trans (hv.mono hb7.size)
          have H8 := Lib.hid (blk hv H7.out hl7)
          have hl8 : w.heap.size < V2.heap.size := b6 H8.out
          clear hv hb7 H7 hl7 CS1
          go_wp2
          go_roundw
          case rel => exact ⟨k + 1, by go_num, by omega, by rw [HT.out]; show Value.string (bs o ++ bs q1) = _; simp only [HB.out], H8.out, hb8⟩
          case measure => simp [intOf] <;> omega
     ·have hc4 : wr.cell? ⟨w.heap.size, k - 1, none⟩ = some (.bool (s.getLsbD (k - 1))) := (cell_of_row _ _ (k - 1) _ _ _ H3.out).trans (aa3 _ (k - 1) (by omega))
      have hkd : decide ((0 : Int) < (k : Int)) = true := decide_eq_true (by omega)
      by_cases hprev : S.getLsbD (k - 1) = true
      ·rw [HI.out _ (by omega) hprev] at hc4
       have hT : d5 S (k + 1) = d5 S k := by
        have hz : (k == 0) = false := by simpa using hk0
        rw [d5, w7, hbit, hprev, hz]; simp
       go_wp2
       go_roundw
       case rel => exact ⟨k + 1, by go_num, by omega, by rw [hT], H3.out, hb3⟩
       case measure => simp [intOf] <;> omega
      ·have hprev' : S.getLsbD (k - 1) = false := by simpa using hprev
       rw [HO.out _ (by omega) hprev'] at hc4
       have hstart : (k == 0 || !S.getLsbD (k - 1)) = true := by rw [hprev']; simp
       clear hprev hprev'
       go_wp2_with fail
       go_loopw [8] (fun i wr => ∃ j : Nat, i = .int .i64 j ∧ 1 ≤ j ∧ k + j ≤ 256 ∧ (∀ i, k < i → i < k + j → S.getLsbD i = true) ∧ wr.heap[w.heap.size]? = some (.cells (x4 s.getLsbD) 100 (0, 0)) ∧ Below w.heap.size w wr)
        (fun i _ => 256 - (intOf i).toNat)
       case atStart => exact ⟨1, rfl, by omega, by omega, fun i h1 h2 => by omega, H3.out, hb3⟩
       case round =>
        obtain ⟨j, rfl, hj1, hj2, hrun, hblk1, hb5⟩ := hrel
        have H5 := Lib.hid hblk1; clear hblk1
        clear H3 hb3 hl3
        have hl5 : w.heap.size < wr.heap.size := b6 H5.out
        by_cases hj6 : k + j < 256
        ·have hc5 : wr.cell? ⟨w.heap.size, k + j, none⟩ = some (.bool (s.getLsbD (k + j))) := (cell_of_row _ _ (k + j) _ _ _ H5.out).trans (aa3 _ (k + j) hj6)
         have hde : decide ((k : Int) + (j : Int) < 256) = true := decide_eq_true (by omega)
         by_cases hb2 : S.getLsbD (k + j) = true
         ·rw [HI.out _ hj6 hb2] at hc5
          go_wp2
          go_roundw
          case rel =>
           refine ⟨j + 1, by go_num, by omega, by omega, fun i h1 h2 => ?_, H5.out, hb5⟩
           by_cases hx : i = k + j
           ·rw [hx]; exact hb2
           ·exact hrun i h1 (by omega)
          case measure => simp [intOf] <;> omega
         ·have hb2' : S.getLsbD (k + j) = false := by simpa using hb2
          rw [HO.out _ hj6 hb2'] at hc5
          have hend : ∀ e, k + j = e + 1 → e < 255 → S.getLsbD (e + 1) = false := fun e he _ => by rw [← he]; exact hb2'
          clear hb2
          obtain ⟨e, he⟩ : ∃ e, k + j = e + 1 := ⟨k + j - 1, by omega⟩
          have hE : (k : Int) + j - 1 = (e : Int) := by omega
          have hre := w4 (s := S) (k := k) (e := e) (by omega) (by omega) (fun i h1 h2 => hrun i h1 (by omega)) (hend e he)
          have hT : pre ++ d5 S (k + 1) = pre ++ d5 S k ++ u7 k e := by rw [d5, w7, hre, hbit, hstart, Bool.true_and, if_pos rfl, List.append_assoc]
          have CI1 := Lib.hid (v8 k (by omega))
          have CS1 := Lib.hid (x7 k (by omega) inL)
          have hq1 := l8 k inL
          have CI2 := Lib.hid (v8 e (by omega))
          have CS2 := Lib.hid (x7 e (by omega) inL)
          have hq2 := l8 e inL
          have hol : (pre ++ d5 S k).length ≤ 2 + 9 * k := by have := r8 S k; rw [List.length_append]; omega
          have HE := Lib.hid he
          clear hend hre hrun hstart hbit HI HO he
          have HB := Lib.hid d6
          generalize pre ++ d5 S k = o at hol hT ⊢
          unfold u7 at hT
          generalize hq : l0 k inL = q1 at hq1 CS1 hT
          clear hq
          generalize hq : l0 e inL = q2 at hq2 CS2 hT
          clear hq
          generalize inL.contains k.toUInt8 = r1 at CI1 CS1
          generalize inL.contains e.toUInt8 = r2 at CI2 CS2
          have z1 : (bs o).size ≤ 2 + 9 * 256 := by rw [f0]; omega
          have z2 : (bs q1).size ≤ 4 := by rw [f0]; omega
          have z3 : (bs q2).size ≤ 4 := by rw [f0]; omega
          have z4 : (bs o ++ bs q1).size ≤ 2 + 9 * 256 + 4 := by rw [d6, f0, List.length_append]; omega
          clear hol hq1 hq2
          by_cases c1 : 2 < j
          ·rw [if_pos (show k + 1 < e by have := HE.out; omega), if_pos (show k < e by have := HE.out; omega)] at hT
           have HT := Lib.hid hT; clear hT
           have z5 : (bs o ++ bs q1 ++ (⟨#[45]⟩ : ByteArray)).size ≤ 2 + 9 * 256 + 5 := by rw [show (⟨#[45]⟩ : ByteArray) = bs [45] from rfl, d6, d6, f0]; rw [d6, f0] at z4; simp only [List.length_append, List.length_cons, List.length_nil] at z4 ⊢; omega
           go_wp2_with fail
           refine (CI1.out wr).mono ?_
           rintro e0 V1 ⟨rfl, hv⟩
           have hb7 := hb5.trans (hv.mono hb5.size)
           have H7 := Lib.hid (blk hv H5.out hl5)
           have hl7 : w.heap.size < V1.heap.size := b6 H7.out
           clear hv hb5 H5 hl5 CI1
           go_wp2_with fail
           refine (CS1.out V1).mono ?_
           rintro e0 V2 ⟨rfl, hv⟩
           have hb8 := hb7.trans (hv.mono hb7.size)
           have H8 := Lib.hid (blk hv H7.out hl7)
           have hl8 : w.heap.size < V2.heap.size := b6 H8.out
           clear hv hb7 H7 hl7 CS1
           go_wp2_with fail
           refine (CI2.out V2).mono ?_
           rintro e0 V3 ⟨rfl, hv⟩
           have hb9 := hb8.trans (hv.mono hb8.size)
           have H9 := Lib.hid (blk hv H8.out hl8)
           have hl9 : w.heap.size < V3.heap.size := b6 H9.out
           clear hv hb8 H8 hl8 CI2
           go_wp2_with fail
           refine (CS2.out V3).mono ?_
           rintro e0 V4 ⟨rfl, hv⟩
           have hb10 := hb9.trans (hv.mono hb9.size)
           have H10 := Lib.hid (blk hv H9.out hl9)
           clear hv hb9 H9 hl9 CS2
           go_wp2
           go_roundw
           case rel => exact ⟨k + 1, by go_num, by omega, by rw [HT.out]; show Value.string (bs o ++ bs q1 ++ bs [45] ++ bs q2) = _; simp only [HB.out, List.append_assoc], H10.out, hb10⟩
           case measure => simp [intOf] <;> omega
          ·by_cases c2 : 1 < j
           ·rw [if_neg (show ¬ k + 1 < e by have := HE.out; omega), if_pos (show k < e by have := HE.out; omega), List.append_nil] at hT
            have HT := Lib.hid hT; clear hT
            go_wp2_with fail
            refine (CI1.out wr).mono ?_
            rintro e0 V1 ⟨rfl, hv⟩
            have hb7 := hb5.trans (hv.mono hb5.size)
            have H7 := Lib.hid (blk hv H5.out hl5)
            have hl7 : w.heap.size < V1.heap.size := b6 H7.out
            clear hv hb5 H5 hl5 CI1
            go_wp2_with fail
            refine (CS1.out V1).mono ?_
            rintro e0 V2 ⟨rfl, hv⟩
            have hb8 := hb7.trans (hv.mono hb7.size)
            have H8 := Lib.hid (blk hv H7.out hl7)
            have hl8 : w.heap.size < V2.heap.size := b6 H8.out
            clear hv hb7 H7 hl7 CS1
            go_wp2_with fail
            refine (CI2.out V2).mono ?_
            rintro e0 V3 ⟨rfl, hv⟩
            have hb9 := hb8.trans (hv.mono hb8.size)
            have H9 := Lib.hid (blk hv H8.out hl8)
            have hl9 : w.heap.size < V3.heap.size := b6 H9.out
            clear hv hb8 H8 hl8 CI2
            go_wp2_with fail
            refine (CS2.out V3).mono ?_
            rintro e0 V4 ⟨rfl, hv⟩
            have hb10 := hb9.trans (hv.mono hb9.size)
            have H10 := Lib.hid (blk hv H9.out hl9)
            clear hv hb9 H9 hl9 CS2
            go_wp2
            go_roundw
            case rel => exact ⟨k + 1, by go_num, by omega, by rw [HT.out]; show Value.string (bs o ++ bs q1 ++ bs q2) = _; simp only [HB.out, List.append_assoc], H10.out, hb10⟩
            case measure => simp [intOf] <;> omega
           ·rw [if_neg (show ¬ k + 1 < e by have := HE.out; omega), if_neg (show ¬ k < e by have := HE.out; omega), List.append_nil, List.append_nil] at hT
            have HT := Lib.hid hT; clear hT
            clear CS2 CI2
            go_wp2_with fail
            refine (CI1.out wr).mono ?_
            rintro e0 V1 ⟨rfl, hv⟩
            have hb7 := hb5.trans (hv.mono hb5.size)
            have H7 := Lib.hid (blk hv H5.out hl5)
            have hl7 : w.heap.size < V1.heap.size := b6 H7.out
            clear hv hb5 H5 hl5 CI1
            go_wp2_with fail
            refine (CS1.out V1).mono ?_
            rintro e0 V2 ⟨rfl, hv⟩
            have hb8 := hb7.trans (hv.mono hb7.size)
            have H8 := Lib.hid (blk hv H7.out hl7)
            have hl8 : w.heap.size < V2.heap.size := b6 H8.out
            clear hv hb7 H7 hl7 CS1
            go_wp2
            go_roundw
            case rel => exact ⟨k + 1, by go_num, by omega, by rw [HT.out]; show Value.string (bs o ++ bs q1) = _; simp only [HB.out], H8.out, hb8⟩
            case measure => simp [intOf] <;> omega
        ·have hend : ∀ e, k + j = e + 1 → e < 255 → S.getLsbD (e + 1) = false := fun e he h => by omega
         have hde : decide ((k : Int) + (j : Int) < 256) = false := decide_eq_false (by omega)
         clear hj6
         obtain ⟨e, he⟩ : ∃ e, k + j = e + 1 := ⟨k + j - 1, by omega⟩
         have hE : (k : Int) + j - 1 = (e : Int) := by omega
         have hre := w4 (s := S) (k := k) (e := e) (by omega) (by omega) (fun i h1 h2 => hrun i h1 (by omega)) (hend e he)
         have hT : pre ++ d5 S (k + 1) = pre ++ d5 S k ++ u7 k e := by rw [d5, w7, hre, hbit, hstart, Bool.true_and, if_pos rfl, List.append_assoc]
         have CI1 := Lib.hid (v8 k (by omega))
         have CS1 := Lib.hid (x7 k (by omega) inL)
         have hq1 := l8 k inL
         have CI2 := Lib.hid (v8 e (by omega))
         have CS2 := Lib.hid (x7 e (by omega) inL)
         have hq2 := l8 e inL
         have hol : (pre ++ d5 S k).length ≤ 2 + 9 * k := by have := r8 S k; rw [List.length_append]; omega
         have HE := Lib.hid he
         clear hend hre hrun hstart hbit HI HO he
         have HB := Lib.hid d6
         generalize pre ++ d5 S k = o at hol hT ⊢
         unfold u7 at hT
         generalize hq : l0 k inL = q1 at hq1 CS1 hT
         clear hq
         generalize hq : l0 e inL = q2 at hq2 CS2 hT
         clear hq
         generalize inL.contains k.toUInt8 = r1 at CI1 CS1
         generalize inL.contains e.toUInt8 = r2 at CI2 CS2
         have z1 : (bs o).size ≤ 2 + 9 * 256 := by rw [f0]; omega
         have z2 : (bs q1).size ≤ 4 := by rw [f0]; omega
         have z3 : (bs q2).size ≤ 4 := by rw [f0]; omega
         have z4 : (bs o ++ bs q1).size ≤ 2 + 9 * 256 + 4 := by rw [d6, f0, List.length_append]; omega
         clear hol hq1 hq2
         by_cases c1 : 2 < j
         ·rw [if_pos (show k + 1 < e by have := HE.out; omega), if_pos (show k < e by have := HE.out; omega)] at hT
          have HT := Lib.hid hT; clear hT
          have z5 : (bs o ++ bs q1 ++ (⟨#[45]⟩ : ByteArray)).size ≤ 2 + 9 * 256 + 5 := by rw [show (⟨#[45]⟩ : ByteArray) = bs [45] from rfl, d6, d6, f0]; rw [d6, f0] at z4; simp only [List.length_append, List.length_cons, List.length_nil] at z4 ⊢; omega
          go_wp2_with fail
          refine (CI1.out wr).mono ?_
          rintro e0 V1 ⟨rfl, hv⟩
          have hb7 := hb5.trans (hv.mono hb5.size)
          have H7 := Lib.hid (blk hv H5.out hl5)
          have hl7 : w.heap.size < V1.heap.size := b6 H7.out
          clear hv hb5 H5 hl5 CI1
          go_wp2_with fail
          refine (CS1.out V1).mono ?_
          rintro e0 V2 ⟨rfl, hv⟩
          have hb8 := hb7.trans (hv.mono hb7.size)
          have H8 := Lib.hid (blk hv H7.out hl7)
          have hl8 : w.heap.size < V2.heap.size := b6 H8.out
          clear hv hb7 H7 hl7 CS1
          go_wp2_with fail
          refine (CI2.out V2).mono ?_
          rintro e0 V3 ⟨rfl, hv⟩
          have hb9 := hb8.trans (hv.mono hb8.size)
          have H9 := Lib.hid (blk hv H8.out hl8)
          have hl9 : w.heap.size < V3.heap.size := b6 H9.out
          clear hv hb8 H8 hl8 CI2
          go_wp2_with fail
          refine (CS2.out V3).mono ?_
          rintro e0 V4 ⟨rfl, hv⟩
          have hb10 := hb9.trans (hv.mono hb9.size)
          have H10 := Lib.hid (blk hv H9.out hl9)
          clear hv hb9 H9 hl9 CS2
          go_wp2
          go_roundw
          case rel => exact ⟨k + 1, by go_num, by omega, by rw [HT.out]; show Value.string (bs o ++ bs q1 ++ bs [45] ++ bs q2) = _; simp only [HB.out, List.append_assoc], H10.out, hb10⟩
          case measure => simp [intOf] <;> omega
         ·by_cases c2 : 1 < j
          ·rw [if_neg (show ¬ k + 1 < e by have := HE.out; omega), if_pos (show k < e by have := HE.out; omega), List.append_nil] at hT
           have HT := Lib.hid hT; clear hT
           go_wp2_with fail
           refine (CI1.out wr).mono ?_
           rintro e0 V1 ⟨rfl, hv⟩
           have hb7 := hb5.trans (hv.mono hb5.size)
           have H7 := Lib.hid (blk hv H5.out hl5)
           have hl7 : w.heap.size < V1.heap.size := b6 H7.out
           clear hv hb5 H5 hl5 CI1
           go_wp2_with fail
           refine (CS1.out V1).mono ?_
           rintro e0 V2 ⟨rfl, hv⟩
           have hb8 := hb7.trans (hv.mono hb7.size)
           have H8 := Lib.hid (blk hv H7.out hl7)
           have hl8 : w.heap.size < V2.heap.size := b6 H8.out
           clear hv hb7 H7 hl7 CS1
           go_wp2_with fail
           refine (CI2.out V2).mono ?_
           rintro e0 V3 ⟨rfl, hv⟩
           have hb9 := hb8.trans (hv.mono hb8.size)
           have H9 := Lib.hid (blk hv H8.out hl8)
           have hl9 : w.heap.size < V3.heap.size := b6 H9.out
           clear hv hb8 H8 hl8 CI2
           go_wp2_with fail
           refine (CS2.out V3).mono ?_
           rintro e0 V4 ⟨rfl, hv⟩
           have hb10 := hb9.trans (hv.mono hb9.size)
           have H10 := Lib.hid (blk hv H9.out hl9)
           clear hv hb9 H9 hl9 CS2
           go_wp2
           go_roundw
           case rel => exact ⟨k + 1, by go_num, by omega, by rw [HT.out]; show Value.string (bs o ++ bs q1 ++ bs q2) = _; simp only [HB.out, List.append_assoc], H10.out, hb10⟩
           case measure => simp [intOf] <;> omega
          ·rw [if_neg (show ¬ k + 1 < e by have := HE.out; omega), if_neg (show ¬ k < e by have := HE.out; omega), List.append_nil, List.append_nil] at hT
           have HT := Lib.hid hT; clear hT
           clear CS2 CI2
           go_wp2_with fail
           refine (CI1.out wr).mono ?_
           rintro e0 V1 ⟨rfl, hv⟩
           have hb7 := hb5.trans (hv.mono hb5.size)
           have H7 := Lib.hid (blk hv H5.out hl5)
           have hl7 : w.heap.size < V1.heap.size := b6 H7.out
           clear hv hb5 H5 hl5 CI1
           go_wp2_with fail
           refine (CS1.out V1).mono ?_
           rintro e0 V2 ⟨rfl, hv⟩
           have hb8 := hb7.trans (hv.mono hb7.size)
           have H8 := Lib.hid (blk hv H7.out hl7)
           have hl8 : w.heap.size < V2.heap.size := b6 H8.out
           clear hv hb7 H7 hl7 CS1
           go_wp2
           go_roundw
           case rel => exact ⟨k + 1, by go_num, by omega, by rw [HT.out]; show Value.string (bs o ++ bs q1) = _; simp only [HB.out], H8.out, hb8⟩
           case measure => simp [intOf] <;> omega
    ·have hbit' : S.getLsbD k = false := by simpa using hbit
     rw [HO.out _ hk6 hbit'] at hc3
     go_wp2
     go_roundw
     case rel => exact ⟨k + 1, by go_num, by omega, by rw [adr hbit'], H3.out, hb3⟩
     case measure => simp [intOf] <;> omega
   ·have hk0 : k = 256 := by omega
    subst hk0
    have hol : (pre ++ d5 S 256).length ≤ 2 + 9 * 256 := by have := r8 S 256; rw [List.length_append]; omega
    have HB := Lib.hid d6
    generalize pre ++ d5 S 256 = o at hol HS ⊢
    have z1 : (bs o).size ≤ 2 + 9 * 256 := by rw [f0]; omega
    go_wp2
    go_ret
    exact ⟨by rw [HS.out, ← HB.out]; rfl, hb3⟩
 ·have HS := Lib.hid (HS0.out.trans (if_neg h128))
  clear HS0
  have hd128 : decide ((128 : Int) < (n : Int)) = false := decide_eq_false (by omega)
  clear h128
  go_wp2_with fail
  have h0 : (⟨#[91]⟩ : ByteArray) = bs [91] := rfl
  rw [h0]
  clear h0
  have hpre : ([91] : List UInt8).length ≤ 2 := by decide
  generalize ([91] : List UInt8) = pre at *
  obtain ⟨S, hSs⟩ : ∃ S, S = s := ⟨s, rfl⟩
  rw [show d5 s 256 = d5 S 256 by rw [hSs]] at HS
  have HI : Hid (∀ i, i < 256 → S.getLsbD i = true → s.getLsbD i = true) := Lib.hid fun i hi h => by rw [← hSs]; exact h
  have HO : Hid (∀ i, i < 256 → S.getLsbD i = false → s.getLsbD i = false) := Lib.hid fun i hi h => by rw [← hSs]; exact h
  clear hSs
  go_loopw [5, 7] (fun out i wr => ∃ k : Nat, i = .int .i64 k ∧ k ≤ 256 ∧ out = .string (bs (pre ++ d5 S k)) ∧ wr.heap[w.heap.size]? = some (.cells (x4 s.getLsbD) 100 (0, 0)) ∧ Below w.heap.size w wr)
   (fun _ i _ => 256 - (intOf i).toNat)
  case atStart => exact ⟨0, rfl, by omega, by simp [d5], H1.out, hb1⟩
  case round =>
   obtain ⟨k, rfl, hk, rfl, hblk0, hb3⟩ := hrel
   have H3 := Lib.hid hblk0; clear hblk0
   have hl3 : w.heap.size < wr.heap.size := b6 H3.out
   clear H1 hb1 hl1
   by_cases hk6 : k < 256
   ·have hc3 : wr.cell? ⟨w.heap.size, k, none⟩ = some (.bool (s.getLsbD k)) := (cell_of_row _ _ k _ _ _ H3.out).trans (aa3 _ k hk6)
    by_cases hbit : S.getLsbD k = true
    ·rw [HI.out _ hk6 hbit] at hc3
     by_cases hk0 : k = 0
     ·have hkd : k < 1 := by omega
      have hstart : (k == 0 || !S.getLsbD (k - 1)) = true := by rw [hk0]; rfl
      clear hk0
      go_wp2_with fail
      clear hkd
      (try (rename (k : Int) ≤ 0 => hk9; clear hk9))
      (try (rename ¬ (0 : Int) < (k : Int) => hk9; clear hk9))
      go_loopw [8] (fun i wr => ∃ j : Nat, i = .int .i64 j ∧ 1 ≤ j ∧ k + j ≤ 256 ∧ (∀ i, k < i → i < k + j → S.getLsbD i = true) ∧ wr.heap[w.heap.size]? = some (.cells (x4 s.getLsbD) 100 (0, 0)) ∧ Below w.heap.size w wr)
       (fun i _ => 256 - (intOf i).toNat)
      case atStart => exact ⟨1, rfl, by omega, by omega, fun i h1 h2 => by omega, H3.out, hb3⟩
      case round =>
       obtain ⟨j, rfl, hj1, hj2, hrun, hblk1, hb5⟩ := hrel
       have H5 := Lib.hid hblk1; clear hblk1
       clear H3 hb3 hl3
       have hl5 : w.heap.size < wr.heap.size := b6 H5.out
       by_cases hj6 : k + j < 256
       ·have hc5 : wr.cell? ⟨w.heap.size, k + j, none⟩ = some (.bool (s.getLsbD (k + j))) := (cell_of_row _ _ (k + j) _ _ _ H5.out).trans (aa3 _ (k + j) hj6)
        have hde : decide ((k : Int) + (j : Int) < 256) = true := decide_eq_true (by omega)
        by_cases hb2 : S.getLsbD (k + j) = true
        ·rw [HI.out _ hj6 hb2] at hc5
         go_wp2
         go_roundw
         case rel =>
          refine ⟨j + 1, by go_num, by omega, by omega, fun i h1 h2 => ?_, H5.out, hb5⟩
          by_cases hx : i = k + j
          ·rw [hx]; exact hb2
          ·exact hrun i h1 (by omega)
         case measure => simp [intOf] <;> omega
        ·have hb2' : S.getLsbD (k + j) = false := by simpa using hb2
         rw [HO.out _ hj6 hb2'] at hc5
         have hend : ∀ e, k + j = e + 1 → e < 255 → S.getLsbD (e + 1) = false := fun e he _ => by rw [← he]; exact hb2'
         clear hb2
         obtain ⟨e, he⟩ : ∃ e, k + j = e + 1 := ⟨k + j - 1, by omega⟩
         have hE : (k : Int) + j - 1 = (e : Int) := by omega
         have hre := w4 (s := S) (k := k) (e := e) (by omega) (by omega) (fun i h1 h2 => hrun i h1 (by omega)) (hend e he)
         have hT : pre ++ d5 S (k + 1) = pre ++ d5 S k ++ u7 k e := by rw [d5, w7, hre, hbit, hstart, Bool.true_and, if_pos rfl, List.append_assoc]
         have CI1 := Lib.hid (v8 k (by omega))
         have CS1 := Lib.hid (x7 k (by omega) inL)
         have hq1 := l8 k inL
         have CI2 := Lib.hid (v8 e (by omega))
         have CS2 := Lib.hid (x7 e (by omega) inL)
         have hq2 := l8 e inL
         have hol : (pre ++ d5 S k).length ≤ 2 + 9 * k := by have := r8 S k; rw [List.length_append]; omega
         have HE := Lib.hid he
         clear hend hre hrun hstart hbit HI HO he
         have HB := Lib.hid d6
         generalize pre ++ d5 S k = o at hol hT ⊢
         unfold u7 at hT
         generalize hq : l0 k inL = q1 at hq1 CS1 hT
         clear hq
         generalize hq : l0 e inL = q2 at hq2 CS2 hT
         clear hq
         generalize inL.contains k.toUInt8 = r1 at CI1 CS1
         generalize inL.contains e.toUInt8 = r2 at CI2 CS2
         have z1 : (bs o).size ≤ 2 + 9 * 256 := by rw [f0]; omega
         have z2 : (bs q1).size ≤ 4 := by rw [f0]; omega
         have z3 : (bs q2).size ≤ 4 := by rw [f0]; omega
         have z4 : (bs o ++ bs q1).size ≤ 2 + 9 * 256 + 4 := by rw [d6, f0, List.length_append]; omega
         clear hol hq1 hq2
         by_cases c1 : 2 < j
         ·rw [if_pos (show k + 1 < e by have := HE.out; omega), if_pos (show k < e by have := HE.out; omega)] at hT
          have HT := Lib.hid hT; clear hT
          have z5 : (bs o ++ bs q1 ++ (⟨#[45]⟩ : ByteArray)).size ≤ 2 + 9 * 256 + 5 := by rw [show (⟨#[45]⟩ : ByteArray) = bs [45] from rfl, d6, d6, f0]; rw [d6, f0] at z4; simp only [List.length_append, List.length_cons, List.length_nil] at z4 ⊢; omega
          go_wp2_with fail
          refine (CI1.out wr).mono ?_
          rintro e0 V1 ⟨rfl, hv⟩
          have hb7 := hb5.trans (hv.mono hb5.size)
          have H7 := Lib.hid (blk hv H5.out hl5)
          have hl7 : w.heap.size < V1.heap.size := b6 H7.out
          clear hv hb5 H5 hl5 CI1
          go_wp2_with fail
          refine (CS1.out V1).mono ?_
          rintro e0 V2 ⟨rfl, hv⟩
          have hb8 := hb7.trans (hv.mono hb7.size)
          have H8 := Lib.hid (blk hv H7.out hl7)
          have hl8 : w.heap.size < V2.heap.size := b6 H8.out
          clear hv hb7 H7 hl7 CS1
          go_wp2_with fail
          refine (CI2.out V2).mono ?_
          rintro e0 V3 ⟨rfl, hv⟩
          have hb9 := hb8.trans (hv.mono hb8.size)
          have H9 := Lib.hid (blk hv H8.out hl8)
          have hl9 : w.heap.size < V3.heap.size := b6 H9.out
          clear hv hb8 H8 hl8 CI2
          go_wp2_with fail
          refine (CS2.out V3).mono ?_
          rintro e0 V4 ⟨rfl, hv⟩
          have hb10 := hb9.trans (hv.mono hb9.size)
          have H10 := Lib.hid (blk hv H9.out hl9)
          clear hv hb9 H9 hl9 CS2
          go_wp2
          go_roundw
          case rel => exact ⟨k + 1, by go_num, by omega, by rw [HT.out]; show Value.string (bs o ++ bs q1 ++ bs [45] ++ bs q2) = _; simp only [HB.out, List.append_assoc], H10.out, hb10⟩
          case measure => simp [intOf] <;> omega
         ·by_cases c2 : 1 < j
          ·rw [if_neg (show ¬ k + 1 < e by have := HE.out; omega), if_pos (show k < e by have := HE.out; omega), List.append_nil] at hT
           have HT := Lib.hid hT; clear hT
           go_wp2_with fail
           refine (CI1.out wr).mono ?_
           rintro e0 V1 ⟨rfl, hv⟩
           have hb7 := hb5.trans (hv.mono hb5.size)
           have H7 := Lib.hid (blk hv H5.out hl5)
           have hl7 : w.heap.size < V1.heap.size := b6 H7.out
           clear hv hb5 H5 hl5 CI1
           go_wp2_with fail
           refine (CS1.out V1).mono ?_
           rintro e0 V2 ⟨rfl, hv⟩
           have hb8 := hb7.trans (hv.mono hb7.size)
           have H8 := Lib.hid (blk hv H7.out hl7)
           have hl8 : w.heap.size < V2.heap.size := b6 H8.out
           clear hv hb7 H7 hl7 CS1
           go_wp2_with fail
           refine (CI2.out V2).mono ?_
           rintro e0 V3 ⟨rfl, hv⟩
           have hb9 := hb8.trans (hv.mono hb8.size)
           have H9 := Lib.hid (blk hv H8.out hl8)
           have hl9 : w.heap.size < V3.heap.size := b6 H9.out
           clear hv hb8 H8 hl8 CI2
           go_wp2_with fail
           refine (CS2.out V3).mono ?_
           rintro e0 V4 ⟨rfl, hv⟩
           have hb10 := hb9.trans (hv.mono hb9.size)
           have H10 := Lib.hid (blk hv H9.out hl9)
           clear hv hb9 H9 hl9 CS2
           go_wp2
           go_roundw
           case rel => exact ⟨k + 1, by go_num, by omega, by rw [HT.out]; show Value.string (bs o ++ bs q1 ++ bs q2) = _; simp only [HB.out, List.append_assoc], H10.out, hb10⟩
           case measure => simp [intOf] <;> omega
          ·rw [if_neg (show ¬ k + 1 < e by have := HE.out; omega), if_neg (show ¬ k < e by have := HE.out; omega), List.append_nil, List.append_nil] at hT
           have HT := Lib.hid hT; clear hT
           clear CS2 CI2
           go_wp2_with fail
           refine (CI1.out wr).mono ?_
           rintro e0 V1 ⟨rfl, hv⟩
           have hb7 := hb5.trans (hv.mono hb5.size)
           have H7 := Lib.hid (blk hv H5.out hl5)
           have hl7 : w.heap.size < V1.heap.size := b6 H7.out
           clear hv hb5 H5 hl5 CI1
           go_wp2_with fail
           refine (CS1.out V1).mono ?_
           rintro e0 V2 ⟨rfl, hv⟩
           have hb8 := hb7.trans (hv.mono hb7.size)
           have H8 := Lib.hid (blk hv H7.out hl7)
           have hl8 : w.heap.size < V2.heap.size := b6 H8.out
           clear hv hb7 H7 hl7 CS1
           go_wp2
           go_roundw
           case rel => exact ⟨k + 1, by go_num, by omega, by rw [HT.out]; show Value.string (bs o ++ bs q1) = _; simp only [HB.out], H8.out, hb8⟩
           case measure => simp [intOf] <;> omega
       ·have hend : ∀ e, k + j = e + 1 → e < 255 → S.getLsbD (e + 1) = false := fun e he h => by omega
        have hde : decide ((k : Int) + (j : Int) < 256) = false := decide_eq_false (by omega)
        clear hj6
        obtain ⟨e, he⟩ : ∃ e, k + j = e + 1 := ⟨k + j - 1, by omega⟩
        have hE : (k : Int) + j - 1 = (e : Int) := by omega
        have hre := w4 (s := S) (k := k) (e := e) (by omega) (by omega) (fun i h1 h2 => hrun i h1 (by omega)) (hend e he)
        have hT : pre ++ d5 S (k + 1) = pre ++ d5 S k ++ u7 k e := by rw [d5, w7, hre, hbit, hstart, Bool.true_and, if_pos rfl, List.append_assoc]
        have CI1 := Lib.hid (v8 k (by omega))
        have CS1 := Lib.hid (x7 k (by omega) inL)
        have hq1 := l8 k inL
        have CI2 := Lib.hid (v8 e (by omega))
        have CS2 := Lib.hid (x7 e (by omega) inL)
        have hq2 := l8 e inL
        have hol : (pre ++ d5 S k).length ≤ 2 + 9 * k := by have := r8 S k; rw [List.length_append]; omega
        have HE := Lib.hid he
        clear hend hre hrun hstart hbit HI HO he
        have HB := Lib.hid d6
        generalize pre ++ d5 S k = o at hol hT ⊢
        unfold u7 at hT
        generalize hq : l0 k inL = q1 at hq1 CS1 hT
        clear hq
        generalize hq : l0 e inL = q2 at hq2 CS2 hT
        clear hq
        generalize inL.contains k.toUInt8 = r1 at CI1 CS1
        generalize inL.contains e.toUInt8 = r2 at CI2 CS2
        have z1 : (bs o).size ≤ 2 + 9 * 256 := by rw [f0]; omega
        have z2 : (bs q1).size ≤ 4 := by rw [f0]; omega
        have z3 : (bs q2).size ≤ 4 := by rw [f0]; omega
        have z4 : (bs o ++ bs q1).size ≤ 2 + 9 * 256 + 4 := by rw [d6, f0, List.length_append]; omega
        clear hol hq1 hq2
        by_cases c1 : 2 < j
        ·rw [if_pos (show k + 1 < e by have := HE.out; omega), if_pos (show k < e by have := HE.out; omega)] at hT
         have HT := Lib.hid hT; clear hT
         have z5 : (bs o ++ bs q1 ++ (⟨#[45]⟩ : ByteArray)).size ≤ 2 + 9 * 256 + 5 := by rw [show (⟨#[45]⟩ : ByteArray) = bs [45] from rfl, d6, d6, f0]; rw [d6, f0] at z4; simp only [List.length_append, List.length_cons, List.length_nil] at z4 ⊢; omega
         go_wp2_with fail
         refine (CI1.out wr).mono ?_
         rintro e0 V1 ⟨rfl, hv⟩
         have hb7 := hb5.trans (hv.mono hb5.size)
         have H7 := Lib.hid (blk hv H5.out hl5)
         have hl7 : w.heap.size < V1.heap.size := b6 H7.out
         clear hv hb5 H5 hl5 CI1
         go_wp2_with fail
         refine (CS1.out V1).mono ?_
         rintro e0 V2 ⟨rfl, hv⟩
         have hb8 := hb7.trans (hv.mono hb7.size)
         have H8 := Lib.hid (blk hv H7.out hl7)
         have hl8 : w.heap.size < V2.heap.size := b6 H8.out
         clear hv hb7 H7 hl7 CS1
         go_wp2_with fail
         refine (CI2.out V2).mono ?_
         rintro e0 V3 ⟨rfl, hv⟩
         have hb9 := hb8.trans (hv.mono hb8.size)
         have H9 := Lib.hid (blk hv H8.out hl8)
         have hl9 : w.heap.size < V3.heap.size := b6 H9.out
         clear hv hb8 H8 hl8 CI2
         go_wp2_with fail
         refine (CS2.out V3).mono ?_
         rintro e0 V4 ⟨rfl, hv⟩
         have hb10 := hb9.trans (hv.mono hb9.size)
         have H10 := Lib.hid (blk hv H9.out hl9)
         clear hv hb9 H9 hl9 CS2
         go_wp2
         go_roundw
         case rel => exact ⟨k + 1, by go_num, by omega, by rw [HT.out]; show Value.string (bs o ++ bs q1 ++ bs [45] ++ bs q2) = _; simp only [HB.out, List.append_assoc], H10.out, hb10⟩
         case measure => simp [intOf] <;> omega
        ·by_cases c2 : 1 < j
         ·rw [if_neg (show ¬ k + 1 < e by have := HE.out; omega), if_pos (show k < e by have := HE.out; omega), List.append_nil] at hT
          have HT := Lib.hid hT; clear hT
          go_wp2_with fail
          refine (CI1.out wr).mono ?_
          rintro e0 V1 ⟨rfl, hv⟩
          have hb7 := hb5.trans (hv.mono hb5.size)
          have H7 := Lib.hid (blk hv H5.out hl5)
          have hl7 : w.heap.size < V1.heap.size := b6 H7.out
          clear hv hb5 H5 hl5 CI1
          go_wp2_with fail
          refine (CS1.out V1).mono ?_
          rintro e0 V2 ⟨rfl, hv⟩
          have hb8 := hb7.trans (hv.mono hb7.size)
          have H8 := Lib.hid (blk hv H7.out hl7)
          have hl8 : w.heap.size < V2.heap.size := b6 H8.out
          clear hv hb7 H7 hl7 CS1
          go_wp2_with fail
          refine (CI2.out V2).mono ?_
          rintro e0 V3 ⟨rfl, hv⟩
          have hb9 := hb8.trans (hv.mono hb8.size)
          have H9 := Lib.hid (blk hv H8.out hl8)
          have hl9 : w.heap.size < V3.heap.size := b6 H9.out
          clear hv hb8 H8 hl8 CI2
          go_wp2_with fail
          refine (CS2.out V3).mono ?_
          rintro e0 V4 ⟨rfl, hv⟩
          have hb10 := hb9.trans (hv.mono hb9.size)
          have H10 := Lib.hid (blk hv H9.out hl9)
          clear hv hb9 H9 hl9 CS2
          go_wp2
          go_roundw
          case rel => exact ⟨k + 1, by go_num, by omega, by rw [HT.out]; show Value.string (bs o ++ bs q1 ++ bs q2) = _; simp only [HB.out, List.append_assoc], H10.out, hb10⟩
          case measure => simp [intOf] <;> omega
         ·rw [if_neg (show ¬ k + 1 < e by have := HE.out; omega), if_neg (show ¬ k < e by have := HE.out; omega), List.append_nil, List.append_nil] at hT
          have HT := Lib.hid hT; clear hT
          clear CS2 CI2
          go_wp2_with fail
          refine (CI1.out wr).mono ?_
          rintro e0 V1 ⟨rfl, hv⟩
          have hb7 := hb5.trans (hv.mono hb5.size)
          have H7 := Lib.hid (blk hv H5.out hl5)
          have hl7 : w.heap.size < V1.heap.size := b6 H7.out
          clear hv hb5 H5 hl5 CI1
          go_wp2_with fail
          refine (CS1.out V1).mono ?_
          rintro e0 V2 ⟨rfl, hv⟩
          have hb8 := hb7.trans (hv.mono hb7.size)
          have H8 := Lib.hid (blk hv H7.out hl7)
          have hl8 : w.heap.size < V2.heap.size := b6 H8.out
          clear hv hb7 H7 hl7 CS1
          go_wp2
          go_roundw
          case rel => exact ⟨k + 1, by go_num, by omega, by rw [HT.out]; show Value.string (bs o ++ bs q1) = _; simp only [HB.out], H8.out, hb8⟩
          case measure => simp [intOf] <;> omega
     ·have hc4 : wr.cell? ⟨w.heap.size, k - 1, none⟩ = some (.bool (s.getLsbD (k - 1))) := (cell_of_row _ _ (k - 1) _ _ _ H3.out).trans (aa3 _ (k - 1) (by omega))
      have hkd : decide ((0 : Int) < (k : Int)) = true := decide_eq_true (by omega)
      by_cases hprev : S.getLsbD (k - 1) = true
      ·rw [HI.out _ (by omega) hprev] at hc4
       have hT : d5 S (k + 1) = d5 S k := by
        have hz : (k == 0) = false := by simpa using hk0
        rw [d5, w7, hbit, hprev, hz]; simp
       go_wp2
       go_roundw
       case rel => exact ⟨k + 1, by go_num, by omega, by rw [hT], H3.out, hb3⟩
       case measure => simp [intOf] <;> omega
      ·have hprev' : S.getLsbD (k - 1) = false := by simpa using hprev
       rw [HO.out _ (by omega) hprev'] at hc4
       have hstart : (k == 0 || !S.getLsbD (k - 1)) = true := by rw [hprev']; simp
       clear hprev hprev'
       go_wp2_with fail
       go_loopw [8] (fun i wr => ∃ j : Nat, i = .int .i64 j ∧ 1 ≤ j ∧ k + j ≤ 256 ∧ (∀ i, k < i → i < k + j → S.getLsbD i = true) ∧ wr.heap[w.heap.size]? = some (.cells (x4 s.getLsbD) 100 (0, 0)) ∧ Below w.heap.size w wr)
        (fun i _ => 256 - (intOf i).toNat)
       case atStart => exact ⟨1, rfl, by omega, by omega, fun i h1 h2 => by omega, H3.out, hb3⟩
       case round =>
        obtain ⟨j, rfl, hj1, hj2, hrun, hblk1, hb5⟩ := hrel
        have H5 := Lib.hid hblk1; clear hblk1
        clear H3 hb3 hl3
        have hl5 : w.heap.size < wr.heap.size := b6 H5.out
        by_cases hj6 : k + j < 256
        ·have hc5 : wr.cell? ⟨w.heap.size, k + j, none⟩ = some (.bool (s.getLsbD (k + j))) := (cell_of_row _ _ (k + j) _ _ _ H5.out).trans (aa3 _ (k + j) hj6)
         have hde : decide ((k : Int) + (j : Int) < 256) = true := decide_eq_true (by omega)
         by_cases hb2 : S.getLsbD (k + j) = true
         ·rw [HI.out _ hj6 hb2] at hc5
          go_wp2
          go_roundw
          case rel =>
           refine ⟨j + 1, by go_num, by omega, by omega, fun i h1 h2 => ?_, H5.out, hb5⟩
           by_cases hx : i = k + j
           ·rw [hx]; exact hb2
           ·exact hrun i h1 (by omega)
          case measure => simp [intOf] <;> omega
         ·have hb2' : S.getLsbD (k + j) = false := by simpa using hb2
          rw [HO.out _ hj6 hb2'] at hc5
          have hend : ∀ e, k + j = e + 1 → e < 255 → S.getLsbD (e + 1) = false := fun e he _ => by rw [← he]; exact hb2'
          clear hb2
          obtain ⟨e, he⟩ : ∃ e, k + j = e + 1 := ⟨k + j - 1, by omega⟩
          have hE : (k : Int) + j - 1 = (e : Int) := by omega
          have hre := w4 (s := S) (k := k) (e := e) (by omega) (by omega) (fun i h1 h2 => hrun i h1 (by omega)) (hend e he)
          have hT : pre ++ d5 S (k + 1) = pre ++ d5 S k ++ u7 k e := by rw [d5, w7, hre, hbit, hstart, Bool.true_and, if_pos rfl, List.append_assoc]
          have CI1 := Lib.hid (v8 k (by omega))
          have CS1 := Lib.hid (x7 k (by omega) inL)
          have hq1 := l8 k inL
          have CI2 := Lib.hid (v8 e (by omega))
          have CS2 := Lib.hid (x7 e (by omega) inL)
          have hq2 := l8 e inL
          have hol : (pre ++ d5 S k).length ≤ 2 + 9 * k := by have := r8 S k; rw [List.length_append]; omega
          have HE := Lib.hid he
          clear hend hre hrun hstart hbit HI HO he
          have HB := Lib.hid d6
          generalize pre ++ d5 S k = o at hol hT ⊢
          unfold u7 at hT
          generalize hq : l0 k inL = q1 at hq1 CS1 hT
          clear hq
          generalize hq : l0 e inL = q2 at hq2 CS2 hT
          clear hq
          generalize inL.contains k.toUInt8 = r1 at CI1 CS1
          generalize inL.contains e.toUInt8 = r2 at CI2 CS2
          have z1 : (bs o).size ≤ 2 + 9 * 256 := by rw [f0]; omega
          have z2 : (bs q1).size ≤ 4 := by rw [f0]; omega
          have z3 : (bs q2).size ≤ 4 := by rw [f0]; omega
          have z4 : (bs o ++ bs q1).size ≤ 2 + 9 * 256 + 4 := by rw [d6, f0, List.length_append]; omega
          clear hol hq1 hq2
          by_cases c1 : 2 < j
          ·rw [if_pos (show k + 1 < e by have := HE.out; omega), if_pos (show k < e by have := HE.out; omega)] at hT
           have HT := Lib.hid hT; clear hT
           have z5 : (bs o ++ bs q1 ++ (⟨#[45]⟩ : ByteArray)).size ≤ 2 + 9 * 256 + 5 := by rw [show (⟨#[45]⟩ : ByteArray) = bs [45] from rfl, d6, d6, f0]; rw [d6, f0] at z4; simp only [List.length_append, List.length_cons, List.length_nil] at z4 ⊢; omega
           go_wp2_with fail
           refine (CI1.out wr).mono ?_
           rintro e0 V1 ⟨rfl, hv⟩
           have hb7 := hb5.trans (hv.mono hb5.size)
           have H7 := Lib.hid (blk hv H5.out hl5)
           have hl7 : w.heap.size < V1.heap.size := b6 H7.out
           clear hv hb5 H5 hl5 CI1
           go_wp2_with fail
           refine (CS1.out V1).mono ?_
           rintro e0 V2 ⟨rfl, hv⟩
           have hb8 := hb7.trans (hv.mono hb7.size)
           have H8 := Lib.hid (blk hv H7.out hl7)
           have hl8 : w.heap.size < V2.heap.size := b6 H8.out
           clear hv hb7 H7 hl7 CS1
           go_wp2_with fail
           refine (CI2.out V2).mono ?_
           rintro e0 V3 ⟨rfl, hv⟩
           have hb9 := hb8.trans (hv.mono hb8.size)
           have H9 := Lib.hid (blk hv H8.out hl8)
           have hl9 : w.heap.size < V3.heap.size := b6 H9.out
           clear hv hb8 H8 hl8 CI2
           go_wp2_with fail
           refine (CS2.out V3).mono ?_
           rintro e0 V4 ⟨rfl, hv⟩
           have hb10 := hb9.trans (hv.mono hb9.size)
           have H10 := Lib.hid (blk hv H9.out hl9)
           clear hv hb9 H9 hl9 CS2
           go_wp2
           go_roundw
           case rel => exact ⟨k + 1, by go_num, by omega, by rw [HT.out]; show Value.string (bs o ++ bs q1 ++ bs [45] ++ bs q2) = _; simp only [HB.out, List.append_assoc], H10.out, hb10⟩
           case measure => simp [intOf] <;> omega
          ·by_cases c2 : 1 < j
           ·rw [if_neg (show ¬ k + 1 < e by have := HE.out; omega), if_pos (show k < e by have := HE.out; omega), List.append_nil] at hT
            have HT := Lib.hid hT; clear hT
            go_wp2_with fail
            refine (CI1.out wr).mono ?_
            rintro e0 V1 ⟨rfl, hv⟩
            have hb7 := hb5.trans (hv.mono hb5.size)
            have H7 := Lib.hid (blk hv H5.out hl5)
            have hl7 : w.heap.size < V1.heap.size := b6 H7.out
            clear hv hb5 H5 hl5 CI1
            go_wp2_with fail
            refine (CS1.out V1).mono ?_
            rintro e0 V2 ⟨rfl, hv⟩
            have hb8 := hb7.trans (hv.mono hb7.size)
            have H8 := Lib.hid (blk hv H7.out hl7)
            have hl8 : w.heap.size < V2.heap.size := b6 H8.out
            clear hv hb7 H7 hl7 CS1
            go_wp2_with fail
            refine (CI2.out V2).mono ?_
            rintro e0 V3 ⟨rfl, hv⟩
            have hb9 := hb8.trans (hv.mono hb8.size)
            have H9 := Lib.hid (blk hv H8.out hl8)
            have hl9 : w.heap.size < V3.heap.size := b6 H9.out
            clear hv hb8 H8 hl8 CI2
            go_wp2_with fail
            refine (CS2.out V3).mono ?_
            rintro e0 V4 ⟨rfl, hv⟩
            have hb10 := hb9.trans (hv.mono hb9.size)
            have H10 := Lib.hid (blk hv H9.out hl9)
            clear hv hb9 H9 hl9 CS2
            go_wp2
            go_roundw
            case rel => exact ⟨k + 1, by go_num, by omega, by rw [HT.out]; show Value.string (bs o ++ bs q1 ++ bs q2) = _; simp only [HB.out, List.append_assoc], H10.out, hb10⟩
            case measure => simp [intOf] <;> omega
           ·rw [if_neg (show ¬ k + 1 < e by have := HE.out; omega), if_neg (show ¬ k < e by have := HE.out; omega), List.append_nil, List.append_nil] at hT
            have HT := Lib.hid hT; clear hT
            clear CS2 CI2
            go_wp2_with fail
            refine (CI1.out wr).mono ?_
            rintro e0 V1 ⟨rfl, hv⟩
            have hb7 := hb5.trans (hv.mono hb5.size)
            have H7 := Lib.hid (blk hv H5.out hl5)
            have hl7 : w.heap.size < V1.heap.size := b6 H7.out
            clear hv hb5 H5 hl5 CI1
            go_wp2_with fail
            refine (CS1.out V1).mono ?_
            rintro e0 V2 ⟨rfl, hv⟩
            have hb8 := hb7.trans (hv.mono hb7.size)
            have H8 := Lib.hid (blk hv H7.out hl7)
            have hl8 : w.heap.size < V2.heap.size := b6 H8.out
            clear hv hb7 H7 hl7 CS1
            go_wp2
            go_roundw
            case rel => exact ⟨k + 1, by go_num, by omega, by rw [HT.out]; show Value.string (bs o ++ bs q1) = _; simp only [HB.out], H8.out, hb8⟩
            case measure => simp [intOf] <;> omega
        ·have hend : ∀ e, k + j = e + 1 → e < 255 → S.getLsbD (e + 1) = false := fun e he h => by omega
         have hde : decide ((k : Int) + (j : Int) < 256) = false := decide_eq_false (by omega)
         clear hj6
         obtain ⟨e, he⟩ : ∃ e, k + j = e + 1 := ⟨k + j - 1, by omega⟩
         have hE : (k : Int) + j - 1 = (e : Int) := by omega
         have hre := w4 (s := S) (k := k) (e := e) (by omega) (by omega) (fun i h1 h2 => hrun i h1 (by omega)) (hend e he)
         have hT : pre ++ d5 S (k + 1) = pre ++ d5 S k ++ u7 k e := by rw [d5, w7, hre, hbit, hstart, Bool.true_and, if_pos rfl, List.append_assoc]
         have CI1 := Lib.hid (v8 k (by omega))
         have CS1 := Lib.hid (x7 k (by omega) inL)
         have hq1 := l8 k inL
         have CI2 := Lib.hid (v8 e (by omega))
         have CS2 := Lib.hid (x7 e (by omega) inL)
         have hq2 := l8 e inL
         have hol : (pre ++ d5 S k).length ≤ 2 + 9 * k := by have := r8 S k; rw [List.length_append]; omega
         have HE := Lib.hid he
         clear hend hre hrun hstart hbit HI HO he
         have HB := Lib.hid d6
         generalize pre ++ d5 S k = o at hol hT ⊢
         unfold u7 at hT
         generalize hq : l0 k inL = q1 at hq1 CS1 hT
         clear hq
         generalize hq : l0 e inL = q2 at hq2 CS2 hT
         clear hq
         generalize inL.contains k.toUInt8 = r1 at CI1 CS1
         generalize inL.contains e.toUInt8 = r2 at CI2 CS2
         have z1 : (bs o).size ≤ 2 + 9 * 256 := by rw [f0]; omega
         have z2 : (bs q1).size ≤ 4 := by rw [f0]; omega
         have z3 : (bs q2).size ≤ 4 := by rw [f0]; omega
         have z4 : (bs o ++ bs q1).size ≤ 2 + 9 * 256 + 4 := by rw [d6, f0, List.length_append]; omega
         clear hol hq1 hq2
         by_cases c1 : 2 < j
         ·rw [if_pos (show k + 1 < e by have := HE.out; omega), if_pos (show k < e by have := HE.out; omega)] at hT
          have HT := Lib.hid hT; clear hT
          have z5 : (bs o ++ bs q1 ++ (⟨#[45]⟩ : ByteArray)).size ≤ 2 + 9 * 256 + 5 := by rw [show (⟨#[45]⟩ : ByteArray) = bs [45] from rfl, d6, d6, f0]; rw [d6, f0] at z4; simp only [List.length_append, List.length_cons, List.length_nil] at z4 ⊢; omega
          go_wp2_with fail
          refine (CI1.out wr).mono ?_
          rintro e0 V1 ⟨rfl, hv⟩
          have hb7 := hb5.trans (hv.mono hb5.size)
          have H7 := Lib.hid (blk hv H5.out hl5)
          have hl7 : w.heap.size < V1.heap.size := b6 H7.out
          clear hv hb5 H5 hl5 CI1
          go_wp2_with fail
          refine (CS1.out V1).mono ?_
          rintro e0 V2 ⟨rfl, hv⟩
          have hb8 := hb7.trans (hv.mono hb7.size)
          have H8 := Lib.hid (blk hv H7.out hl7)
          have hl8 : w.heap.size < V2.heap.size := b6 H8.out
          clear hv hb7 H7 hl7 CS1
          go_wp2_with fail
          refine (CI2.out V2).mono ?_
          rintro e0 V3 ⟨rfl, hv⟩
          have hb9 := hb8.trans (hv.mono hb8.size)
          have H9 := Lib.hid (blk hv H8.out hl8)
          have hl9 : w.heap.size < V3.heap.size := b6 H9.out
          clear hv hb8 H8 hl8 CI2
          go_wp2_with fail
          refine (CS2.out V3).mono ?_
          rintro e0 V4 ⟨rfl, hv⟩
          have hb10 := hb9.trans (hv.mono hb9.size)
          have H10 := Lib.hid (blk hv H9.out hl9)
          clear hv hb9 H9 hl9 CS2
          go_wp2
          go_roundw
          case rel => exact ⟨k + 1, by go_num, by omega, by rw [HT.out]; show Value.string (bs o ++ bs q1 ++ bs [45] ++ bs q2) = _; simp only [HB.out, List.append_assoc], H10.out, hb10⟩
          case measure => simp [intOf] <;> omega
         ·by_cases c2 : 1 < j
          ·rw [if_neg (show ¬ k + 1 < e by have := HE.out; omega), if_pos (show k < e by have := HE.out; omega), List.append_nil] at hT
           have HT := Lib.hid hT; clear hT
           go_wp2_with fail
           refine (CI1.out wr).mono ?_
           rintro e0 V1 ⟨rfl, hv⟩
           have hb7 := hb5.trans (hv.mono hb5.size)
           have H7 := Lib.hid (blk hv H5.out hl5)
           have hl7 : w.heap.size < V1.heap.size := b6 H7.out
           clear hv hb5 H5 hl5 CI1
           go_wp2_with fail
           refine (CS1.out V1).mono ?_
           rintro e0 V2 ⟨rfl, hv⟩
           have hb8 := hb7.trans (hv.mono hb7.size)
           have H8 := Lib.hid (blk hv H7.out hl7)
           have hl8 : w.heap.size < V2.heap.size := b6 H8.out
           clear hv hb7 H7 hl7 CS1
           go_wp2_with fail
           refine (CI2.out V2).mono ?_
           rintro e0 V3 ⟨rfl, hv⟩
           have hb9 := hb8.trans (hv.mono hb8.size)
           have H9 := Lib.hid (blk hv H8.out hl8)
           have hl9 : w.heap.size < V3.heap.size := b6 H9.out
           clear hv hb8 H8 hl8 CI2
           go_wp2_with fail
           refine (CS2.out V3).mono ?_
           rintro e0 V4 ⟨rfl, hv⟩
           have hb10 := hb9.trans (hv.mono hb9.size)
           have H10 := Lib.hid (blk hv H9.out hl9)
           clear hv hb9 H9 hl9 CS2
           go_wp2
           go_roundw
           case rel => exact ⟨k + 1, by go_num, by omega, by rw [HT.out]; show Value.string (bs o ++ bs q1 ++ bs q2) = _; simp only [HB.out, List.append_assoc], H10.out, hb10⟩
           case measure => simp [intOf] <;> omega
          ·rw [if_neg (show ¬ k + 1 < e by have := HE.out; omega), if_neg (show ¬ k < e by have := HE.out; omega), List.append_nil, List.append_nil] at hT
           have HT := Lib.hid hT; clear hT
           clear CS2 CI2
           go_wp2_with fail
           refine (CI1.out wr).mono ?_
           rintro e0 V1 ⟨rfl, hv⟩
           have hb7 := hb5.trans (hv.mono hb5.size)
           have H7 := Lib.hid (blk hv H5.out hl5)
           have hl7 : w.heap.size < V1.heap.size := b6 H7.out
           clear hv hb5 H5 hl5 CI1
           go_wp2_with fail
           refine (CS1.out V1).mono ?_
           rintro e0 V2 ⟨rfl, hv⟩
           have hb8 := hb7.trans (hv.mono hb7.size)
           have H8 := Lib.hid (blk hv H7.out hl7)
           have hl8 : w.heap.size < V2.heap.size := b6 H8.out
           clear hv hb7 H7 hl7 CS1
           go_wp2
           go_roundw
           case rel => exact ⟨k + 1, by go_num, by omega, by rw [HT.out]; show Value.string (bs o ++ bs q1) = _; simp only [HB.out], H8.out, hb8⟩
           case measure => simp [intOf] <;> omega
    ·have hbit' : S.getLsbD k = false := by simpa using hbit
     rw [HO.out _ hk6 hbit'] at hc3
     go_wp2
     go_roundw
     case rel => exact ⟨k + 1, by go_num, by omega, by rw [adr hbit'], H3.out, hb3⟩
     case measure => simp [intOf] <;> omega
   ·have hk0 : k = 256 := by omega
    subst hk0
    have hol : (pre ++ d5 S 256).length ≤ 2 + 9 * 256 := by have := r8 S 256; rw [List.length_append]; omega
    have HB := Lib.hid d6
    generalize pre ++ d5 S 256 = o at hol HS ⊢
    have z1 : (bs o).size ≤ 2 + 9 * 256 := by rw [f0]; omega
    go_wp2
    go_ret
    exact ⟨by rw [HS.out, ← HB.out]; rfl, hb3⟩
set_option maxRecDepth 100000 in
theorem awt (s : CS) : aen Tryd.prog 87 #[.agg (x4 s.getLsbD)] (.string (bs (u1 s))) := by
 by_cases h : s8 s = 1
 ·exact apo s h
 ·exact anf s h
end Go.Proofs.YtohnchdnkbadaaaDoor
namespace Go.Proofs.YtohnchdnkbadaaaDoor
open Go Go.RowKit
def At0 (t : List UInt8) (p : Nat) (u : List UInt8) : Prop := t.drop p = u
set_option maxRecDepth 100000 in
theorem At0.cons {t : List UInt8} {p : Nat} {c : UInt8} {v : List UInt8} (h : At0 t p (c :: v)) : (p : Int) < t.length ∧ a7 t p = c.toNat ∧ At0 t (p + 1) v := by
 unfold At0 at h
 have hl : p < t.length := by
  have := congrArg List.length h
  rw [List.length_drop, List.length_cons] at this; omega
 have hg : t[p]? = some c := by
  have := congrArg (fun l => l[0]?) h
  simpa using this
 refine ⟨by omega, ?_, ?_⟩
 ·unfold a7
  rw [if_pos (by omega), Int.toNat_natCast, List.getD_eq_getElem?_getD, hg]; rfl
 ·unfold At0
  rw [← List.drop_drop, h]; rfl
set_option maxRecDepth 100000 in
theorem At0.app {t : List UInt8} {v : List UInt8} : ∀ {u : List UInt8} {p : Nat}, At0 t p (u ++ v) → At0 t (p + u.length) v
 | [], p, h => h
 | c :: u, p, h => by
  have := At0.app (u := u) h.cons.2.2
  rw [List.length_cons, show p + (u.length + 1) = p + 1 + u.length by omega]; exact this
set_option maxRecDepth 100000 in
theorem At0.len {t u : List UInt8} {p : Nat} (h : At0 t p u) : u.length ≤ t.length := by
 have := congrArg List.length h
 rw [List.length_drop] at this; omega
def aw5 (bar : List UInt8) : Prop := bar.contains 92 = true ∧ ∀ b, b < 256 → bar.contains b.toUInt8 = true → 32 ≤ b ∧ b ≤ 126 ∧ ¬ (48 ≤ b ∧ b ≤ 57) ∧ ¬ (97 ≤ b ∧ b ≤ 122) ∧ ¬ (65 ≤ b ∧ b ≤ 90)
set_option maxRecDepth 100000 in
theorem a0m : aw5 spL := ⟨by decide, by decide +kernel⟩
set_option maxRecDepth 100000 in
theorem axb : aw5 inL := ⟨by decide, by decide +kernel⟩
set_option maxRecDepth 100000 in
theorem avy : ∀ n, n < 16 → s5 ((ad5 n).toNat : Nat) = n := by decide +kernel
set_option maxRecDepth 100000 in
theorem a0j (b : Nat) (h : b < 256) : ((b.toUInt8.toNat : Nat) : Int) = b := by
 rw [show b.toUInt8.toNat = b from Nat.mod_eq_of_lt h]
set_option maxRecDepth 100000 in
theorem at6 {t : List UInt8} {p n : Nat} {v : List UInt8} (hn : n < 16) (h : At0 t p (ad5 n :: v)) : afy t p = .ok ((n : Int), ((p + 1 : Nat) : Int)) := by
 obtain ⟨h1, h2, _⟩ := h.cons
 unfold afy
 rw [h2, avy n hn, if_pos ⟨h1, by omega⟩]; rfl
set_option maxRecDepth 100000 in
theorem acu {bar : List UInt8} (hb : aw5 bar) {b : Nat} (h256 : b < 256) {t v : List UInt8} {p : Nat} (h : At0 t p (l0 b bar ++ v)) : acr t p bar = .ok ((b : Int), ((p + (l0 b bar).length : Nat) : Int)) := by
 unfold l0 at h ⊢
 unfold acr
 have escAt : ∀ {c : UInt8} {w : List UInt8}, At0 t p (92 :: c :: w) → acr t p bar = afv t ((p + 1 : Nat) : Int) ∧ ((p + 1 : Nat) : Int) < t.length ∧ a7 t ((p + 1 : Nat) : Int) = c.toNat ∧ At0 t (p + 2) w := by
  intro c w h
  obtain ⟨h1, h2, h3⟩ := h.cons
  obtain ⟨h4, h5, h6⟩ := h3.cons
  refine ⟨?_, h4, h5, h6⟩
  unfold acr
  rw [if_pos h1, h2]; rfl
 unfold acr at escAt
 by_cases e1 : b = 10
 ·subst e1
  obtain ⟨q1, q2, q3, _⟩ := escAt (c := 110) (w := v) h
  rw [q1, afv, if_pos q2, q3]; rfl
 by_cases e2 : b = 13
 ·subst e2
  obtain ⟨q1, q2, q3, _⟩ := escAt (c := 114) (w := v) h
  rw [q1, afv, if_pos q2, q3]; rfl
 by_cases e3 : b = 9
 ·subst e3
  obtain ⟨q1, q2, q3, _⟩ := escAt (c := 116) (w := v) h
  rw [q1, afv, if_pos q2, q3]; rfl
 rw [aho e1 e2 e3] at h ⊢
 simp only at h ⊢
 by_cases e4 : b < 32 ∨ 126 < b
 ·rw [if_pos e4] at h ⊢
  obtain ⟨q1, q2, q3, q4⟩ := escAt (c := 120) (w := ad5 (b / 16) :: ad5 (b % 16) :: v) h
  have g1 := at6 (by omega) q4
  have g2 := at6 (by omega) q4.cons.2.2
  rw [q1, afv, if_pos q2, q3]
  simp only [show ((120 : UInt8).toNat : Int) = 120 from rfl, show ((p + 1 : Nat) : Int) + 1 = ((p + 2 : Nat) : Int) by omega, g1, g2]
  simp
  omega
 ·rw [if_neg e4] at h ⊢
  by_cases e5 : bar.contains b.toUInt8 = true
  ·rw [if_pos e5] at h ⊢
   obtain ⟨q1, q2, q3, _⟩ := escAt (c := b.toUInt8) (w := v) h
   obtain ⟨z1, z2, z3, z4, z5⟩ := hb.2 b h256 e5
   rw [q1, afv, if_pos q2, q3, a0j b h256]
   rw [if_neg (by omega), if_neg (by omega), if_neg (by omega), if_neg (by omega), if_neg (by omega)]; rfl
  ·rw [if_neg e5] at h ⊢
   obtain ⟨q1, q2, _⟩ := At0.cons (v := v) h
   have hne : b ≠ 92 := fun e => e5 (by rw [e]; exact hb.1)
   rw [if_pos q1, q2, a0j b h256]
   rw [if_neg (by omega), if_neg (by
    rw [Int.toNat_natCast]; simp only [e5]; simp; omega)]
   rfl
set_option maxRecDepth 100000 in
theorem akt (b : Nat) (bar : List UInt8) : ∃ c v, l0 b bar = c :: v ∧ (c = 92 ∨ bar.contains c = false) := by
 unfold l0
 split
 ·exact ⟨_, _, rfl, .inl rfl⟩
 ·split
  ·exact ⟨_, _, rfl, .inl rfl⟩
  ·split
   ·exact ⟨_, _, rfl, .inl rfl⟩
   ·rename_i h; exact ⟨_, _, rfl, .inr (by simpa using h)⟩
set_option maxRecDepth 100000 in
theorem acf (b : Nat) : ∃ c v, l0 b inL = c :: v ∧ c ≠ 45 ∧ c ≠ 94 ∧ c ≠ 93 := by
 obtain ⟨c, v, h, h2⟩ := akt b inL
 refine ⟨c, v, h, ?_, ?_, ?_⟩ <;> rintro rfl <;> revert h2 <;> decide
set_option maxRecDepth 100000 in
theorem alr (b : Nat) : ∃ c v, l0 b spL = c :: v ∧ c ≠ 46 ∧ c ≠ 91 := by
 obtain ⟨c, v, h, h2⟩ := akt b spL
 refine ⟨c, v, h, ?_, ?_⟩ <;> rintro rfl <;> revert h2 <;> decide
def agb (s : CS) (c : Nat) : Bool := s.getLsbD c && (c == 0 || !s.getLsbD (c - 1))
def abh (s : CS) : Nat → Nat → List UInt8
 | 0, _ => []
 | n + 1, k => w7 s k ++ abh s n (k + 1)
def aeb (s : CS) : Nat → Nat → CS
 | 0, _ => cs0
 | n + 1, k => (if agb s k then aan k (u9 s k) else cs0) ||| aeb s n (k + 1)
set_option maxRecDepth 100000 in
theorem agh (s : CS) : ∀ n k, d5 s k ++ abh s n k = d5 s (k + n)
 | 0, k => by simp [abh]
 | n + 1, k => by
  have := agh s n (k + 1)
  rw [abh, ← List.append_assoc, show d5 s k ++ w7 s k = d5 s (k + 1) from rfl, this]; congr 1; omega
set_option maxRecDepth 100000 in
theorem aer {lo hi j : Nat} (hj : j < 256) : (aan lo hi).getLsbD j = decide (lo ≤ j ∧ j ≤ hi) := by rw [aan, aba _ _ hj, Bool.decide_and]
set_option maxRecDepth 100000 in
theorem akh (s : CS) {j : Nat} (hj : j < 256) : ∀ n k, (aeb s n k).getLsbD j = true ↔ ∃ c, k ≤ c ∧ c < k + n ∧ agb s c = true ∧ c ≤ j ∧ j ≤ u9 s c
 | 0, k => by
  constructor
  ·intro h; simp [aeb, cs0] at h
  ·rintro ⟨c, h1, h2, _⟩; omega
 | n + 1, k => by
  rw [aeb, BitVec.getLsbD_or, Bool.or_eq_true, akh s hj n (k + 1)]
  constructor
  ·rintro (h | ⟨c, h1, h2, h3⟩)
   ·by_cases hs : agb s k = true
    ·rw [if_pos hs, aer hj] at h
     have := of_decide_eq_true h
     exact ⟨k, by omega, by omega, hs, this.1, this.2⟩
    ·rw [if_neg hs] at h; simp [cs0] at h
   ·exact ⟨c, by omega, by omega, h3⟩
  ·rintro ⟨c, h1, h2, h3, h4, h5⟩
   by_cases e : c = k
   ·subst e
    refine .inl ?_
    rw [if_pos h3, aer hj]
    exact decide_eq_true ⟨h4, h5⟩
   ·exact .inr ⟨c, by omega, by omega, h3, h4, h5⟩
set_option maxRecDepth 100000 in
theorem ara (s : CS) : ∀ j, s.getLsbD j = true → ∃ c, c ≤ j ∧ agb s c = true ∧ ∀ i, c ≤ i → i ≤ j → s.getLsbD i = true
 | 0, h => ⟨0, Nat.le_refl _, by simp [agb, h], fun i _ h2 => by rw [show i = 0 by omega]; exact h⟩
 | j + 1, h => by
  by_cases h2 : s.getLsbD j = true
  ·obtain ⟨c, c1, c2, c3⟩ := ara s j h2
   refine ⟨c, by omega, c2, fun i i1 i2 => ?_⟩
   by_cases e : i = j + 1
   ·rw [e]; exact h
   ·exact c3 i i1 (by omega)
  ·exact ⟨j + 1, Nat.le_refl _, by simp [agb, h, h2], fun i i1 i2 => by rw [show i = j + 1 by omega]; exact h⟩
set_option maxRecDepth 100000 in
theorem ajs (s : CS) (e : Nat) (h : e ≤ 255) : e ≤ u9 s e ∧ u9 s e ≤ 255 ∧ (∀ i, e < i → i ≤ u9 s e → s.getLsbD i = true) ∧ (u9 s e < 255 → s.getLsbD (u9 s e + 1) = false) := ac4 s 256 e h (by omega)
set_option maxRecDepth 100000 in
theorem ake (s : CS) : aeb s 256 0 = s := by
 refine adg fun j hj => ?_
 rw [Bool.eq_iff_iff, akh s hj]
 constructor
 ·rintro ⟨c, _, h2, h3, h4, h5⟩
  obtain ⟨_, _, r3, _⟩ := ajs s c (by omega)
  by_cases e : c = j
  ·subst e; unfold agb at h3; simp only [Bool.and_eq_true] at h3; exact h3.1
  ·exact r3 j (by omega) h5
 ·intro h
  obtain ⟨c, c1, c2, c3⟩ := ara s j h
  obtain ⟨r1, r2, r3, r4⟩ := ajs s c (by omega)
  refine ⟨c, by omega, by omega, c2, c1, ?_⟩
  rcases Nat.lt_or_ge (u9 s c) j with hlt | hge
  ·have := r4 (by omega)
   rw [c3 _ (by omega) (by omega)] at this; cases this
  ·exact hge
set_option maxRecDepth 100000 in
theorem apx (s : CS) (v : List UInt8) : ∀ n k, ∃ c w, abh s n k ++ 93 :: v = c :: w ∧ c ≠ 45 ∧ c ≠ 94
 | 0, _ => ⟨93, v, rfl, by decide, by decide⟩
 | n + 1, k => by
  rw [abh, w7]
  split
  ·obtain ⟨c, w, h, h1, h2, _⟩ := acf k
   exact ⟨c, _, by rw [u7, h]; rfl, h1, h2⟩
  ·exact apx s v n (k + 1)
set_option maxRecDepth 100000 in
theorem adn (s : CS) {t v : List UInt8} : ∀ (n k f : Nat) (S : CS) (p : Nat), n + k = 256 → At0 t p (abh s n k ++ 93 :: v) → (abh s n k).length < f →
  adc t f S p = .ok (S ||| aeb s n k, ((p + (abh s n k).length + 1 : Nat) : Int))
 | 0, k, f, S, p, _, h, hf => by
  obtain ⟨f, rfl⟩ : ∃ m, f = m + 1 := ⟨f - 1, by omega⟩
  obtain ⟨h1, h2, _⟩ := At0.cons (v := v) h
  rw [adc, if_pos ⟨h1, by rw [h2]; rfl⟩, aeb, show S ||| cs0 = S by simp [cs0]]; rfl
 | n + 1, k, f, S, p, hk, h, hf => by
  rw [abh] at h hf ⊢
  rw [aeb]
  by_cases hs : agb s k = true
  ·have hP : w7 s k = u7 k (u9 s k) := by unfold w7; exact if_pos hs
   rw [if_pos hs]
   rw [hP] at h hf ⊢
   obtain ⟨e, he⟩ : ∃ e, e = u9 s k := ⟨_, rfl⟩
   obtain ⟨r1, r2, _, _⟩ := ajs s k (by omega)
   rw [← he] at h hf r1 r2 ⊢
   obtain ⟨f, rfl⟩ : ∃ m, f = m + 1 := ⟨f - 1, by omega⟩
   have len1 : 0 < (l0 k inL).length := by obtain ⟨c, w, hw, _⟩ := acf k; rw [hw]; simp
   have len2 : 0 < (l0 e inL).length := by obtain ⟨c, w, hw, _⟩ := acf e; rw [hw]; simp
   have notClose : ∀ {q b : Nat} {u : List UInt8}, At0 t q (l0 b inL ++ u) → ¬ ((q : Int) < t.length ∧ a7 t q = 93) ∧ ¬ ((q : Int) < t.length ∧ a7 t q = 45) := fun {q b u} hq => by
    obtain ⟨c, w, hw, n1, _, n3⟩ := acf b
    rw [hw] at hq
    obtain ⟨_, hc, _⟩ := At0.cons (v := w ++ u) hq
    rw [hc]
    exact ⟨fun x => n3 (UInt8.toNat_inj.1 (by simpa using (Int.ofNat.inj x.2))), fun x => n1 (UInt8.toNat_inj.1 (by simpa using (Int.ofNat.inj x.2)))⟩
   have notDash : ∀ {q : Nat}, At0 t q (abh s n (k + 1) ++ 93 :: v) → ¬ ((q : Int) < t.length ∧ a7 t q = 45) := fun {q} hq => by
    obtain ⟨c, w, hw, n1, _⟩ := apx s v n (k + 1)
    rw [hw] at hq
    obtain ⟨_, hc, _⟩ := At0.cons hq
    rw [hc]
    exact fun x => n1 (UInt8.toNat_inj.1 (by simpa using (Int.ofNat.inj x.2)))
   unfold u7 at h hf ⊢
   by_cases e1 : k + 1 < e
   ·rw [if_pos e1, if_pos (by omega : k < e)] at h hf ⊢
    simp only [List.append_assoc, List.length_append, List.length_cons, List.length_nil] at h hf ⊢
    have a1 := h.app
    obtain ⟨b1, b2, b3⟩ := At0.cons a1
    rw [adc, if_neg (notClose h).1, acu axb (by omega) h]
    simp only
    rw [if_pos ⟨b1, by rw [b2]; rfl⟩, show ((p + (l0 k inL).length : Nat) : Int) + 1 = ((p + (l0 k inL).length + 1 : Nat) : Int) by omega, acu axb (by omega) b3]
    simp only
    rw [if_neg (by omega), Int.toNat_natCast, Int.toNat_natCast, adn s n (k + 1) f _ _ (by omega) (At0.app (u := l0 e inL) b3) (by omega), BitVec.or_assoc]
    congr 2; omega
   ·rw [if_neg e1] at h hf ⊢
    by_cases e2 : k < e
    ·rw [if_pos e2] at h hf ⊢
     simp only [List.append_nil, List.append_assoc, List.length_append] at h hf ⊢
     have a1 := h.app
     have a2 := a1.app
     obtain ⟨f, rfl⟩ : ∃ m, f = m + 1 := ⟨f - 1, by omega⟩
     rw [adc, if_neg (notClose h).1, acu axb (by omega) h]
     simp only
     rw [if_neg (notClose a1).2, adc, if_neg (notClose a1).1, acu axb (by omega) a1]
     simp only
     rw [if_neg (notDash a2), Int.toNat_natCast, Int.toNat_natCast, adn s n (k + 1) f _ _ (by omega) a2 (by omega), BitVec.or_assoc, BitVec.or_assoc, ← BitVec.or_assoc (aan k k)]
     have : aan k k ||| aan e e = aan k e := adg fun j hj => by
      rw [BitVec.getLsbD_or, aer hj, aer hj, aer hj, Bool.eq_iff_iff]; simp; omega
     rw [this]
     congr 2; omega
    ·rw [if_neg e2] at h hf ⊢
     simp only [List.append_nil, List.append_assoc] at h hf ⊢
     have a1 := h.app
     have : e = k := by omega
     subst this
     rw [adc, if_neg (notClose h).1, acu axb (by omega) h]
     simp only [List.length_append] at hf ⊢
     rw [if_neg (notDash a1), Int.toNat_natCast, adn s n (e + 1) f _ _ (by omega) a1 (by omega), BitVec.or_assoc]
     congr 2; omega
  ·have hP : w7 s k = [] := by unfold w7; exact if_neg hs
   rw [hP, List.nil_append] at h hf ⊢
   rw [if_neg hs, adn s n (k + 1) f S p (by omega) h hf]
   simp [cs0]
set_option maxRecDepth 100000 in
theorem aq4 {s : CS} (h : s8 s = 1) : ∃ b, b < 256 ∧ aav s 0 = some b ∧ s = aan b b := by
 cases hn : aav s 0 with
 | none => rw [aj7 fun i hi => ah4 hn i (by omega) hi] at h; cases h
 | some b =>
  obtain ⟨_, h2, h3, _⟩ := ahu hn
  refine ⟨b, h2, rfl, adg fun j hj => ?_⟩
  rw [aer hj, Bool.eq_iff_iff]
  constructor
  ·intro hs
   unfold s8 at h
   rw [List.countP_eq_length_filter] at h
   obtain ⟨x, hx⟩ := List.length_eq_one_iff.1 h
   have m1 : b ∈ (List.range 256).filter fun i => s.getLsbD i := List.mem_filter.2 ⟨List.mem_range.2 h2, h3⟩
   have m2 : j ∈ (List.range 256).filter fun i => s.getLsbD i := List.mem_filter.2 ⟨List.mem_range.2 hj, hs⟩
   rw [hx] at m1 m2
   have e1 := List.mem_singleton.1 m1
   have e2 := List.mem_singleton.1 m2
   exact decide_eq_true (by omega)
  ·intro hd
   have := of_decide_eq_true hd
   rw [show j = b by omega]; exact h3
set_option maxRecDepth 100000 in
theorem ayg (s : CS) {t v : List UInt8} {p : Nat} (h : At0 t p (u1 s ++ v)) : l9 t p = (s, ((p + (u1 s).length : Nat) : Int), 0, 0) := by
 unfold l9
 unfold u1 at h ⊢
 by_cases h1 : s8 s = 1
 ·rw [if_pos h1] at h ⊢
  obtain ⟨b, hb, hn, hs⟩ := aq4 h1
  rw [hn] at h ⊢
  simp only [Option.getD_some] at h ⊢
  obtain ⟨c, w, hw, n1, n2⟩ := alr b
  have hh := h
  rw [hw] at hh
  obtain ⟨q1, q2, _⟩ := At0.cons (v := w ++ v) hh
  rw [if_neg (by omega), ac3, q2, if_neg (fun x => n1 (UInt8.toNat_inj.1 (by simpa using (Int.ofNat.inj x)))), if_neg (fun x => n2 (UInt8.toNat_inj.1 (by simpa using (Int.ofNat.inj x)))), acu a0m hb h]
  simp only
  rw [Int.toNat_natCast, ← hs]
 ·rw [if_neg h1] at h ⊢
  by_cases h2 : 128 < s8 s
  ·rw [if_pos h2] at h ⊢
   have e0 := agh (~~~ s) 256 0
   rw [d5, List.nil_append, Nat.zero_add] at e0
   rw [← e0] at h ⊢
   simp only [List.append_assoc, List.cons_append, List.nil_append] at h
   obtain ⟨q1, q2, q3⟩ := At0.cons h
   obtain ⟨q4, q5, q6⟩ := At0.cons q3
   have hl := h.len
   simp only [List.length_cons, List.length_append] at hl
   rw [if_neg (by omega), ac3, q2, if_neg (by decide), if_pos (by decide), aif, show (p : Int) + 1 = ((p + 1 : Nat) : Int) by omega, if_pos ⟨q4, by rw [q5]; rfl⟩, show ((p + 1 : Nat) : Int) + 1 = ((p + 1 + 1 : Nat) : Int) by omega,
    adn (~~~ s) 256 0 _ _ _ rfl q6 (by omega), ake]
   simp only [List.length_cons, List.length_append, List.length_nil]
   rw [show ~~~ (cs0 ||| ~~~ s) = s by simp [cs0]]
   congr 2; omega
  ·rw [if_neg h2] at h ⊢
   have e0 := agh s 256 0
   rw [d5, List.nil_append, Nat.zero_add] at e0
   rw [← e0] at h ⊢
   simp only [List.append_assoc, List.cons_append, List.nil_append] at h
   obtain ⟨q1, q2, q3⟩ := At0.cons h
   have hl := h.len
   simp only [List.length_cons, List.length_append] at hl
   obtain ⟨c, w, hw, _, n2⟩ := apx s v 256 0
   have q3' := q3
   rw [hw] at q3'
   obtain ⟨_, q5, _⟩ := At0.cons q3'
   rw [if_neg (by omega), ac3, q2, if_neg (by decide), if_pos (by decide), aif, show (p : Int) + 1 = ((p + 1 : Nat) : Int) by omega, if_neg (by rw [q5]; exact fun x => n2 (UInt8.toNat_inj.1 (by simpa using (Int.ofNat.inj x.2)))),
    adn s 256 0 _ _ _ rfl q3 (by omega), ake]
   simp only [List.length_cons, List.length_append, List.length_nil]
   rw [show cs0 ||| s = s by simp [cs0]]
   congr 2; omega
set_option maxRecDepth 100000 in
theorem awh (s : CS) : (u1 s).length ≤ 4096 := by
 unfold u1
 have h1 := l8 ((aav s 0).getD 0) spL
 have h2 := r8 s 256
 have h3 := r8 (~~~ s) 256
 split
 ·omega
 ·split <;> simp <;> omega
end Go.Proofs.YtohnchdnkbadaaaDoor
namespace Go.Proofs.YtohnchdnkbadaaaDoor
open Go Go.RowKit
set_option maxRecDepth 100000 in
theorem avu (s : CS) : ai3 86 #[.agg (n5 s)] (.string (bs (u1 s))) := by
 by_cases h : s8 s = 1
 ·exact awk s h
 ·exact avi s h
end Go.Proofs.YtohnchdnkbadaaaDoor
