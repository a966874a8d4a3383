/-
  Merged: RefShow, Rback, Shows.
-/
import Derived.Test.YtohnchdnkbadaaaDoorPa3
namespace Go.Proofs.YtohnchdnkbadaaaDoor
open Go Go.RowKit
set_option maxRecDepth 100000 in
theorem apz {s : CS} {k : Nat} (hk : k < 256) (hb : s.getLsbD k = true) (h : ∀ i, i < k → s.getLsbD i = false) : aa4 s 0 = some k := by
 cases hn : aa4 s 0 with
 | none => have := aj0 hn k (by omega) hk; rw [hb] at this; cases this
 | some c =>
  obtain ⟨h1, h2, h3, h4⟩ := ak9 hn
  rcases Nat.lt_trichotomy c k with h5 | h5 | h5
  ·rw [h c h5] at h3; cases h3
  ·rw [h5]
  ·rw [h4 k (by omega) h5] at hb; cases hb
set_option maxRecDepth 100000 in
theorem api {s : CS} (h : ∀ i, i < 256 → s.getLsbD i = false) : u7 s = 0 := by
 unfold u7
 rw [List.countP_eq_zero]
 intro i hi
 rw [h i (List.mem_range.1 hi)]; simp
set_option maxRecDepth 100000 in
theorem azy (f : Nat → Bool) : RowT Tryd.prog 100 (x7 f).size := by rw [ao8]; exact ⟨by kernel_rfl, by kernel_rfl⟩
set_option maxRecDepth 100000 in
theorem amv (s : CS) : (List.range 256).countP s.getLsbD = u7 s := rfl
set_option maxRecDepth 100000 in
theorem x6 (b : Nat) (hb : b < 256) (l : List UInt8) : aek Tryd.prog 128 #[.int .u8 b, .bool (l.contains b.toUInt8)] (.string (bs (m5 b l))) := ayh b hb _
set_option maxRecDepth 100000 in
set_option maxHeartbeats 1000000 in
theorem aoo (s : CS) (h1 : u7 s = 1) : aek Tryd.prog 87 #[.agg (x7 s.getLsbD)] (.string (bs (x8 s))) := by
 intro w
 have HS := Lib.hid (show x8 s = m5 ((aa4 s 0).getD 0) spL by unfold x8; rw [if_pos h1])
 have HN : Hid (¬ ∀ i, i < 256 → s.getLsbD i = false) := Lib.hid (fun h => by have := api h; omega)
 have c0 := am6 s.getLsbD
 rw [amv] at c0
 have C0 := Lib.hid c0; clear c0
 have H0 := Lib.hid (heap_alloc_new w (.cells (x7 s.getLsbD) 100))
 have hb0 : Below w.heap.size w (w.alloc (.cells (x7 s.getLsbD) 100)) := (Below.refl _ _).alloc (Nat.le_refl _) _
 go_enter Tryd.func87, Tryd.ntmps87
 go_wp2_with (first | (with_reducible refine aa7 (d := 10) ?_) | fail)
 unfold Hid
 generalize w.alloc (.cells (x7 s.getLsbD) 100) = W1 at H0 hb0 ⊢
 have hl0 : w.heap.size < W1.heap.size := b6 H0.out
 refine o0 (d := 10) w.heap.size 100 H0.out (azy _) rfl ?_
 simp only [Act.put, List.setIfInBounds_toArray, List.set_cons_zero, List.set_cons_succ]
 go_wp2_with fail
 refine (C0.out W1).mono ?_
 rintro e0 W2 ⟨rfl, hv⟩
 have H1 := Lib.hid (blk hv H0.out hl0)
 have hb1 := hb0.trans (hv.mono hb0.size)
 have hl1 : w.heap.size < W2.heap.size := b6 H1.out
 clear hv hb0 H0 hl0 C0
 rw [h1]
 clear h1
 go_wp2_with fail
 go_loopw [4] (fun i wr => ∃ k : Nat, i = .int .i64 k ∧ k ≤ 256 ∧ (∀ i, i < k → s.getLsbD i = false) ∧ wr = W2)
  (fun i _ => 256 - (intOf i).toNat)
 case atStart => exact ⟨0, rfl, by omega, fun i h => by omega, rfl⟩
 case round =>
  obtain ⟨k, rfl, hk, hall, rfl⟩ := hrel
  have HA := Lib.hid hall; clear hall
  by_cases hlt : k < 256
  ·have hcell : wr.cell? ⟨w.heap.size, k, none⟩ = some (.bool (s.getLsbD k)) := (cell_of_row _ _ k _ _ _ H1.out).trans (aay _ k hlt)
   cases hf : s.getLsbD k
   ·rw [hf] at hcell
    have HF := Lib.hid hf; clear hf
    go_wp2
    go_roundw
    case rel =>
     refine ⟨k + 1, by go_num, by omega, fun i h => ?_, trivial⟩
     by_cases he : i = k
     ·subst he; exact HF.out
     ·exact HA.out i (by omega)
    case measure => simp [intOf] <;> omega
   ·have HQ := Lib.hid (show x8 s = m5 k spL by rw [HS.out, apz hlt hf HA.out]; rfl)
    rw [hf] at hcell
    clear hf
    have C2 := Lib.hid (ajb k hlt)
    have C3 := Lib.hid (x6 k hlt spL)
    generalize spL.contains k.toUInt8 = r at C2 C3
    go_wp2_with fail
    refine (C2.out wr).mono ?_
    rintro e0 W3 ⟨rfl, hv⟩
    have hb2 := hb1.trans (hv.mono hb1.size)
    go_wp2_with fail
    refine (C3.out W3).mono ?_
    rintro e0 W4 ⟨rfl, hv3⟩
    go_wp2
    go_ret
    exact ⟨by rw [HQ.out]; rfl, hb2.trans (hv3.mono hb2.size)⟩
  ·exact absurd (fun i hi => HA.out i (by omega)) HN.out
set_option maxRecDepth 100000 in
set_option maxHeartbeats 20000000 in
theorem al9 (s : CS) (h1 : u7 s ≠ 1) : aek Tryd.prog 87 #[.agg (x7 s.getLsbD)] (.string (bs (x8 s))) := by
 intro w
 have hcb : u7 s ≤ 256 := by
  have := List.countP_le_length (p := fun i => s.getLsbD i) (l := List.range 256)
  simpa [u7] using this
 have HS0 := Lib.hid (show x8 s = if 128 < u7 s then [91, 94] ++ d6 (~~~ s) 256 ++ [93] else [91] ++ d6 s 256 ++ [93] by unfold x8; rw [if_neg h1])
 have hn1 : ((u7 s : Int) == 1) = false := by simpa using (show ¬ ((u7 s : Int) = 1) by omega)
 clear h1
 have c0 := am6 s.getLsbD
 rw [amv] at c0
 have C0 := Lib.hid c0; clear c0
 have H0 := Lib.hid (heap_alloc_new w (.cells (x7 s.getLsbD) 100))
 have hb0 : Below w.heap.size w (w.alloc (.cells (x7 s.getLsbD) 100)) := (Below.refl _ _).alloc (Nat.le_refl _) _
 go_enter Tryd.func87, Tryd.ntmps87
 go_wp2_with (first | (with_reducible refine aa7 (d := 10) ?_) | fail)
 unfold Hid
 generalize w.alloc (.cells (x7 s.getLsbD) 100) = W1 at H0 hb0 ⊢
 have hl0 : w.heap.size < W1.heap.size := b6 H0.out
 refine o0 (d := 10) w.heap.size 100 H0.out (azy _) rfl ?_
 simp only [Act.put, List.setIfInBounds_toArray, List.set_cons_zero, List.set_cons_succ]
 go_wp2_with fail
 refine (C0.out W1).mono ?_
 rintro e0 W2 ⟨rfl, hv⟩
 have H1 := Lib.hid (blk hv H0.out hl0)
 have hb1 := hb0.trans (hv.mono hb0.size)
 have hl1 : w.heap.size < W2.heap.size := b6 H1.out
 clear hv hb0 H0 hl0 C0
 generalize u7 s = n at *
 by_cases h128 : 128 < n
 ·have HS := Lib.hid (HS0.out.trans (if_pos h128))
  clear HS0
  have hd128 : decide ((128 : Int) < (n : Int)) = true := decide_eq_true (by omega)
  clear h128
  go_wp2_with fail
  have HI : Hid (∀ i, i < 256 → (~~~ s).getLsbD i = true → s.getLsbD i = false) := Lib.hid fun i hi h => by simpa [hi] using h
  have HO : Hid (∀ i, i < 256 → (~~~ s).getLsbD i = false → s.getLsbD i = true) := Lib.hid fun i hi h => by simpa [hi] using h
  have h0 : (⟨#[91, 94]⟩ : ByteArray) = bs [91, 94] := rfl
  rw [h0]
  clear h0
  have hpre : ([91, 94] : List UInt8).length ≤ 2 := by decide
  generalize ([91, 94] : List UInt8) = pre at *
  generalize ~~~ s = S at *
  go_loopw [5, 7] (fun out i wr => ∃ k : Nat, i = .int .i64 k ∧ k ≤ 256 ∧ out = .string (bs (pre ++ d6 S k)) ∧ wr.heap[w.heap.size]? = some (.cells (x7 s.getLsbD) 100 (0, 0)) ∧ Below w.heap.size w wr)
   (fun _ i _ => 256 - (intOf i).toNat)
  case atStart => exact ⟨0, rfl, by omega, by simp [d6], H1.out, hb1⟩
  case round =>
   obtain ⟨k, rfl, hk, rfl, hblk0, hb3⟩ := hrel
   have H3 := Lib.hid hblk0; clear hblk0
   have hl3 : w.heap.size < wr.heap.size := b6 H3.out
   clear H1 hb1 hl1
   by_cases hk6 : k < 256
   ·have hc3 : wr.cell? ⟨w.heap.size, k, none⟩ = some (.bool (s.getLsbD k)) := (cell_of_row _ _ k _ _ _ H3.out).trans (aay _ k hk6)
    by_cases hbit : S.getLsbD k = true
    ·rw [HI.out _ hk6 hbit] at hc3
     by_cases hk0 : k = 0
     ·have hkd : k < 1 := by omega
      have hstart : (k == 0 || !S.getLsbD (k - 1)) = true := by rw [hk0]; rfl
      clear hk0
      go_wp2_with fail
      clear hkd
      (try (rename (k : Int) ≤ 0 => hk9; clear hk9))
      (try (rename ¬ (0 : Int) < (k : Int) => hk9; clear hk9))
      go_loopw [8] (fun i wr => ∃ j : Nat, i = .int .i64 j ∧ 1 ≤ j ∧ k + j ≤ 256 ∧ (∀ i, k < i → i < k + j → S.getLsbD i = true) ∧ wr.heap[w.heap.size]? = some (.cells (x7 s.getLsbD) 100 (0, 0)) ∧ Below w.heap.size w wr)
       (fun i _ => 256 - (intOf i).toNat)
      case atStart => exact ⟨1, rfl, by omega, by omega, fun i h1 h2 => by omega, H3.out, hb3⟩
      case round =>
       obtain ⟨j, rfl, hj1, hj2, hrun, hblk1, hb5⟩ := hrel
       have H5 := Lib.hid hblk1; clear hblk1
       clear H3 hb3 hl3
       have hl5 : w.heap.size < wr.heap.size := b6 H5.out
       by_cases hj6 : k + j < 256
       ·have hc5 : wr.cell? ⟨w.heap.size, k + j, none⟩ = some (.bool (s.getLsbD (k + j))) := (cell_of_row _ _ (k + j) _ _ _ H5.out).trans (aay _ (k + j) hj6)
        have hde : decide ((k : Int) + (j : Int) < 256) = true := decide_eq_true (by omega)
        by_cases hb2 : S.getLsbD (k + j) = true
        ·rw [HI.out _ hj6 hb2] at hc5
         go_wp2
         go_roundw
         case rel =>
          refine ⟨j + 1, by go_num, by omega, by omega, fun i h1 h2 => ?_, H5.out, hb5⟩
          by_cases hx : i = k + j
          ·rw [hx]; exact hb2
          ·exact hrun i h1 (by omega)
         case measure => simp [intOf] <;> omega
        ·have hb2' : S.getLsbD (k + j) = false := by simpa using hb2
         rw [HO.out _ hj6 hb2'] at hc5
         have hend : ∀ e, k + j = e + 1 → e < 255 → S.getLsbD (e + 1) = false := fun e he _ => by rw [← he]; exact hb2'
         clear hb2
         obtain ⟨e, he⟩ : ∃ e, k + j = e + 1 := ⟨k + j - 1, by omega⟩
         have hE : (k : Int) + j - 1 = (e : Int) := by omega
         have hre := y7 (s := S) (k := k) (e := e) (by omega) (by omega) (fun i h1 h2 => hrun i h1 (by omega)) (hend e he)
         have hT : pre ++ d6 S (k + 1) = pre ++ d6 S k ++ w5 k e := by rw [d6, abq, hre, hbit, hstart, Bool.true_and, if_pos rfl, List.append_assoc]
         have CI1 := Lib.hid (v4 k (by omega))
         have CS1 := Lib.hid (x6 k (by omega) inL)
         have hq1 := l8 k inL
         have CI2 := Lib.hid (v4 e (by omega))
         have CS2 := Lib.hid (x6 e (by omega) inL)
         have hq2 := l8 e inL
         have hol : (pre ++ d6 S k).length ≤ 2 + 9 * k := by have := q7 S k; rw [List.length_append]; omega
         have HE := Lib.hid he
         clear hend hre hrun hstart hbit HI HO he
         have HB := Lib.hid d4
         generalize pre ++ d6 S k = o at hol hT ⊢
         unfold w5 at hT
         generalize hq : m5 k inL = q1 at hq1 CS1 hT
         clear hq
         generalize hq : m5 e inL = q2 at hq2 CS2 hT
         clear hq
         generalize inL.contains k.toUInt8 = r1 at CI1 CS1
         generalize inL.contains e.toUInt8 = r2 at CI2 CS2
         have z1 : (bs o).size ≤ 2 + 9 * 256 := by rw [e9]; omega
         have z2 : (bs q1).size ≤ 4 := by rw [e9]; omega
         have z3 : (bs q2).size ≤ 4 := by rw [e9]; omega
         have z4 : (bs o ++ bs q1).size ≤ 2 + 9 * 256 + 4 := by rw [d4, e9, List.length_append]; omega
         clear hol hq1 hq2
         by_cases c1 : 2 < j
         ·rw [if_pos (show k + 1 < e by have := HE.out; omega), if_pos (show k < e by have := HE.out; omega)] at hT
          have HT := Lib.hid hT; clear hT
          have z5 : (bs o ++ bs q1 ++ (⟨#[45]⟩ : ByteArray)).size ≤ 2 + 9 * 256 + 5 := by rw [show (⟨#[45]⟩ : ByteArray) = bs [45] from rfl, d4, d4, e9]; rw [d4, e9] at z4; simp only [List.length_append, List.length_cons, List.length_nil] at z4 ⊢; omega
          go_wp2_with fail
          refine (CI1.out wr).mono ?_
          rintro e0 V1 ⟨rfl, hv⟩
          have hb7 := hb5.trans (hv.mono hb5.size)
          have H7 := Lib.hid (blk hv H5.out hl5)
          have hl7 : w.heap.size < V1.heap.size := b6 H7.out
          clear hv hb5 H5 hl5 CI1
          go_wp2_with fail
          refine (CS1.out V1).mono ?_
          rintro e0 V2 ⟨rfl, hv⟩
          have hb8 := hb7.trans (hv.mono hb7.size)
          have H8 := Lib.hid (blk hv H7.out hl7)
          have hl8 : w.heap.size < V2.heap.size := b6 H8.out
          clear hv hb7 H7 hl7 CS1
          go_wp2_with fail
          refine (CI2.out V2).mono ?_
          rintro e0 V3 ⟨rfl, hv⟩
          have hb9 := hb8.trans (hv.mono hb8.size)
          have H9 := Lib.hid (blk hv H8.out hl8)
          have hl9 : w.heap.size < V3.heap.size := b6 H9.out
          clear hv hb8 H8 hl8 CI2
          go_wp2_with fail
          refine (CS2.out V3).mono ?_
          rintro e0 V4 ⟨rfl, hv⟩
          have hb10 := hb9.trans (hv.mono hb9.size)
          have H10 := Lib.hid (blk hv H9.out hl9)
          clear hv hb9 H9 hl9 CS2
          go_wp2
          go_roundw
          case rel => exact ⟨k + 1, by go_num, by omega, by rw [HT.out]; show Value.string (bs o ++ bs q1 ++ bs [45] ++ bs q2) = _; simp only [HB.out, List.append_assoc], H10.out, hb10⟩
          case measure => simp [intOf] <;> omega
         ·by_cases c2 : 1 < j
          ·rw [if_neg (show ¬ k + 1 < e by have := HE.out; omega), if_pos (show k < e by have := HE.out; omega), List.append_nil] at hT
           have HT := Lib.hid hT; clear hT
           go_wp2_with fail
           refine (CI1.out wr).mono ?_
           rintro e0 V1 ⟨rfl, hv⟩
           have hb7 := hb5.trans (hv.mono hb5.size)
           have H7 := Lib.hid (blk hv H5.out hl5)
           have hl7 : w.heap.size < V1.heap.size := b6 H7.out
           clear hv hb5 H5 hl5 CI1
           go_wp2_with fail
           refine (CS1.out V1).mono ?_
           rintro e0 V2 ⟨rfl, hv⟩
           have hb8 := hb7.trans (hv.mono hb7.size)
           have H8 := Lib.hid (blk hv H7.out hl7)
           have hl8 : w.heap.size < V2.heap.size := b6 H8.out
           clear hv hb7 H7 hl7 CS1
           go_wp2_with fail
           refine (CI2.out V2).mono ?_
           rintro e0 V3 ⟨rfl, hv⟩
           have hb9 := hb8.trans (hv.mono hb8.size)
           have H9 := Lib.hid (blk hv H8.out hl8)
           have hl9 : w.heap.size < V3.heap.size := b6 H9.out
           clear hv hb8 H8 hl8 CI2
           go_wp2_with fail
           refine (CS2.out V3).mono ?_
           rintro e0 V4 ⟨rfl, hv⟩
           have hb10 := hb9.trans (hv.mono hb9.size)
           have H10 := Lib.hid (blk hv H9.out hl9)
           clear hv hb9 H9 hl9 CS2
           go_wp2
           go_roundw
           case rel => exact ⟨k + 1, by go_num, by omega, by rw [HT.out]; show Value.string (bs o ++ bs q1 ++ bs q2) = _; simp only [HB.out, List.append_assoc], H10.out, hb10⟩
           case measure => simp [intOf] <;> omega
          ·rw [if_neg (show ¬ k + 1 < e by have := HE.out; omega), if_neg (show ¬ k < e by have := HE.out; omega), List.append_nil, List.append_nil] at hT
           have HT := Lib.hid hT; clear hT
           clear CS2 CI2
           go_wp2_with fail
           refine (CI1.out wr).mono ?_
           rintro e0 V1 ⟨rfl, hv⟩
           have hb7 := hb5.trans (hv.mono hb5.size)
           have H7 := Lib.hid (blk hv H5.out hl5)
           have hl7 : w.heap.size < V1.heap.size := b6 H7.out
           clear hv hb5 H5 hl5 CI1
           go_wp2_with fail
           refine (CS1.out V1).mono ?_
           rintro e0 V2 ⟨rfl, hv⟩
           have hb8 := hb7.trans (hv.mono hb7.size)
           have H8 := Lib.hid (blk hv H7.out hl7)
           have hl8 : w.heap.size < V2.heap.size := b6 H8.out
           clear hv hb7 H7 hl7 CS1
           go_wp2
           go_roundw
           case rel => exact ⟨k + 1, by go_num, by omega, by rw [HT.out]; show Value.string (bs o ++ bs q1) = _; simp only [HB.out], H8.out, hb8⟩
           case measure => simp [intOf] <;> omega
       ·have hend : ∀ e, k + j = e + 1 → e < 255 → S.getLsbD (e + 1) = false := fun e he h => by omega
        have hde : decide ((k : Int) + (j : Int) < 256) = false := decide_eq_false (by omega)
        clear hj6
        obtain ⟨e, he⟩ : ∃ e, k + j = e + 1 := ⟨k + j - 1, by omega⟩
        have hE : (k : Int) + j - 1 = (e : Int) := by omega
        have hre := y7 (s := S) (k := k) (e := e) (by omega) (by omega) (fun i h1 h2 => hrun i h1 (by omega)) (hend e he)
        have hT : pre ++ d6 S (k + 1) = pre ++ d6 S k ++ w5 k e := by rw [d6, abq, hre, hbit, hstart, Bool.true_and, if_pos rfl, List.append_assoc]
        have CI1 := Lib.hid (v4 k (by omega))
        have CS1 := Lib.hid (x6 k (by omega) inL)
        have hq1 := l8 k inL
        have CI2 := Lib.hid (v4 e (by omega))
        have CS2 := Lib.hid (x6 e (by omega) inL)
        have hq2 := l8 e inL
        have hol : (pre ++ d6 S k).length ≤ 2 + 9 * k := by have := q7 S k; rw [List.length_append]; omega
        have HE := Lib.hid he
        clear hend hre hrun hstart hbit HI HO he
        have HB := Lib.hid d4
        generalize pre ++ d6 S k = o at hol hT ⊢
        unfold w5 at hT
        generalize hq : m5 k inL = q1 at hq1 CS1 hT
        clear hq
        generalize hq : m5 e inL = q2 at hq2 CS2 hT
        clear hq
        generalize inL.contains k.toUInt8 = r1 at CI1 CS1
        generalize inL.contains e.toUInt8 = r2 at CI2 CS2
        have z1 : (bs o).size ≤ 2 + 9 * 256 := by rw [e9]; omega
        have z2 : (bs q1).size ≤ 4 := by rw [e9]; omega
        have z3 : (bs q2).size ≤ 4 := by rw [e9]; omega
        have z4 : (bs o ++ bs q1).size ≤ 2 + 9 * 256 + 4 := by rw [d4, e9, List.length_append]; omega
        clear hol hq1 hq2
        by_cases c1 : 2 < j
        ·rw [if_pos (show k + 1 < e by have := HE.out; omega), if_pos (show k < e by have := HE.out; omega)] at hT
         have HT := Lib.hid hT; clear hT
         have z5 : (bs o ++ bs q1 ++ (⟨#[45]⟩ : ByteArray)).size ≤ 2 + 9 * 256 + 5 := by rw [show (⟨#[45]⟩ : ByteArray) = bs [45] from rfl, d4, d4, e9]; rw [d4, e9] at z4; simp only [List.length_append, List.length_cons, List.length_nil] at z4 ⊢; omega
         go_wp2_with fail
         refine (CI1.out wr).mono ?_
         rintro e0 V1 ⟨rfl, hv⟩
         have hb7 := hb5.trans (hv.mono hb5.size)
         have H7 := Lib.hid (blk hv H5.out hl5)
         have hl7 : w.heap.size < V1.heap.size := b6 H7.out
         clear hv hb5 H5 hl5 CI1
         go_wp2_with fail
         refine (CS1.out V1).mono ?_
         rintro e0 V2 ⟨rfl, hv⟩
         have hb8 := hb7.trans (hv.mono hb7.size)
         have H8 := Lib.hid (blk hv H7.out hl7)
         have hl8 : w.heap.size < V2.heap.size := b6 H8.out
         clear hv hb7 H7 hl7 CS1
         go_wp2_with fail
         refine (CI2.out V2).mono ?_
         rintro e0 V3 ⟨rfl, hv⟩
         have hb9 := hb8.trans (hv.mono hb8.size)
         have H9 := Lib.hid (blk hv H8.out hl8)
         have hl9 : w.heap.size < V3.heap.size := b6 H9.out
         clear hv hb8 H8 hl8 CI2
         go_wp2_with fail
         refine (CS2.out V3).mono ?_
         rintro e0 V4 ⟨rfl, hv⟩
         have hb10 := hb9.trans (hv.mono hb9.size)
         have H10 := Lib.hid (blk hv H9.out hl9)
         clear hv hb9 H9 hl9 CS2
         go_wp2
         go_roundw
         case rel => exact ⟨k + 1, by go_num, by omega, by rw [HT.out]; show Value.string (bs o ++ bs q1 ++ bs [45] ++ bs q2) = _; simp only [HB.out, List.append_assoc], H10.out, hb10⟩
         case measure => simp [intOf] <;> omega
        ·by_cases c2 : 1 < j
         ·rw [if_neg (show ¬ k + 1 < e by have := HE.out; omega), if_pos (show k < e by have := HE.out; omega), List.append_nil] at hT
          have HT := Lib.hid hT; clear hT
          go_wp2_with fail
          refine (CI1.out wr).mono ?_
          rintro e0 V1 ⟨rfl, hv⟩
          have hb7 := hb5.trans (hv.mono hb5.size)
          have H7 := Lib.hid (blk hv H5.out hl5)
          have hl7 : w.heap.size < V1.heap.size := b6 H7.out
          clear hv hb5 H5 hl5 CI1
          go_wp2_with fail
          refine (CS1.out V1).mono ?_
          rintro e0 V2 ⟨rfl, hv⟩
          have hb8 := hb7.trans (hv.mono hb7.size)
          have H8 := Lib.hid (blk hv H7.out hl7)
          have hl8 : w.heap.size < V2.heap.size := b6 H8.out
          clear hv hb7 H7 hl7 CS1
          go_wp2_with fail
          refine (CI2.out V2).mono ?_
          rintro e0 V3 ⟨rfl, hv⟩
          have hb9 := hb8.trans (hv.mono hb8.size)
          have H9 := Lib.hid (blk hv H8.out hl8)
          have hl9 : w.heap.size < V3.heap.size := b6 H9.out
          clear hv hb8 H8 hl8 CI2
          go_wp2_with fail
          refine (CS2.out V3).mono ?_
          rintro e0 V4 ⟨rfl, hv⟩
          have hb10 := hb9.trans (hv.mono hb9.size)
          have H10 := Lib.hid (blk hv H9.out hl9)
          clear hv hb9 H9 hl9 CS2
          go_wp2
          go_roundw
          case rel => exact ⟨k + 1, by go_num, by omega, by rw [HT.out]; show Value.string (bs o ++ bs q1 ++ bs q2) = _; simp only [HB.out, List.append_assoc], H10.out, hb10⟩
          case measure => simp [intOf] <;> omega
         ·rw [if_neg (show ¬ k + 1 < e by have := HE.out; omega), if_neg (show ¬ k < e by have := HE.out; omega), List.append_nil, List.append_nil] at hT
          have HT := Lib.hid hT; clear hT
          clear CS2 CI2
          go_wp2_with fail
          refine (CI1.out wr).mono ?_
          rintro e0 V1 ⟨rfl, hv⟩
          have hb7 := hb5.trans (hv.mono hb5.size)
          have H7 := Lib.hid (blk hv H5.out hl5)
          have hl7 : w.heap.size < V1.heap.size := b6 H7.out
          clear hv hb5 H5 hl5 CI1
          go_wp2_with fail
          refine (CS1.out V1).mono ?_
          rintro e0 V2 ⟨rfl, hv⟩
          have hb8 := hb7.trans (hv.mono hb7.size)
          have H8 := Lib.hid (blk hv H7.out hl7)
          have hl8 : w.heap.size < V2.heap.size := b6 H8.out
          clear hv hb7 H7 hl7 CS1
          go_wp2
          go_roundw
          case rel => exact ⟨k + 1, by go_num, by omega, by rw [HT.out]; show Value.string (bs o ++ bs q1) = _; simp only [HB.out], H8.out, hb8⟩
          case measure => simp [intOf] <;> omega
     ·have hc4 : wr.cell? ⟨w.heap.size, k - 1, none⟩ = some (.bool (s.getLsbD (k - 1))) := (cell_of_row _ _ (k - 1) _ _ _ H3.out).trans (aay _ (k - 1) (by omega))
      have hkd : decide ((0 : Int) < (k : Int)) = true := decide_eq_true (by omega)
      by_cases hprev : S.getLsbD (k - 1) = true
      ·rw [HI.out _ (by omega) hprev] at hc4
       have hT : d6 S (k + 1) = d6 S k := by
        have hz : (k == 0) = false := by simpa using hk0
        rw [d6, abq, hbit, hprev, hz]; simp
       go_wp2
       go_roundw
       case rel => exact ⟨k + 1, by go_num, by omega, by rw [hT], H3.out, hb3⟩
       case measure => simp [intOf] <;> omega
      ·have hprev' : S.getLsbD (k - 1) = false := by simpa using hprev
       rw [HO.out _ (by omega) hprev'] at hc4
       have hstart : (k == 0 || !S.getLsbD (k - 1)) = true := by rw [hprev']; simp
       clear hprev hprev'
       go_wp2_with fail
       go_loopw [8] (fun i wr => ∃ j : Nat, i = .int .i64 j ∧ 1 ≤ j ∧ k + j ≤ 256 ∧ (∀ i, k < i → i < k + j → S.getLsbD i = true) ∧ wr.heap[w.heap.size]? = some (.cells (x7 s.getLsbD) 100 (0, 0)) ∧ Below w.heap.size w wr)
        (fun i _ => 256 - (intOf i).toNat)
       case atStart => exact ⟨1, rfl, by omega, by omega, fun i h1 h2 => by omega, H3.out, hb3⟩
       case round =>
        obtain ⟨j, rfl, hj1, hj2, hrun, hblk1, hb5⟩ := hrel
        have H5 := Lib.hid hblk1; clear hblk1
        clear H3 hb3 hl3
        have hl5 : w.heap.size < wr.heap.size := b6 H5.out
        by_cases hj6 : k + j < 256
        ·have hc5 : wr.cell? ⟨w.heap.size, k + j, none⟩ = some (.bool (s.getLsbD (k + j))) := (cell_of_row _ _ (k + j) _ _ _ H5.out).trans (aay _ (k + j) hj6)
         have hde : decide ((k : Int) + (j : Int) < 256) = true := decide_eq_true (by omega)
         by_cases hb2 : S.getLsbD (k + j) = true
         ·rw [HI.out _ hj6 hb2] at hc5
          go_wp2
          go_roundw
          case rel =>
           refine ⟨j + 1, by go_num, by omega, by omega, fun i h1 h2 => ?_, H5.out, hb5⟩
           by_cases hx : i = k + j
           ·rw [hx]; exact hb2
           ·exact hrun i h1 (by omega)
          case measure => simp [intOf] <;> omega
         ·have hb2' : S.getLsbD (k + j) = false := by simpa using hb2
          rw [HO.out _ hj6 hb2'] at hc5
          have hend : ∀ e, k + j = e + 1 → e < 255 → S.getLsbD (e + 1) = false := fun e he _ => by rw [← he]; exact hb2'
          clear hb2
          obtain ⟨e, he⟩ : ∃ e, k + j = e + 1 := ⟨k + j - 1, by omega⟩
          have hE : (k : Int) + j - 1 = (e : Int) := by omega
          have hre := y7 (s := S) (k := k) (e := e) (by omega) (by omega) (fun i h1 h2 => hrun i h1 (by omega)) (hend e he)
          have hT : pre ++ d6 S (k + 1) = pre ++ d6 S k ++ w5 k e := by rw [d6, abq, hre, hbit, hstart, Bool.true_and, if_pos rfl, List.append_assoc]
          have CI1 := Lib.hid (v4 k (by omega))
          have CS1 := Lib.hid (x6 k (by omega) inL)
          have hq1 := l8 k inL
          have CI2 := Lib.hid (v4 e (by omega))
          have CS2 := Lib.hid (x6 e (by omega) inL)
          have hq2 := l8 e inL
          have hol : (pre ++ d6 S k).length ≤ 2 + 9 * k := by have := q7 S k; rw [List.length_append]; omega
          have HE := Lib.hid he
          clear hend hre hrun hstart hbit HI HO he
          have HB := Lib.hid d4
          generalize pre ++ d6 S k = o at hol hT ⊢
          unfold w5 at hT
          generalize hq : m5 k inL = q1 at hq1 CS1 hT
          clear hq
          generalize hq : m5 e inL = q2 at hq2 CS2 hT
          clear hq
          generalize inL.contains k.toUInt8 = r1 at CI1 CS1
          generalize inL.contains e.toUInt8 = r2 at CI2 CS2
          have z1 : (bs o).size ≤ 2 + 9 * 256 := by rw [e9]; omega
          have z2 : (bs q1).size ≤ 4 := by rw [e9]; omega
          have z3 : (bs q2).size ≤ 4 := by rw [e9]; omega
          have z4 : (bs o ++ bs q1).size ≤ 2 + 9 * 256 + 4 := by rw [d4, e9, List.length_append]; omega
          clear hol hq1 hq2
          by_cases c1 : 2 < j
          ·rw [if_pos (show k + 1 < e by have := HE.out; omega), if_pos (show k < e by have := HE.out; omega)] at hT
           have HT := Lib.hid hT; clear hT
           have z5 : (bs o ++ bs q1 ++ (⟨#[45]⟩ : ByteArray)).size ≤ 2 + 9 * 256 + 5 := by rw [show (⟨#[45]⟩ : ByteArray) = bs [45] from rfl, d4, d4, e9]; rw [d4, e9] at z4; simp only [List.length_append, List.length_cons, List.length_nil] at z4 ⊢; omega
           go_wp2_with fail
           refine (CI1.out wr).mono ?_
           rintro e0 V1 ⟨rfl, hv⟩
           have hb7 := hb5.trans (hv.mono hb5.size)
           have H7 := Lib.hid (blk hv H5.out hl5)
           have hl7 : w.heap.size < V1.heap.size := b6 H7.out
           clear hv hb5 H5 hl5 CI1
           go_wp2_with fail
           refine (CS1.out V1).mono ?_
           rintro e0 V2 ⟨rfl, hv⟩
           have hb8 := hb7.trans (hv.mono hb7.size)
           have H8 := Lib.hid (blk hv H7.out hl7)
           have hl8 : w.heap.size < V2.heap.size := b6 H8.out
           clear hv hb7 H7 hl7 CS1
           go_wp2_with fail
           refine (CI2.out V2).mono ?_
           rintro e0 V3 ⟨rfl, hv⟩
           have hb9 := hb8.trans (hv.mono hb8.size)
           have H9 := Lib.hid (blk hv H8.out hl8)
           have hl9 : w.heap.size < V3.heap.size := b6 H9.out
           clear hv hb8 H8 hl8 CI2
           go_wp2_with fail
           refine (CS2.out V3).mono ?_
           rintro e0 V4 ⟨rfl, hv⟩
           have hb10 := hb9.trans (hv.mono hb9.size)
           have H10 := Lib.hid (blk hv H9.out hl9)
           clear hv hb9 H9 hl9 CS2
           go_wp2
           go_roundw
           case rel => exact ⟨k + 1, by go_num, by omega, by rw [HT.out]; show Value.string (bs o ++ bs q1 ++ bs [45] ++ bs q2) = _; simp only [HB.out, List.append_assoc], H10.out, hb10⟩
           case measure => simp [intOf] <;> omega
          ·by_cases c2 : 1 < j
           ·rw [if_neg (show ¬ k + 1 < e by have := HE.out; omega), if_pos (show k < e by have := HE.out; omega), List.append_nil] at hT
            have HT := Lib.hid hT; clear hT
            go_wp2_with fail
            refine (CI1.out wr).mono ?_
            rintro e0 V1 ⟨rfl, hv⟩
            have hb7 := hb5.trans (hv.mono hb5.size)
            have H7 := Lib.hid (blk hv H5.out hl5)
            have hl7 : w.heap.size < V1.heap.size := b6 H7.out
            clear hv hb5 H5 hl5 CI1
            go_wp2_with fail
            refine (CS1.out V1).mono ?_
            rintro e0 V2 ⟨rfl, hv⟩
            have hb8 := hb7.trans (hv.mono hb7.size)
            have H8 := Lib.hid (blk hv H7.out hl7)
            have hl8 : w.heap.size < V2.heap.size := b6 H8.out
            clear hv hb7 H7 hl7 CS1
            go_wp2_with fail
            refine (CI2.out V2).mono ?_
            rintro e0 V3 ⟨rfl, hv⟩
            have hb9 := hb8.trans (hv.mono hb8.size)
            have H9 := Lib.hid (blk hv H8.out hl8)
            have hl9 : w.heap.size < V3.heap.size := b6 H9.out
            clear hv hb8 H8 hl8 CI2
            go_wp2_with fail
            refine (CS2.out V3).mono ?_
            rintro e0 V4 ⟨rfl, hv⟩
            have hb10 := hb9.trans (hv.mono hb9.size)
            have H10 := Lib.hid (blk hv H9.out hl9)
            clear hv hb9 H9 hl9 CS2
            go_wp2
            go_roundw
            case rel => exact ⟨k + 1, by go_num, by omega, by rw [HT.out]; show Value.string (bs o ++ bs q1 ++ bs q2) = _; simp only [HB.out, List.append_assoc], H10.out, hb10⟩
            case measure => simp [intOf] <;> omega
           ·rw [if_neg (show ¬ k + 1 < e by have := HE.out; omega), if_neg (show ¬ k < e by have := HE.out; omega), List.append_nil, List.append_nil] at hT
            have HT := Lib.hid hT; clear hT
            clear CS2 CI2
            go_wp2_with fail
            refine (CI1.out wr).mono ?_
            rintro e0 V1 ⟨rfl, hv⟩
            have hb7 := hb5.trans (hv.mono hb5.size)
            have H7 := Lib.hid (blk hv H5.out hl5)
            have hl7 : w.heap.size < V1.heap.size := b6 H7.out
            clear hv hb5 H5 hl5 CI1
            go_wp2_with fail
            refine (CS1.out V1).mono ?_
            rintro e0 V2 ⟨rfl, hv⟩
            have hb8 := hb7.trans (hv.mono hb7.size)
            have H8 := Lib.hid (blk hv H7.out hl7)
            have hl8 : w.heap.size < V2.heap.size := b6 H8.out
            clear hv hb7 H7 hl7 CS1
            go_wp2
            go_roundw
            case rel => exact ⟨k + 1, by go_num, by omega, by rw [HT.out]; show Value.string (bs o ++ bs q1) = _; simp only [HB.out], H8.out, hb8⟩
            case measure => simp [intOf] <;> omega
        ·have hend : ∀ e, k + j = e + 1 → e < 255 → S.getLsbD (e + 1) = false := fun e he h => by omega
         have hde : decide ((k : Int) + (j : Int) < 256) = false := decide_eq_false (by omega)
         clear hj6
         obtain ⟨e, he⟩ : ∃ e, k + j = e + 1 := ⟨k + j - 1, by omega⟩
         have hE : (k : Int) + j - 1 = (e : Int) := by omega
         have hre := y7 (s := S) (k := k) (e := e) (by omega) (by omega) (fun i h1 h2 => hrun i h1 (by omega)) (hend e he)
         have hT : pre ++ d6 S (k + 1) = pre ++ d6 S k ++ w5 k e := by rw [d6, abq, hre, hbit, hstart, Bool.true_and, if_pos rfl, List.append_assoc]
         have CI1 := Lib.hid (v4 k (by omega))
         have CS1 := Lib.hid (x6 k (by omega) inL)
         have hq1 := l8 k inL
         have CI2 := Lib.hid (v4 e (by omega))
         have CS2 := Lib.hid (x6 e (by omega) inL)
         have hq2 := l8 e inL
         have hol : (pre ++ d6 S k).length ≤ 2 + 9 * k := by have := q7 S k; rw [List.length_append]; omega
         have HE := Lib.hid he
         clear hend hre hrun hstart hbit HI HO he
         have HB := Lib.hid d4
         generalize pre ++ d6 S k = o at hol hT ⊢
         unfold w5 at hT
         generalize hq : m5 k inL = q1 at hq1 CS1 hT
         clear hq
         generalize hq : m5 e inL = q2 at hq2 CS2 hT
         clear hq
         generalize inL.contains k.toUInt8 = r1 at CI1 CS1
         generalize inL.contains e.toUInt8 = r2 at CI2 CS2
         have z1 : (bs o).size ≤ 2 + 9 * 256 := by rw [e9]; omega
         have z2 : (bs q1).size ≤ 4 := by rw [e9]; omega
         have z3 : (bs q2).size ≤ 4 := by rw [e9]; omega
         have z4 : (bs o ++ bs q1).size ≤ 2 + 9 * 256 + 4 := by rw [d4, e9, List.length_append]; omega
         clear hol hq1 hq2
         by_cases c1 : 2 < j
         ·rw [if_pos (show k + 1 < e by have := HE.out; omega), if_pos (show k < e by have := HE.out; omega)] at hT
          have HT := Lib.hid hT; clear hT
          have z5 : (bs o ++ bs q1 ++ (⟨#[45]⟩ : ByteArray)).size ≤ 2 + 9 * 256 + 5 := by rw [show (⟨#[45]⟩ : ByteArray) = bs [45] from rfl, d4, d4, e9]; rw [d4, e9] at z4; simp only [List.length_append, List.length_cons, List.length_nil] at z4 ⊢; omega
          go_wp2_with fail
          refine (CI1.out wr).mono ?_
          rintro e0 V1 ⟨rfl, hv⟩
          have hb7 := hb5.trans (hv.mono hb5.size)
          have H7 := Lib.hid (blk hv H5.out hl5)
          have hl7 : w.heap.size < V1.heap.size := b6 H7.out
          clear hv hb5 H5 hl5 CI1
          go_wp2_with fail
          refine (CS1.out V1).mono ?_
          rintro e0 V2 ⟨rfl, hv⟩
          have hb8 := hb7.trans (hv.mono hb7.size)
          have H8 := Lib.hid (blk hv H7.out hl7)
          have hl8 : w.heap.size < V2.heap.size := b6 H8.out
          clear hv hb7 H7 hl7 CS1
          go_wp2_with fail
          refine (CI2.out V2).mono ?_
          rintro e0 V3 ⟨rfl, hv⟩
          have hb9 := hb8.trans (hv.mono hb8.size)
          have H9 := Lib.hid (blk hv H8.out hl8)
          have hl9 : w.heap.size < V3.heap.size := b6 H9.out
          clear hv hb8 H8 hl8 CI2
          go_wp2_with fail
          refine (CS2.out V3).mono ?_
          rintro e0 V4 ⟨rfl, hv⟩
          have hb10 := hb9.trans (hv.mono hb9.size)
          have H10 := Lib.hid (blk hv H9.out hl9)
          clear hv hb9 H9 hl9 CS2
          go_wp2
          go_roundw
          case rel => exact ⟨k + 1, by go_num, by omega, by rw [HT.out]; show Value.string (bs o ++ bs q1 ++ bs [45] ++ bs q2) = _; simp only [HB.out, List.append_assoc], H10.out, hb10⟩
          case measure => simp [intOf] <;> omega
         ·by_cases c2 : 1 < j
          ·rw [if_neg (show ¬ k + 1 < e by have := HE.out; omega), if_pos (show k < e by have := HE.out; omega), List.append_nil] at hT
           have HT := Lib.hid hT; clear hT
           go_wp2_with fail
           refine (CI1.out wr).mono ?_
           rintro e0 V1 ⟨rfl, hv⟩
           have hb7 := hb5.trans (hv.mono hb5.size)
           have H7 := Lib.hid (blk hv H5.out hl5)
           have hl7 : w.heap.size < V1.heap.size := b6 H7.out
           clear hv hb5 H5 hl5 CI1
           go_wp2_with fail
           refine (CS1.out V1).mono ?_
           rintro e0 V2 ⟨rfl, hv⟩
           have hb8 := hb7.trans (hv.mono hb7.size)
           have H8 := Lib.hid (blk hv H7.out hl7)
           have hl8 : w.heap.size < V2.heap.size := b6 H8.out
           clear hv hb7 H7 hl7 CS1
           go_wp2_with fail
           refine (CI2.out V2).mono ?_
           rintro e0 V3 ⟨rfl, hv⟩
           have hb9 := hb8.trans (hv.mono hb8.size)
           have H9 := Lib.hid (blk hv H8.out hl8)
           have hl9 : w.heap.size < V3.heap.size := b6 H9.out
           clear hv hb8 H8 hl8 CI2
           go_wp2_with fail
           refine (CS2.out V3).mono ?_
           rintro e0 V4 ⟨rfl, hv⟩
           have hb10 := hb9.trans (hv.mono hb9.size)
           have H10 := Lib.hid (blk hv H9.out hl9)
           clear hv hb9 H9 hl9 CS2
           go_wp2
           go_roundw
           case rel => exact ⟨k + 1, by go_num, by omega, by rw [HT.out]; show Value.string (bs o ++ bs q1 ++ bs q2) = _; simp only [HB.out, List.append_assoc], H10.out, hb10⟩
           case measure => simp [intOf] <;> omega
          ·rw [if_neg (show ¬ k + 1 < e by have := HE.out; omega), if_neg (show ¬ k < e by have := HE.out; omega), List.append_nil, List.append_nil] at hT
           have HT := Lib.hid hT; clear hT
           clear CS2 CI2
           go_wp2_with fail
           refine (CI1.out wr).mono ?_
           rintro e0 V1 ⟨rfl, hv⟩
           have hb7 := hb5.trans (hv.mono hb5.size)
           have H7 := Lib.hid (blk hv H5.out hl5)
           have hl7 : w.heap.size < V1.heap.size := b6 H7.out
           clear hv hb5 H5 hl5 CI1
           go_wp2_with fail
           refine (CS1.out V1).mono ?_
           rintro e0 V2 ⟨rfl, hv⟩
           have hb8 := hb7.trans (hv.mono hb7.size)
           have H8 := Lib.hid (blk hv H7.out hl7)
           have hl8 : w.heap.size < V2.heap.size := b6 H8.out
           clear hv hb7 H7 hl7 CS1
           go_wp2
           go_roundw
           case rel => exact ⟨k + 1, by go_num, by omega, by rw [HT.out]; show Value.string (bs o ++ bs q1) = _; simp only [HB.out], H8.out, hb8⟩
           case measure => simp [intOf] <;> omega
    ·have hbit' : S.getLsbD k = false := by simpa using hbit
     rw [HO.out _ hk6 hbit'] at hc3
     go_wp2
     go_roundw
     case rel => exact ⟨k + 1, by go_num, by omega, by rw [ae7 hbit'], H3.out, hb3⟩
     case measure => simp [intOf] <;> omega
   ·have hk0 : k = 256 := by omega
    subst hk0
    have hol : (pre ++ d6 S 256).length ≤ 2 + 9 * 256 := by have := q7 S 256; rw [List.length_append]; omega
    have HB := Lib.hid d4
    generalize pre ++ d6 S 256 = o at hol HS ⊢
    have z1 : (bs o).size ≤ 2 + 9 * 256 := by rw [e9]; omega
    go_wp2
    go_ret
    exact ⟨by rw [HS.out, ← HB.out]; rfl, hb3⟩
 ·have HS := Lib.hid (HS0.out.trans (if_neg h128))
  clear HS0
  have hd128 : decide ((128 : Int) < (n : Int)) = false := decide_eq_false (by omega)
  clear h128
  go_wp2_with fail
  have h0 : (⟨#[91]⟩ : ByteArray) = bs [91] := rfl
  rw [h0]
  clear h0
  have hpre : ([91] : List UInt8).length ≤ 2 := by decide
  generalize ([91] : List UInt8) = pre at *
  obtain ⟨S, hSs⟩ : ∃ S, S = s := ⟨s, rfl⟩
  rw [show d6 s 256 = d6 S 256 by rw [hSs]] at HS
  have HI : Hid (∀ i, i < 256 → S.getLsbD i = true → s.getLsbD i = true) := Lib.hid fun i hi h => by rw [← hSs]; exact h
  have HO : Hid (∀ i, i < 256 → S.getLsbD i = false → s.getLsbD i = false) := Lib.hid fun i hi h => by rw [← hSs]; exact h
  clear hSs
  go_loopw [5, 7] (fun out i wr => ∃ k : Nat, i = .int .i64 k ∧ k ≤ 256 ∧ out = .string (bs (pre ++ d6 S k)) ∧ wr.heap[w.heap.size]? = some (.cells (x7 s.getLsbD) 100 (0, 0)) ∧ Below w.heap.size w wr)
   (fun _ i _ => 256 - (intOf i).toNat)
  case atStart => exact ⟨0, rfl, by omega, by simp [d6], H1.out, hb1⟩
  case round =>
   obtain ⟨k, rfl, hk, rfl, hblk0, hb3⟩ := hrel
   have H3 := Lib.hid hblk0; clear hblk0
   have hl3 : w.heap.size < wr.heap.size := b6 H3.out
   clear H1 hb1 hl1
   by_cases hk6 : k < 256
   ·have hc3 : wr.cell? ⟨w.heap.size, k, none⟩ = some (.bool (s.getLsbD k)) := (cell_of_row _ _ k _ _ _ H3.out).trans (aay _ k hk6)
    by_cases hbit : S.getLsbD k = true
    ·rw [HI.out _ hk6 hbit] at hc3
     by_cases hk0 : k = 0
     ·have hkd : k < 1 := by omega
      have hstart : (k == 0 || !S.getLsbD (k - 1)) = true := by rw [hk0]; rfl
      clear hk0
      go_wp2_with fail
      clear hkd
      (try (rename (k : Int) ≤ 0 => hk9; clear hk9))
      (try (rename ¬ (0 : Int) < (k : Int) => hk9; clear hk9))
      go_loopw [8] (fun i wr => ∃ j : Nat, i = .int .i64 j ∧ 1 ≤ j ∧ k + j ≤ 256 ∧ (∀ i, k < i → i < k + j → S.getLsbD i = true) ∧ wr.heap[w.heap.size]? = some (.cells (x7 s.getLsbD) 100 (0, 0)) ∧ Below w.heap.size w wr)
       (fun i _ => 256 - (intOf i).toNat)
      case atStart => exact ⟨1, rfl, by omega, by omega, fun i h1 h2 => by omega, H3.out, hb3⟩
      case round =>
       obtain ⟨j, rfl, hj1, hj2, hrun, hblk1, hb5⟩ := hrel
       have H5 := Lib.hid hblk1; clear hblk1
       clear H3 hb3 hl3
       have hl5 : w.heap.size < wr.heap.size := b6 H5.out
       by_cases hj6 : k + j < 256
       ·have hc5 : wr.cell? ⟨w.heap.size, k + j, none⟩ = some (.bool (s.getLsbD (k + j))) := (cell_of_row _ _ (k + j) _ _ _ H5.out).trans (aay _ (k + j) hj6)
        have hde : decide ((k : Int) + (j : Int) < 256) = true := decide_eq_true (by omega)
        by_cases hb2 : S.getLsbD (k + j) = true
        ·rw [HI.out _ hj6 hb2] at hc5
         go_wp2
         go_roundw
         case rel =>
          refine ⟨j + 1, by go_num, by omega, by omega, fun i h1 h2 => ?_, H5.out, hb5⟩
          by_cases hx : i = k + j
          ·rw [hx]; exact hb2
          ·exact hrun i h1 (by omega)
         case measure => simp [intOf] <;> omega
        ·have hb2' : S.getLsbD (k + j) = false := by simpa using hb2
         rw [HO.out _ hj6 hb2'] at hc5
         have hend : ∀ e, k + j = e + 1 → e < 255 → S.getLsbD (e + 1) = false := fun e he _ => by rw [← he]; exact hb2'
         clear hb2
         obtain ⟨e, he⟩ : ∃ e, k + j = e + 1 := ⟨k + j - 1, by omega⟩
         have hE : (k : Int) + j - 1 = (e : Int) := by omega
         have hre := y7 (s := S) (k := k) (e := e) (by omega) (by omega) (fun i h1 h2 => hrun i h1 (by omega)) (hend e he)
         have hT : pre ++ d6 S (k + 1) = pre ++ d6 S k ++ w5 k e := by rw [d6, abq, hre, hbit, hstart, Bool.true_and, if_pos rfl, List.append_assoc]
         have CI1 := Lib.hid (v4 k (by omega))
         have CS1 := Lib.hid (x6 k (by omega) inL)
         have hq1 := l8 k inL
         have CI2 := Lib.hid (v4 e (by omega))
         have CS2 := Lib.hid (x6 e (by omega) inL)
         have hq2 := l8 e inL
         have hol : (pre ++ d6 S k).length ≤ 2 + 9 * k := by have := q7 S k; rw [List.length_append]; omega
         have HE := Lib.hid he
         clear hend hre hrun hstart hbit HI HO he
         have HB := Lib.hid d4
         generalize pre ++ d6 S k = o at hol hT ⊢
         unfold w5 at hT
         generalize hq : m5 k inL = q1 at hq1 CS1 hT
         clear hq
         generalize hq : m5 e inL = q2 at hq2 CS2 hT
         clear hq
         generalize inL.contains k.toUInt8 = r1 at CI1 CS1
         generalize inL.contains e.toUInt8 = r2 at CI2 CS2
         have z1 : (bs o).size ≤ 2 + 9 * 256 := by rw [e9]; omega
         have z2 : (bs q1).size ≤ 4 := by rw [e9]; omega
         have z3 : (bs q2).size ≤ 4 := by rw [e9]; omega
         have z4 : (bs o ++ bs q1).size ≤ 2 + 9 * 256 + 4 := by rw [d4, e9, List.length_append]; omega
         clear hol hq1 hq2
         by_cases c1 : 2 < j
         ·rw [if_pos (show k + 1 < e by have := HE.out; omega), if_pos (show k < e by have := HE.out; omega)] at hT
          have HT := Lib.hid hT; clear hT
          have z5 : (bs o ++ bs q1 ++ (⟨#[45]⟩ : ByteArray)).size ≤ 2 + 9 * 256 + 5 := by rw [show (⟨#[45]⟩ : ByteArray) = bs [45] from rfl, d4, d4, e9]; rw [d4, e9] at z4; simp only [List.length_append, List.length_cons, List.length_nil] at z4 ⊢; omega
          go_wp2_with fail
          refine (CI1.out wr).mono ?_
          rintro e0 V1 ⟨rfl, hv⟩
          have hb7 := hb5.trans (hv.mono hb5.size)
          have H7 := Lib.hid (blk hv H5.out hl5)
          have hl7 : w.heap.size < V1.heap.size := b6 H7.out
          clear hv hb5 H5 hl5 CI1
          go_wp2_with fail
          refine (CS1.out V1).mono ?_
          rintro e0 V2 ⟨rfl, hv⟩
          have hb8 := hb7.trans (hv.mono hb7.size)
          have H8 := Lib.hid (blk hv H7.out hl7)
          have hl8 : w.heap.size < V2.heap.size := b6 H8.out
          clear hv hb7 H7 hl7 CS1
          go_wp2_with fail
          refine (CI2.out V2).mono ?_
          rintro e0 V3 ⟨rfl, hv⟩
          have hb9 := hb8.trans (hv.mono hb8.size)
          have H9 := Lib.hid (blk hv H8.out hl8)
          have hl9 : w.heap.size < V3.heap.size := b6 H9.out
          clear hv hb8 H8 hl8 CI2
          go_wp2_with fail
          refine (CS2.out V3).mono ?_
          rintro e0 V4 ⟨rfl, hv⟩
          have hb10 := hb9.trans (hv.mono hb9.size)
          have H10 := Lib.hid (blk hv H9.out hl9)
          clear hv hb9 H9 hl9 CS2
          go_wp2
          go_roundw
          case rel => exact ⟨k + 1, by go_num, by omega, by rw [HT.out]; show Value.string (bs o ++ bs q1 ++ bs [45] ++ bs q2) = _; simp only [HB.out, List.append_assoc], H10.out, hb10⟩
          case measure => simp [intOf] <;> omega
         ·by_cases c2 : 1 < j
          ·rw [if_neg (show ¬ k + 1 < e by have := HE.out; omega), if_pos (show k < e by have := HE.out; omega), List.append_nil] at hT
           have HT := Lib.hid hT; clear hT
           go_wp2_with fail
           refine (CI1.out wr).mono ?_
           rintro e0 V1 ⟨rfl, hv⟩
           have hb7 := hb5.trans (hv.mono hb5.size)
           have H7 := Lib.hid (blk hv H5.out hl5)
           have hl7 : w.heap.size < V1.heap.size := b6 H7.out
           clear hv hb5 H5 hl5 CI1
           go_wp2_with fail
           refine (CS1.out V1).mono ?_
           rintro e0 V2 ⟨rfl, hv⟩
           have hb8 := hb7.trans (hv.mono hb7.size)
           have H8 := Lib.hid (blk hv H7.out hl7)
           have hl8 : w.heap.size < V2.heap.size := b6 H8.out
           clear hv hb7 H7 hl7 CS1
           go_wp2_with fail
           refine (CI2.out V2).mono ?_
           rintro e0 V3 ⟨rfl, hv⟩
           have hb9 := hb8.trans (hv.mono hb8.size)
           have H9 := Lib.hid (blk hv H8.out hl8)
           have hl9 : w.heap.size < V3.heap.size := b6 H9.out
           clear hv hb8 H8 hl8 CI2
           go_wp2_with fail
           refine (CS2.out V3).mono ?_
           rintro e0 V4 ⟨rfl, hv⟩
           have hb10 := hb9.trans (hv.mono hb9.size)
           have H10 := Lib.hid (blk hv H9.out hl9)
           clear hv hb9 H9 hl9 CS2
           go_wp2
           go_roundw
           case rel => exact ⟨k + 1, by go_num, by omega, by rw [HT.out]; show Value.string (bs o ++ bs q1 ++ bs q2) = _; simp only [HB.out, List.append_assoc], H10.out, hb10⟩
           case measure => simp [intOf] <;> omega
          ·rw [if_neg (show ¬ k + 1 < e by have := HE.out; omega), if_neg (show ¬ k < e by have := HE.out; omega), List.append_nil, List.append_nil] at hT
           have HT := Lib.hid hT; clear hT
           clear CS2 CI2
           go_wp2_with fail
           refine (CI1.out wr).mono ?_
           rintro e0 V1 ⟨rfl, hv⟩
           have hb7 := hb5.trans (hv.mono hb5.size)
           have H7 := Lib.hid (blk hv H5.out hl5)
           have hl7 : w.heap.size < V1.heap.size := b6 H7.out
           clear hv hb5 H5 hl5 CI1
           go_wp2_with fail
           refine (CS1.out V1).mono ?_
           rintro e0 V2 ⟨rfl, hv⟩
           have hb8 := hb7.trans (hv.mono hb7.size)
           have H8 := Lib.hid (blk hv H7.out hl7)
           have hl8 : w.heap.size < V2.heap.size := b6 H8.out
           clear hv hb7 H7 hl7 CS1
           go_wp2
           go_roundw
           case rel => exact ⟨k + 1, by go_num, by omega, by rw [HT.out]; show Value.string (bs o ++ bs q1) = _; simp only [HB.out], H8.out, hb8⟩
           case measure => simp [intOf] <;> omega
       ·have hend : ∀ e, k + j = e + 1 → e < 255 → S.getLsbD (e + 1) = false := fun e he h => by omega
        have hde : decide ((k : Int) + (j : Int) < 256) = false := decide_eq_false (by omega)
        clear hj6
        obtain ⟨e, he⟩ : ∃ e, k + j = e + 1 := ⟨k + j - 1, by omega⟩
        have hE : (k : Int) + j - 1 = (e : Int) := by omega
        have hre := y7 (s := S) (k := k) (e := e) (by omega) (by omega) (fun i h1 h2 => hrun i h1 (by omega)) (hend e he)
        have hT : pre ++ d6 S (k + 1) = pre ++ d6 S k ++ w5 k e := by rw [d6, abq, hre, hbit, hstart, Bool.true_and, if_pos rfl, List.append_assoc]
        have CI1 := Lib.hid (v4 k (by omega))
        have CS1 := Lib.hid (x6 k (by omega) inL)
        have hq1 := l8 k inL
        have CI2 := Lib.hid (v4 e (by omega))
        have CS2 := Lib.hid (x6 e (by omega) inL)
        have hq2 := l8 e inL
        have hol : (pre ++ d6 S k).length ≤ 2 + 9 * k := by have := q7 S k; rw [List.length_append]; omega
        have HE := Lib.hid he
        clear hend hre hrun hstart hbit HI HO he
        have HB := Lib.hid d4
        generalize pre ++ d6 S k = o at hol hT ⊢
        unfold w5 at hT
        generalize hq : m5 k inL = q1 at hq1 CS1 hT
        clear hq
        generalize hq : m5 e inL = q2 at hq2 CS2 hT
        clear hq
        generalize inL.contains k.toUInt8 = r1 at CI1 CS1
        generalize inL.contains e.toUInt8 = r2 at CI2 CS2
        have z1 : (bs o).size ≤ 2 + 9 * 256 := by rw [e9]; omega
        have z2 : (bs q1).size ≤ 4 := by rw [e9]; omega
        have z3 : (bs q2).size ≤ 4 := by rw [e9]; omega
        have z4 : (bs o ++ bs q1).size ≤ 2 + 9 * 256 + 4 := by rw [d4, e9, List.length_append]; omega
        clear hol hq1 hq2
        by_cases c1 : 2 < j
        ·rw [if_pos (show k + 1 < e by have := HE.out; omega), if_pos (show k < e by have := HE.out; omega)] at hT
         have HT := Lib.hid hT; clear hT
         have z5 : (bs o ++ bs q1 ++ (⟨#[45]⟩ : ByteArray)).size ≤ 2 + 9 * 256 + 5 := by rw [show (⟨#[45]⟩ : ByteArray) = bs [45] from rfl, d4, d4, e9]; rw [d4, e9] at z4; simp only [List.length_append, List.length_cons, List.length_nil] at z4 ⊢; omega
         go_wp2_with fail
         refine (CI1.out wr).mono ?_
         rintro e0 V1 ⟨rfl, hv⟩
         have hb7 := hb5.trans (hv.mono hb5.size)
         have H7 := Lib.hid (blk hv H5.out hl5)
         have hl7 : w.heap.size < V1.heap.size := b6 H7.out
         clear hv hb5 H5 hl5 CI1
         go_wp2_with fail
         refine (CS1.out V1).mono ?_
         rintro e0 V2 ⟨rfl, hv⟩
         have hb8 := hb7.trans (hv.mono hb7.size)
         have H8 := Lib.hid (blk hv H7.out hl7)
         have hl8 : w.heap.size < V2.heap.size := b6 H8.out
         clear hv hb7 H7 hl7 CS1
         go_wp2_with fail
         refine (CI2.out V2).mono ?_
         rintro e0 V3 ⟨rfl, hv⟩
         have hb9 := hb8.trans (hv.mono hb8.size)
         have H9 := Lib.hid (blk hv H8.out hl8)
         have hl9 : w.heap.size < V3.heap.size := b6 H9.out
         clear hv hb8 H8 hl8 CI2
         go_wp2_with fail
         refine (CS2.out V3).mono ?_
         rintro e0 V4 ⟨rfl, hv⟩
         have hb10 := hb9.trans (hv.mono hb9.size)
         have H10 := Lib.hid (blk hv H9.out hl9)
         clear hv hb9 H9 hl9 CS2
         go_wp2
         go_roundw
         case rel => exact ⟨k + 1, by go_num, by omega, by rw [HT.out]; show Value.string (bs o ++ bs q1 ++ bs [45] ++ bs q2) = _; simp only [HB.out, List.append_assoc], H10.out, hb10⟩
         case measure => simp [intOf] <;> omega
        ·by_cases c2 : 1 < j
         ·rw [if_neg (show ¬ k + 1 < e by have := HE.out; omega), if_pos (show k < e by have := HE.out; omega), List.append_nil] at hT
          have HT := Lib.hid hT; clear hT
          go_wp2_with fail
          refine (CI1.out wr).mono ?_
          rintro e0 V1 ⟨rfl, hv⟩
          have hb7 := hb5.trans (hv.mono hb5.size)
          have H7 := Lib.hid (blk hv H5.out hl5)
          have hl7 : w.heap.size < V1.heap.size := b6 H7.out
          clear hv hb5 H5 hl5 CI1
          go_wp2_with fail
          refine (CS1.out V1).mono ?_
          rintro e0 V2 ⟨rfl, hv⟩
          have hb8 := hb7.trans (hv.mono hb7.size)
          have H8 := Lib.hid (blk hv H7.out hl7)
          have hl8 : w.heap.size < V2.heap.size := b6 H8.out
          clear hv hb7 H7 hl7 CS1
          go_wp2_with fail
          refine (CI2.out V2).mono ?_
          rintro e0 V3 ⟨rfl, hv⟩
          have hb9 := hb8.trans (hv.mono hb8.size)
          have H9 := Lib.hid (blk hv H8.out hl8)
          have hl9 : w.heap.size < V3.heap.size := b6 H9.out
          clear hv hb8 H8 hl8 CI2
          go_wp2_with fail
          refine (CS2.out V3).mono ?_
          rintro e0 V4 ⟨rfl, hv⟩
          have hb10 := hb9.trans (hv.mono hb9.size)
          have H10 := Lib.hid (blk hv H9.out hl9)
          clear hv hb9 H9 hl9 CS2
          go_wp2
          go_roundw
          case rel => exact ⟨k + 1, by go_num, by omega, by rw [HT.out]; show Value.string (bs o ++ bs q1 ++ bs q2) = _; simp only [HB.out, List.append_assoc], H10.out, hb10⟩
          case measure => simp [intOf] <;> omega
         ·rw [if_neg (show ¬ k + 1 < e by have := HE.out; omega), if_neg (show ¬ k < e by have := HE.out; omega), List.append_nil, List.append_nil] at hT
          have HT := Lib.hid hT; clear hT
          clear CS2 CI2
          go_wp2_with fail
          refine (CI1.out wr).mono ?_
          rintro e0 V1 ⟨rfl, hv⟩
          have hb7 := hb5.trans (hv.mono hb5.size)
          have H7 := Lib.hid (blk hv H5.out hl5)
          have hl7 : w.heap.size < V1.heap.size := b6 H7.out
          clear hv hb5 H5 hl5 CI1
          go_wp2_with fail
          refine (CS1.out V1).mono ?_
          rintro e0 V2 ⟨rfl, hv⟩
          have hb8 := hb7.trans (hv.mono hb7.size)
          have H8 := Lib.hid (blk hv H7.out hl7)
          have hl8 : w.heap.size < V2.heap.size := b6 H8.out
          clear hv hb7 H7 hl7 CS1
          go_wp2
          go_roundw
          case rel => exact ⟨k + 1, by go_num, by omega, by rw [HT.out]; show Value.string (bs o ++ bs q1) = _; simp only [HB.out], H8.out, hb8⟩
          case measure => simp [intOf] <;> omega
     ·have hc4 : wr.cell? ⟨w.heap.size, k - 1, none⟩ = some (.bool (s.getLsbD (k - 1))) := (cell_of_row _ _ (k - 1) _ _ _ H3.out).trans (aay _ (k - 1) (by omega))
      have hkd : decide ((0 : Int) < (k : Int)) = true := decide_eq_true (by omega)
      by_cases hprev : S.getLsbD (k - 1) = true
      ·rw [HI.out _ (by omega) hprev] at hc4
       have hT : d6 S (k + 1) = d6 S k := by
        have hz : (k == 0) = false := by simpa using hk0
        rw [d6, abq, hbit, hprev, hz]; simp
       go_wp2
       go_roundw
       case rel => exact ⟨k + 1, by go_num, by omega, by rw [hT], H3.out, hb3⟩
       case measure => simp [intOf] <;> omega
      ·have hprev' : S.getLsbD (k - 1) = false := by simpa using hprev
       rw [HO.out _ (by omega) hprev'] at hc4
       have hstart : (k == 0 || !S.getLsbD (k - 1)) = true := by rw [hprev']; simp
       clear hprev hprev'
       go_wp2_with fail
       go_loopw [8] (fun i wr => ∃ j : Nat, i = .int .i64 j ∧ 1 ≤ j ∧ k + j ≤ 256 ∧ (∀ i, k < i → i < k + j → S.getLsbD i = true) ∧ wr.heap[w.heap.size]? = some (.cells (x7 s.getLsbD) 100 (0, 0)) ∧ Below w.heap.size w wr)
        (fun i _ => 256 - (intOf i).toNat)
       case atStart => exact ⟨1, rfl, by omega, by omega, fun i h1 h2 => by omega, H3.out, hb3⟩
       case round =>
        obtain ⟨j, rfl, hj1, hj2, hrun, hblk1, hb5⟩ := hrel
        have H5 := Lib.hid hblk1; clear hblk1
        clear H3 hb3 hl3
        have hl5 : w.heap.size < wr.heap.size := b6 H5.out
        by_cases hj6 : k + j < 256
        ·have hc5 : wr.cell? ⟨w.heap.size, k + j, none⟩ = some (.bool (s.getLsbD (k + j))) := (cell_of_row _ _ (k + j) _ _ _ H5.out).trans (aay _ (k + j) hj6)
         have hde : decide ((k : Int) + (j : Int) < 256) = true := decide_eq_true (by omega)
         by_cases hb2 : S.getLsbD (k + j) = true
         ·rw [HI.out _ hj6 hb2] at hc5
          go_wp2
          go_roundw
          case rel =>
           refine ⟨j + 1, by go_num, by omega, by omega, fun i h1 h2 => ?_, H5.out, hb5⟩
           by_cases hx : i = k + j
           ·rw [hx]; exact hb2
           ·exact hrun i h1 (by omega)
          case measure => simp [intOf] <;> omega
         ·have hb2' : S.getLsbD (k + j) = false := by simpa using hb2
          rw [HO.out _ hj6 hb2'] at hc5
          have hend : ∀ e, k + j = e + 1 → e < 255 → S.getLsbD (e + 1) = false := fun e he _ => by rw [← he]; exact hb2'
          clear hb2
          obtain ⟨e, he⟩ : ∃ e, k + j = e + 1 := ⟨k + j - 1, by omega⟩
          have hE : (k : Int) + j - 1 = (e : Int) := by omega
          have hre := y7 (s := S) (k := k) (e := e) (by omega) (by omega) (fun i h1 h2 => hrun i h1 (by omega)) (hend e he)
          have hT : pre ++ d6 S (k + 1) = pre ++ d6 S k ++ w5 k e := by rw [d6, abq, hre, hbit, hstart, Bool.true_and, if_pos rfl, List.append_assoc]
          have CI1 := Lib.hid (v4 k (by omega))
          have CS1 := Lib.hid (x6 k (by omega) inL)
          have hq1 := l8 k inL
          have CI2 := Lib.hid (v4 e (by omega))
          have CS2 := Lib.hid (x6 e (by omega) inL)
          have hq2 := l8 e inL
          have hol : (pre ++ d6 S k).length ≤ 2 + 9 * k := by have := q7 S k; rw [List.length_append]; omega
          have HE := Lib.hid he
          clear hend hre hrun hstart hbit HI HO he
          have HB := Lib.hid d4
          generalize pre ++ d6 S k = o at hol hT ⊢
          unfold w5 at hT
          generalize hq : m5 k inL = q1 at hq1 CS1 hT
          clear hq
          generalize hq : m5 e inL = q2 at hq2 CS2 hT
          clear hq
          generalize inL.contains k.toUInt8 = r1 at CI1 CS1
          generalize inL.contains e.toUInt8 = r2 at CI2 CS2
          have z1 : (bs o).size ≤ 2 + 9 * 256 := by rw [e9]; omega
          have z2 : (bs q1).size ≤ 4 := by rw [e9]; omega
          have z3 : (bs q2).size ≤ 4 := by rw [e9]; omega
          have z4 : (bs o ++ bs q1).size ≤ 2 + 9 * 256 + 4 := by rw [d4, e9, List.length_append]; omega
          clear hol hq1 hq2
          by_cases c1 : 2 < j
          ·rw [if_pos (show k + 1 < e by have := HE.out; omega), if_pos (show k < e by have := HE.out; omega)] at hT
           have HT := Lib.hid hT; clear hT
           have z5 : (bs o ++ bs q1 ++ (⟨#[45]⟩ : ByteArray)).size ≤ 2 + 9 * 256 + 5 := by rw [show (⟨#[45]⟩ : ByteArray) = bs [45] from rfl, d4, d4, e9]; rw [d4, e9] at z4; simp only [List.length_append, List.length_cons, List.length_nil] at z4 ⊢; omega
           go_wp2_with fail
           refine (CI1.out wr).mono ?_
           rintro e0 V1 ⟨rfl, hv⟩
           have hb7 := hb5.trans (hv.mono hb5.size)
           have H7 := Lib.hid (blk hv H5.out hl5)
           have hl7 : w.heap.size < V1.heap.size := b6 H7.out
           clear hv hb5 H5 hl5 CI1
           go_wp2_with fail
           refine (CS1.out V1).mono ?_
           rintro e0 V2 ⟨rfl, hv⟩
           have hb8 := hb7.trans (hv.mono hb7.size)
           have H8 := Lib.hid (blk hv H7.out hl7)
           have hl8 : w.heap.size < V2.heap.size := b6 H8.out
           clear hv hb7 H7 hl7 CS1
           go_wp2_with fail
           refine (CI2.out V2).mono ?_
           rintro e0 V3 ⟨rfl, hv⟩
           have hb9 := hb8.trans (hv.mono hb8.size)
           have H9 := Lib.hid (blk hv H8.out hl8)
           have hl9 : w.heap.size < V3.heap.size := b6 H9.out
           clear hv hb8 H8 hl8 CI2
           go_wp2_with fail
           refine (CS2.out V3).mono ?_
           rintro e0 V4 ⟨rfl, hv⟩
           have hb10 := hb9.trans (hv.mono hb9.size)
           have H10 := Lib.hid (blk hv H9.out hl9)
           clear hv hb9 H9 hl9 CS2
           go_wp2
           go_roundw
           case rel => exact ⟨k + 1, by go_num, by omega, by rw [HT.out]; show Value.string (bs o ++ bs q1 ++ bs [45] ++ bs q2) = _; simp only [HB.out, List.append_assoc], H10.out, hb10⟩
           case measure => simp [intOf] <;> omega
          ·by_cases c2 : 1 < j
           ·rw [if_neg (show ¬ k + 1 < e by have := HE.out; omega), if_pos (show k < e by have := HE.out; omega), List.append_nil] at hT
            have HT := Lib.hid hT; clear hT
            go_wp2_with fail
            refine (CI1.out wr).mono ?_
            rintro e0 V1 ⟨rfl, hv⟩
            have hb7 := hb5.trans (hv.mono hb5.size)
            have H7 := Lib.hid (blk hv H5.out hl5)
            have hl7 : w.heap.size < V1.heap.size := b6 H7.out
            clear hv hb5 H5 hl5 CI1
            go_wp2_with fail
            refine (CS1.out V1).mono ?_
            rintro e0 V2 ⟨rfl, hv⟩
            have hb8 := hb7.trans (hv.mono hb7.size)
            have H8 := Lib.hid (blk hv H7.out hl7)
            have hl8 : w.heap.size < V2.heap.size := b6 H8.out
            clear hv hb7 H7 hl7 CS1
            go_wp2_with fail
            refine (CI2.out V2).mono ?_
            rintro e0 V3 ⟨rfl, hv⟩
            have hb9 := hb8.trans (hv.mono hb8.size)
            have H9 := Lib.hid (blk hv H8.out hl8)
            have hl9 : w.heap.size < V3.heap.size := b6 H9.out
            clear hv hb8 H8 hl8 CI2
            go_wp2_with fail
            refine (CS2.out V3).mono ?_
            rintro e0 V4 ⟨rfl, hv⟩
            have hb10 := hb9.trans (hv.mono hb9.size)
            have H10 := Lib.hid (blk hv H9.out hl9)
            clear hv hb9 H9 hl9 CS2
            go_wp2
            go_roundw
            case rel => exact ⟨k + 1, by go_num, by omega, by rw [HT.out]; show Value.string (bs o ++ bs q1 ++ bs q2) = _; simp only [HB.out, List.append_assoc], H10.out, hb10⟩
            case measure => simp [intOf] <;> omega
           ·rw [if_neg (show ¬ k + 1 < e by have := HE.out; omega), if_neg (show ¬ k < e by have := HE.out; omega), List.append_nil, List.append_nil] at hT
            have HT := Lib.hid hT; clear hT
            clear CS2 CI2
            go_wp2_with fail
            refine (CI1.out wr).mono ?_
            rintro e0 V1 ⟨rfl, hv⟩
            have hb7 := hb5.trans (hv.mono hb5.size)
            have H7 := Lib.hid (blk hv H5.out hl5)
            have hl7 : w.heap.size < V1.heap.size := b6 H7.out
            clear hv hb5 H5 hl5 CI1
            go_wp2_with fail
            refine (CS1.out V1).mono ?_
            rintro e0 V2 ⟨rfl, hv⟩
            have hb8 := hb7.trans (hv.mono hb7.size)
            have H8 := Lib.hid (blk hv H7.out hl7)
            have hl8 : w.heap.size < V2.heap.size := b6 H8.out
            clear hv hb7 H7 hl7 CS1
            go_wp2
            go_roundw
            case rel => exact ⟨k + 1, by go_num, by omega, by rw [HT.out]; show Value.string (bs o ++ bs q1) = _; simp only [HB.out], H8.out, hb8⟩
            case measure => simp [intOf] <;> omega
        ·have hend : ∀ e, k + j = e + 1 → e < 255 → S.getLsbD (e + 1) = false := fun e he h => by omega
         have hde : decide ((k : Int) + (j : Int) < 256) = false := decide_eq_false (by omega)
         clear hj6
         obtain ⟨e, he⟩ : ∃ e, k + j = e + 1 := ⟨k + j - 1, by omega⟩
         have hE : (k : Int) + j - 1 = (e : Int) := by omega
         have hre := y7 (s := S) (k := k) (e := e) (by omega) (by omega) (fun i h1 h2 => hrun i h1 (by omega)) (hend e he)
         have hT : pre ++ d6 S (k + 1) = pre ++ d6 S k ++ w5 k e := by rw [d6, abq, hre, hbit, hstart, Bool.true_and, if_pos rfl, List.append_assoc]
         have CI1 := Lib.hid (v4 k (by omega))
         have CS1 := Lib.hid (x6 k (by omega) inL)
         have hq1 := l8 k inL
         have CI2 := Lib.hid (v4 e (by omega))
         have CS2 := Lib.hid (x6 e (by omega) inL)
         have hq2 := l8 e inL
         have hol : (pre ++ d6 S k).length ≤ 2 + 9 * k := by have := q7 S k; rw [List.length_append]; omega
         have HE := Lib.hid he
         clear hend hre hrun hstart hbit HI HO he
         have HB := Lib.hid d4
         generalize pre ++ d6 S k = o at hol hT ⊢
         unfold w5 at hT
         generalize hq : m5 k inL = q1 at hq1 CS1 hT
         clear hq
         generalize hq : m5 e inL = q2 at hq2 CS2 hT
         clear hq
         generalize inL.contains k.toUInt8 = r1 at CI1 CS1
         generalize inL.contains e.toUInt8 = r2 at CI2 CS2
         have z1 : (bs o).size ≤ 2 + 9 * 256 := by rw [e9]; omega
         have z2 : (bs q1).size ≤ 4 := by rw [e9]; omega
         have z3 : (bs q2).size ≤ 4 := by rw [e9]; omega
         have z4 : (bs o ++ bs q1).size ≤ 2 + 9 * 256 + 4 := by rw [d4, e9, List.length_append]; omega
         clear hol hq1 hq2
         by_cases c1 : 2 < j
         ·rw [if_pos (show k + 1 < e by have := HE.out; omega), if_pos (show k < e by have := HE.out; omega)] at hT
          have HT := Lib.hid hT; clear hT
          have z5 : (bs o ++ bs q1 ++ (⟨#[45]⟩ : ByteArray)).size ≤ 2 + 9 * 256 + 5 := by rw [show (⟨#[45]⟩ : ByteArray) = bs [45] from rfl, d4, d4, e9]; rw [d4, e9] at z4; simp only [List.length_append, List.length_cons, List.length_nil] at z4 ⊢; omega
          go_wp2_with fail
          refine (CI1.out wr).mono ?_
          rintro e0 V1 ⟨rfl, hv⟩
          have hb7 := hb5.trans (hv.mono hb5.size)
          have H7 := Lib.hid (blk hv H5.out hl5)
          have hl7 : w.heap.size < V1.heap.size := b6 H7.out
          clear hv hb5 H5 hl5 CI1
          go_wp2_with fail
          refine (CS1.out V1).mono ?_
          rintro e0 V2 ⟨rfl, hv⟩
          have hb8 := hb7.trans (hv.mono hb7.size)
          have H8 := Lib.hid (blk hv H7.out hl7)
          have hl8 : w.heap.size < V2.heap.size := b6 H8.out
          clear hv hb7 H7 hl7 CS1
          go_wp2_with fail
          refine (CI2.out V2).mono ?_
          rintro e0 V3 ⟨rfl, hv⟩
          have hb9 := hb8.trans (hv.mono hb8.size)
          have H9 := Lib.hid (blk hv H8.out hl8)
          have hl9 : w.heap.size < V3.heap.size := b6 H9.out
          clear hv hb8 H8 hl8 CI2
          go_wp2_with fail
          refine (CS2.out V3).mono ?_
          rintro e0 V4 ⟨rfl, hv⟩
          have hb10 := hb9.trans (hv.mono hb9.size)
          have H10 := Lib.hid (blk hv H9.out hl9)
          clear hv hb9 H9 hl9 CS2
          go_wp2
          go_roundw
          case rel => exact ⟨k + 1, by go_num, by omega, by rw [HT.out]; show Value.string (bs o ++ bs q1 ++ bs [45] ++ bs q2) = _; simp only [HB.out, List.append_assoc], H10.out, hb10⟩
          case measure => simp [intOf] <;> omega
         ·by_cases c2 : 1 < j
          ·rw [if_neg (show ¬ k + 1 < e by have := HE.out; omega), if_pos (show k < e by have := HE.out; omega), List.append_nil] at hT
           have HT := Lib.hid hT; clear hT
           go_wp2_with fail
           refine (CI1.out wr).mono ?_
           rintro e0 V1 ⟨rfl, hv⟩
           have hb7 := hb5.trans (hv.mono hb5.size)
           have H7 := Lib.hid (blk hv H5.out hl5)
           have hl7 : w.heap.size < V1.heap.size := b6 H7.out
           clear hv hb5 H5 hl5 CI1
           go_wp2_with fail
           refine (CS1.out V1).mono ?_
           rintro e0 V2 ⟨rfl, hv⟩
           have hb8 := hb7.trans (hv.mono hb7.size)
           have H8 := Lib.hid (blk hv H7.out hl7)
           have hl8 : w.heap.size < V2.heap.size := b6 H8.out
           clear hv hb7 H7 hl7 CS1
           go_wp2_with fail
           refine (CI2.out V2).mono ?_
           rintro e0 V3 ⟨rfl, hv⟩
           have hb9 := hb8.trans (hv.mono hb8.size)
           have H9 := Lib.hid (blk hv H8.out hl8)
           have hl9 : w.heap.size < V3.heap.size := b6 H9.out
           clear hv hb8 H8 hl8 CI2
           go_wp2_with fail
           refine (CS2.out V3).mono ?_
           rintro e0 V4 ⟨rfl, hv⟩
           have hb10 := hb9.trans (hv.mono hb9.size)
           have H10 := Lib.hid (blk hv H9.out hl9)
           clear hv hb9 H9 hl9 CS2
           go_wp2
           go_roundw
           case rel => exact ⟨k + 1, by go_num, by omega, by rw [HT.out]; show Value.string (bs o ++ bs q1 ++ bs q2) = _; simp only [HB.out, List.append_assoc], H10.out, hb10⟩
           case measure => simp [intOf] <;> omega
          ·rw [if_neg (show ¬ k + 1 < e by have := HE.out; omega), if_neg (show ¬ k < e by have := HE.out; omega), List.append_nil, List.append_nil] at hT
           have HT := Lib.hid hT; clear hT
           clear CS2 CI2
           go_wp2_with fail
           refine (CI1.out wr).mono ?_
           rintro e0 V1 ⟨rfl, hv⟩
           have hb7 := hb5.trans (hv.mono hb5.size)
           have H7 := Lib.hid (blk hv H5.out hl5)
           have hl7 : w.heap.size < V1.heap.size := b6 H7.out
           clear hv hb5 H5 hl5 CI1
           go_wp2_with fail
           refine (CS1.out V1).mono ?_
           rintro e0 V2 ⟨rfl, hv⟩
           have hb8 := hb7.trans (hv.mono hb7.size)
           have H8 := Lib.hid (blk hv H7.out hl7)
           have hl8 : w.heap.size < V2.heap.size := b6 H8.out
           clear hv hb7 H7 hl7 CS1
           go_wp2
           go_roundw
           case rel => exact ⟨k + 1, by go_num, by omega, by rw [HT.out]; show Value.string (bs o ++ bs q1) = _; simp only [HB.out], H8.out, hb8⟩
           case measure => simp [intOf] <;> omega
    ·have hbit' : S.getLsbD k = false := by simpa using hbit
     rw [HO.out _ hk6 hbit'] at hc3
     go_wp2
     go_roundw
     case rel => exact ⟨k + 1, by go_num, by omega, by rw [ae7 hbit'], H3.out, hb3⟩
     case measure => simp [intOf] <;> omega
   ·have hk0 : k = 256 := by omega
    subst hk0
    have hol : (pre ++ d6 S 256).length ≤ 2 + 9 * 256 := by have := q7 S 256; rw [List.length_append]; omega
    have HB := Lib.hid d4
    generalize pre ++ d6 S 256 = o at hol HS ⊢
    have z1 : (bs o).size ≤ 2 + 9 * 256 := by rw [e9]; omega
    go_wp2
    go_ret
    exact ⟨by rw [HS.out, ← HB.out]; rfl, hb3⟩
set_option maxRecDepth 100000 in
theorem axl (s : CS) : aek Tryd.prog 87 #[.agg (x7 s.getLsbD)] (.string (bs (x8 s))) := by
 by_cases h : u7 s = 1
 ·exact aoo s h
 ·exact al9 s h
end Go.Proofs.YtohnchdnkbadaaaDoor
namespace Go.Proofs.YtohnchdnkbadaaaDoor
open Go Go.RowKit
set_option maxRecDepth 100000 in
theorem au9 (s : CS) : (x8 s).length ≤ 4096 := by
 unfold x8
 have h1 := l8 ((aa4 s 0).getD 0) spL
 have h2 := q7 s 256
 have h3 := q7 (~~~ s) 256
 split
 ·omega
 ·split <;> simp <;> omega
end Go.Proofs.YtohnchdnkbadaaaDoor
namespace Go.Proofs.YtohnchdnkbadaaaDoor
open Go Go.RowKit
set_option maxRecDepth 100000 in
theorem at4 (s : CS) : aht 86 #[.agg (o3 s)] (.string (bs (x8 s))) := by
 by_cases h : u7 s = 1
 ·exact awb s h
 ·exact avu s h
end Go.Proofs.YtohnchdnkbadaaaDoor
