/-
  Merged: Show, RefA, ClassD, RdV, RdM, RdV2, RdV3, Gwd.
-/
import Derived.Test.YtohnchdnkbadaaaDoorChecked
import Derived.Recover
import Derived.Test.YtohnchdnkbadaaaDoorPs1
namespace Go.Proofs.YtohnchdnkbadaaaDoor
open Go Go.RowKit
set_option maxRecDepth 100000 in
theorem abk {ops : Array Oper} {rest : List Oper} {a : Act} {w : World} {Q : Exit → Act → World → Prop} {d : Tmp} {ty t1 : TypeId} {x : Operand} {p1 : String} {e1 : Array Edge} {gd : Option (Nat × Bool)}
  (g : Nat) (t : TypeId) {cs : Array Value} {fr : Nat × Nat} (hg : w.heap[g]? = some (.cells cs t fr)) (ht : RowT Tryd.prog ty cs.size)
  (hw : Region.wanted ⟨some d, .load ty x, t1, p1, e1, gd⟩ (yielded ops a.tmps) = true)
  (hx : a.eval x = .pointer (some ⟨g, 0, none⟩)) (h : wpList Tryd.prog ops Q rest (a.put (some d) (.agg cs)) w) :
  wpList Tryd.prog ops Q (⟨some d, .load ty x, t1, p1, e1, gd⟩ :: rest) a w := by
 simp only [wpList, hw, if_true]
 left
 rcases ht.desc with ⟨fs, hu⟩ | ⟨n, e, hu⟩
 ·exact wp_load_row ty x rfl g hx t cs fr _ hg hu rfl ht.size h
 ·exact wp_load_row ty x rfl g hx t cs fr _ hg hu rfl ht.size h
def spB : ByteArray := ⟨#[40, 41, 91, 93, 123, 125, 124, 38, 45, 42, 43, 63, 46, 92, 47, 94]⟩
def inB : ByteArray := ⟨#[92, 93, 91, 45, 94, 47]⟩
def spL : List UInt8 := [40, 41, 91, 93, 123, 125, 124, 38, 45, 42, 43, 63, 46, 92, 47, 94]
def inL : List UInt8 := [92, 93, 91, 45, 94, 47]
set_option maxRecDepth 100000 in
theorem n8 (b : Nat) (l : List UInt8) : (m6 b l).length ≤ 4 := by
 unfold m6
 cases am2 b with
 | some c => simp
 | none =>
  simp only
  by_cases h : b < 32 ∨ 126 < b
  ·rw [if_pos h]; simp
  ·rw [if_neg h]; cases l.contains b.toUInt8 <;> simp
def aau (s : CS) : Nat → Nat → Nat
 | 0, e => e
 | n + 1, e => if e < 255 ∧ s.getLsbD (e + 1) = true then aau s n (e + 1) else e
def afu (s : CS) (b : Nat) : Nat := aau s 256 b
set_option maxRecDepth 100000 in
theorem afh (s : CS) : ∀ (n e : Nat), e ≤ 255 → 255 ≤ e + n → e ≤ aau s n e ∧ aau s n e ≤ 255 ∧ (∀ i, e < i → i ≤ aau s n e → s.getLsbD i = true) ∧ (aau s n e < 255 → s.getLsbD (aau s n e + 1) = false)
 | 0, e, h, hn => ⟨Nat.le_refl _, h, fun i h1 h2 => by simp only [aau] at h2; omega, fun h1 => by simp only [aau] at h1; omega⟩
 | n + 1, e, h, hn => by
  simp only [aau]
  by_cases hc : e < 255 ∧ s.getLsbD (e + 1) = true
  ·rw [if_pos hc]
   obtain ⟨h1, h2, h3, h4⟩ := afh s n (e + 1) (by omega) (by omega)
   refine ⟨by omega, h2, fun i hi1 hi2 => ?_, h4⟩
   by_cases he : i = e + 1
   ·subst he; exact hc.2
   ·exact h3 i (by omega) hi2
  ·rw [if_neg hc]
   refine ⟨Nat.le_refl _, h, fun i h1 h2 => by omega, fun h1 => ?_⟩
   cases hb : s.getLsbD (e + 1)
   ·rfl
   ·exact absurd ⟨h1, hb⟩ hc
set_option maxRecDepth 100000 in
theorem ab1 {s : CS} {k e : Nat} (h1 : k ≤ e) (h2 : e ≤ 255) (h3 : ∀ i, k < i → i ≤ e → s.getLsbD i = true) (h4 : e < 255 → s.getLsbD (e + 1) = false) : afu s k = e := by
 obtain ⟨r1, r2, r3, r4⟩ := afh s 256 k (by omega) (by omega)
 unfold afu
 rcases Nat.lt_trichotomy (aau s 256 k) e with h | h | h
 ·have := r4 (by omega)
  rw [h3 _ (by omega) (by omega)] at this; cases this
 ·exact h
 ·have := h4 (by omega)
  rw [r3 _ (by omega) (by omega)] at this; cases this
def aae (b e : Nat) : List UInt8 := m6 b inL ++ (if b + 1 < e then [45] else []) ++ (if b < e then m6 e inL else [])
def aew (s : CS) (c : Nat) : List UInt8 := if s.getLsbD c && (c == 0 || !s.getLsbD (c - 1)) then aae c (afu s c) else []
def j5 (s : CS) : Nat → List UInt8
 | 0 => []
 | k + 1 => j5 s k ++ aew s k
set_option maxRecDepth 100000 in
theorem agr {s : CS} {k : Nat} (h : s.getLsbD k = false) : j5 s (k + 1) = j5 s k := by simp [j5, aew, h]
set_option maxRecDepth 100000 in
theorem ah2 {s : CS} {k : Nat} : ∀ (n : Nat), (∀ i, k ≤ i → i < k + n → s.getLsbD i = true ∧ 0 < i ∧ s.getLsbD (i - 1) = true) → j5 s (k + n) = j5 s k
 | 0, _ => rfl
 | n + 1, h => by
  have ih := ah2 n fun i h1 h2 => h i h1 (by omega)
  obtain ⟨a, b, c⟩ := h (k + n) (by omega) (by omega)
  have hz : ((k + n) == 0) = false := by simpa using (show ¬ (k + n) = 0 by omega)
  rw [← Nat.add_assoc, j5, ih, aew, c, hz]
  simp
set_option maxRecDepth 100000 in
theorem ab2 (s : CS) (k e : Nat) (hb : s.getLsbD k = true) (hst : k = 0 ∨ s.getLsbD (k - 1) = false) (he : afu s k = e) (hke : k ≤ e) (hr : ∀ i, k < i → i ≤ e → s.getLsbD i = true) : j5 s (e + 1) = j5 s k ++ aae k e := by
 have h1 : j5 s (k + 1 + (e - k)) = j5 s (k + 1) := ah2 (e - k) fun i hi1 hi2 => by
  refine ⟨hr i (by omega) (by omega), by omega, ?_⟩
  by_cases h : i = k + 1
  ·subst h; exact hb
  ·exact hr (i - 1) (by omega) (by omega)
 rw [show k + 1 + (e - k) = e + 1 by omega] at h1
 rw [h1, j5, aew, he, hb]
 rcases hst with h | h
 ·subst h; simp
 ·simp [h]
set_option maxRecDepth 100000 in
theorem amn (b e : Nat) : (aae b e).length ≤ 9 := by
 have h1 := n8 b inL
 have h2 := n8 e inL
 unfold aae
 by_cases c1 : b + 1 < e <;> by_cases c2 : b < e <;> simp [c1, c2] <;> omega
set_option maxRecDepth 100000 in
theorem v6 (s : CS) (k : Nat) : (j5 s k).length ≤ 9 * k := by
 induction k with
 | zero => simp [j5]
 | succ k ih =>
  have : (aew s k).length ≤ 9 := by
   unfold aew; split
   ·exact amn _ _
   ·simp
  simp only [j5, List.length_append]; omega
def w5 (s : CS) : List UInt8 :=
 if s9 s = 1 then m6 ((w6 s 0).getD 0) spL
 else if 128 < s9 s then [91, 94] ++ j5 (~~~ s) 256 ++ [93] else [91] ++ j5 s 256 ++ [93]
set_option maxRecDepth 100000 in
theorem amp (s : CS) (h : s9 s = 1) : ako s 0 = .tuple #[.int .u8 ((w6 s 0).getD 0 : Nat), .bool true] := by
 cases hn : w6 s 0 with
 | none =>
  have : s9 s = 0 := by
   unfold s9
   rw [List.countP_eq_zero]
   intro i hi
   have := ama hn i (by omega) (List.mem_range.1 hi)
   simp [this]
  omega
 | some c => rw [ako, hn]; rfl
set_option maxRecDepth 100000 in
set_option maxHeartbeats 1000000 in
theorem aoz (s : CS) (h1 : s9 s = 1) : ad8 86 #[.agg (j6 s)] (.string (bs (w5 s))) := by
 intro w hE
 have HS := Lib.hid (show w5 s = m6 ((w6 s 0).getD 0) spB.data.toList by unfold w5; rw [if_pos h1]; rfl)
 have c1 := ago s
 rw [h1] at c1
 have C1 := Lib.hid c1
 have c2 := aou s 0 (by omega) (by omega)
 rw [show (0 : Int).toNat = 0 from rfl, amp s h1] at c2
 have C2 := Lib.hid c2
 have hlt : (w6 s 0).getD 0 < 256 := by
  cases hn : w6 s 0 with
  | none => simp
  | some c => exact (al9 hn).2.1
 have C3 := Lib.hid (r6 ((w6 s 0).getD 0) hlt spB)
 clear c1 c2 h1
 generalize (w6 s 0).getD 0 = n at *
 have H1 := Lib.hid (heap_alloc_new w (.cells (j6 s) 84))
 have hb1 : Below w.heap.size w (w.alloc (.cells (j6 s) 84)) := (Below.refl _ _).alloc (Nat.le_refl _) _
 have hE1 := hE.alloc (.cells (j6 s) 84)
 go_enter Tryd.func86, Tryd.ntmps86
 go_wp2_with (first | (with_reducible refine x8 (d := 9) ?_) | fail)
 unfold Hid
 generalize w.alloc (.cells (j6 s) 84) = W1 at H1 hb1 hE1 ⊢
 have hl1 : w.heap.size < W1.heap.size := d7 H1.out
 refine j9 (d := 9) w.heap.size 84 H1.out (ab9 _) rfl ?_
 simp only [Act.put, List.setIfInBounds_toArray, List.set_cons_zero, List.set_cons_succ]
 go_wp2_with fail
 refine (C1.out W1).mono ?_
 rintro e W2 ⟨rfl, hv⟩
 have H2 := Lib.hid (blk hv H1.out hl1)
 have hb2 := hb1.trans (hv.mono hb1.size)
 have hE2 := hE1.below hv
 have hl2 : w.heap.size < W2.heap.size := d7 H2.out
 clear hv hb1 H1 hE1
 go_wp2_with (first | (with_reducible refine x8 (d := 14) ?_) | fail)
 unfold Hid
 refine j9 (d := 14) w.heap.size 84 H2.out (ab9 _) rfl ?_
 simp only [Act.put, List.setIfInBounds_toArray, List.set_cons_zero, List.set_cons_succ]
 go_wp2_with fail
 refine (C2.out W2).mono ?_
 rintro e W3 ⟨rfl, hv⟩
 have hb3 := hb2.trans (hv.mono hb2.size)
 have hE3 := hE2.below hv
 go_wp2_with fail
 refine (C3.out W3 hE3).mono ?_
 rintro e W4 ⟨rfl, hv4⟩
 go_wp2
 go_ret
 exact ⟨by rw [HS.out]; rfl, hb3.trans (hv4.mono hb3.size)⟩
set_option maxRecDepth 100000 in
set_option maxHeartbeats 2000000 in
theorem aoq (s : CS) (h1 : s9 s ≠ 1) : ad8 86 #[.agg (j6 s)] (.string (bs (w5 s))) := by
 intro w hE
 have C1 := Lib.hid (ago s)
 have C2 := Lib.hid (ajj s)
 have hcb : s9 s ≤ 256 := by
  have := List.countP_le_length (p := fun i => s.getLsbD i) (l := List.range 256)
  simpa [s9] using this
 have HS0 := Lib.hid (show w5 s = if 128 < s9 s then [91, 94] ++ j5 (~~~ s) 256 ++ [93] else [91] ++ j5 s 256 ++ [93] by unfold w5; rw [if_neg h1])
 have hn1 : ((s9 s : Int) == 1) = false := by simpa using (show ¬ ((s9 s : Int) = 1) by omega)
 clear h1
 generalize s9 s = n at *
 have H1 := Lib.hid (heap_alloc_new w (.cells (j6 s) 84))
 have hb1 : Below w.heap.size w (w.alloc (.cells (j6 s) 84)) := (Below.refl _ _).alloc (Nat.le_refl _) _
 have hE1 := hE.alloc (.cells (j6 s) 84)
 go_enter Tryd.func86, Tryd.ntmps86
 go_wp2_with (first | (with_reducible refine x8 (d := 9) ?_) | fail)
 unfold Hid
 generalize w.alloc (.cells (j6 s) 84) = W1 at H1 hb1 hE1 ⊢
 have hl1 : w.heap.size < W1.heap.size := d7 H1.out
 refine j9 (d := 9) w.heap.size 84 H1.out (ab9 _) rfl ?_
 simp only [Act.put, List.setIfInBounds_toArray, List.set_cons_zero, List.set_cons_succ]
 go_wp2_with fail
 refine (C1.out W1).mono ?_
 rintro e0 W2 ⟨rfl, hv⟩
 have H2 := Lib.hid (blk hv H1.out hl1)
 have hb2 := hb1.trans (hv.mono hb1.size)
 have hE2 := hE1.below hv
 have hl2 : w.heap.size < W2.heap.size := d7 H2.out
 clear hv hb1 H1 hE1 C1
 by_cases h128 : 128 < n
 ·have HS := Lib.hid (HS0.out.trans (if_pos h128))
  clear HS0
  go_wp2_with (first | (with_reducible refine x8 (d := 22) ?_) | fail)
  unfold Hid
  refine j9 (d := 22) w.heap.size 84 H2.out (ab9 _) rfl ?_
  simp only [Act.put, List.setIfInBounds_toArray, List.set_cons_zero, List.set_cons_succ]
  go_wp2_with fail
  refine (C2.out W2).mono ?_
  rintro e0 W3 ⟨rfl, hv⟩
  have H3 := Lib.hid (blk hv H2.out hl2)
  have hb3 := hb2.trans (hv.mono hb2.size)
  have hE3 := hE2.below hv
  have H4 := Lib.hid (s8 (cs := j6 (~~~ s)) H3.out)
  have hb4 := below_setRow hb3 (Nat.le_refl _) (j6 (~~~ s))
  have hE4 : Esc (W3.setRow w.heap.size (j6 (~~~ s))) := by
   obtain ⟨te, fre, hx⟩ := hE3
   obtain ⟨te', fre', hx'⟩ := hE
   exact ⟨te, fre, aeg hx (by have := d7 hx'; omega)⟩
  clear H2 hb2 hE2 hl2 hb3 hE3 hv C2
  go_wp2_with (first | ((with_reducible refine ahh (x := .tmp 1) (y := .tmp 23) (cs := j6 (~~~ s)) w.heap.size 84 H3.out (agv _ _) (ab9 _) (acq _) ?_ ?_ ?_); rfl; rfl) | fail)
  generalize W3.setRow w.heap.size (j6 (~~~ s)) = W4 at H4 hb4 hE4 ⊢
  clear H3
  generalize ~~~ s = S at *
  have h0 : (⟨#[91, 94]⟩ : ByteArray) = bs [91, 94] := rfl
  rw [h0]
  clear h0
  have hpre : ([91, 94] : List UInt8).length ≤ 2 := by decide
  generalize ([91, 94] : List UInt8) = pre at *
  go_loopw [6, 7] (fun out i wr => ∃ k : Nat, i = .int .i64 k ∧ k ≤ 256 ∧ out = .string (bs (pre ++ j5 S k)) ∧ wr.heap[w.heap.size]? = some (.cells (j6 S) 84 (0, 0)) ∧ Esc wr ∧ Below w.heap.size w wr ∧ (k = 0 ∨ k = 256 ∨ S.getLsbD (k - 1) = false ∨ S.getLsbD k = false))
   (fun _ i _ => 256 - (intOf i).toNat)
  case atStart => exact ⟨0, rfl, by omega, by simp [j5], H4.out, hE4, hb4, .inl rfl⟩
  case round =>
   obtain ⟨k, rfl, hk, rfl, hblk0, hEr, hbr, hst⟩ := hrel
   have H5 := Lib.hid hblk0; clear hblk0
   have hlr : w.heap.size < wr.heap.size := d7 H5.out
   clear H4 hb4 hE4
   by_cases hk6 : k < 256
   ·have CH := Lib.hid (abi S (k : Int) (by omega) (by omega))
    go_wp2_with (first | (with_reducible refine x8 (d := 28) ?_) | fail)
    unfold Hid
    refine j9 (d := 28) w.heap.size 84 H5.out (ab9 _) rfl ?_
    simp only [Act.put, List.setIfInBounds_toArray, List.set_cons_zero, List.set_cons_succ]
    go_wp2_with fail
    refine (CH.out wr).mono ?_
    rintro e0 V1 ⟨rfl, hv⟩
    have H6 := Lib.hid (blk hv H5.out hlr)
    have hb6 := hbr.trans (hv.mono hbr.size)
    have hE6 := hEr.below hv
    have hl6 : w.heap.size < V1.heap.size := d7 H6.out
    clear hv hbr H5 hEr hlr CH
    rw [Int.toNat_natCast]
    by_cases hbit : S.getLsbD k = true
    ·rw [hbit]
     have hst' : k = 0 ∨ S.getLsbD (k - 1) = false := by
      rcases hst with h | h | h | h
      ·exact .inl h
      ·omega
      ·exact .inr h
      ·rw [h] at hbit; cases hbit
     go_wp2_with fail
     go_loopw [8] (fun i wr => ∃ e : Nat, i = .int .i64 e ∧ k ≤ e ∧ e ≤ 255 ∧ (∀ i, k < i → i ≤ e → S.getLsbD i = true) ∧ wr.heap[w.heap.size]? = some (.cells (j6 S) 84 (0, 0)) ∧ Esc wr ∧ Below w.heap.size w wr)
      (fun i _ => 255 - (intOf i).toNat)
     case atStart => exact ⟨k, rfl, Nat.le_refl _, by omega, fun i h1 h2 => by omega, H6.out, hE6, hb6⟩
     case round =>
      obtain ⟨e, rfl, hke, he, hrun, hblk1, hE7, hb7⟩ := hrel
      have H7 := Lib.hid hblk1; clear hblk1
      clear H6 hE6 hb6 hl6
      have hl7 : w.heap.size < wr.heap.size := d7 H7.out
      by_cases he5 : e < 255
      ·have CH := Lib.hid (abi S ((e : Int) + 1) (by omega) (by omega))
       rw [show ((e : Int) + 1).toNat = e + 1 by omega] at CH
       have hde : decide ((e : Int) < 255) = true := decide_eq_true (by omega)
       go_wp2_with (first | (with_reducible refine x8 (d := 37) ?_) | fail)
       unfold Hid
       refine abk (d := 37) w.heap.size 84 H7.out (ab9 _) ?_ ?_ ?_
       rfl
       rfl
       simp only [Act.put, List.setIfInBounds_toArray, List.set_cons_zero, List.set_cons_succ]
       go_wp2_with fail
       refine (CH.out wr).mono ?_
       rintro e0 V2 ⟨rfl, hv⟩
       have H10 := Lib.hid (blk hv H7.out hl7)
       have hb10 := hb7.trans (hv.mono hb7.size)
       have hE10 := hE7.below hv
       have hl10 : w.heap.size < V2.heap.size := d7 H10.out
       clear hv hb7 H7 hE7 hl7 CH
       by_cases hb2 : S.getLsbD (e + 1) = true
       ·rw [hb2]
        go_wp2
        go_roundw
        case rel =>
         refine ⟨e + 1, by go_num, by omega, by omega, fun i h1 h2 => ?_, H10.out, hE10, hb10⟩
         by_cases hx : i = e + 1
         ·rw [hx]; exact hb2
         ·exact hrun i h1 (by omega)
        case measure => simp [intOf] <;> omega
       ·have hb2' : S.getLsbD (e + 1) = false := by simpa using hb2
        rw [hb2']
        have hend : e < 255 → S.getLsbD (e + 1) = false := fun _ => hb2'
        have H7 := H10
        have hb7 := hb10
        have hE7 := hE10
        have hl7 := hl10
        clear H10 hb10 hE10 hl10
        generalize V2 = wr at *
        have hre := ab1 hke he hrun hend
        have hrunT := ab2 S k e hbit hst' hre hke hrun
        have CS1 := Lib.hid (r6 k (by omega) inB)
        rw [show inB.data.toList = inL from rfl] at CS1
        have hq1 := n8 k inL
        have CS2 := Lib.hid (r6 e (by omega) inB)
        rw [show inB.data.toList = inL from rfl] at CS2
        have hq2 := n8 e inL
        have hol : (pre ++ j5 S k).length ≤ 2 + 9 * k := by have := v6 S k; rw [List.length_append]; omega
        have hn' : e + 1 = 256 ∨ S.getLsbD (e + 1) = false := by
         by_cases h : e < 255
         ·exact .inr (hend h)
         ·exact .inl (by omega)
        have HN := Lib.hid hn'
        clear hn' hend hrun hre hst' hst
        have hT := (show pre ++ j5 S (e + 1) = pre ++ j5 S k ++ aae k e by rw [hrunT, List.append_assoc])
        clear hrunT
        have HB := Lib.hid k6
        generalize pre ++ j5 S k = o at hol hT ⊢
        unfold aae at hT
        generalize hq : m6 k inL = q1 at hq1 CS1 hT
        clear hq
        generalize hq : m6 e inL = q2 at hq2 CS2 hT
        clear hq
        have z1 : (bs o).size ≤ 2 + 9 * 256 := by rw [l7]; omega
        have z2 : (bs q1).size ≤ 4 := by rw [l7]; omega
        have z3 : (bs q2).size ≤ 4 := by rw [l7]; omega
        have z4 : (bs o ++ bs q1).size ≤ 2 + 9 * 256 + 4 := by rw [k6, l7, List.length_append]; omega
        clear hol hq1 hq2
        by_cases c1 : k + 1 < e
        ·have c2 : k < e := by omega
         rw [if_pos c1, if_pos c2] at hT
         have HT := Lib.hid hT; clear hT
         have z5 : (bs o ++ bs q1 ++ (⟨#[45]⟩ : ByteArray)).size ≤ 2 + 9 * 256 + 5 := by rw [show (⟨#[45]⟩ : ByteArray) = bs [45] from rfl, k6, k6, l7]; rw [k6, l7] at z4; simp only [List.length_append, List.length_cons, List.length_nil] at z4 ⊢; omega
         go_wp2_with fail
         refine (CS1.out wr hE7).mono ?_
         rintro e0 V3 ⟨rfl, hv⟩
         have H8 := Lib.hid (blk hv H7.out hl7)
         have hb8 := hb7.trans (hv.mono hb7.size)
         have hE8 := hE7.below hv
         have hl8 : w.heap.size < V3.heap.size := d7 H8.out
         clear hv hb7 hE7 H7 hl7 CS1
         go_wp2_with fail
         refine (CS2.out V3 hE8).mono ?_
         rintro e0 V4 ⟨rfl, hv⟩
         have H9 := Lib.hid (blk hv H8.out hl8)
         have hb9 := hb8.trans (hv.mono hb8.size)
         have hE9 := hE8.below hv
         clear hv hb8 hE8 H8 hl8 CS2
         go_wp2
         go_roundw
         case rel => exact ⟨e + 1, by go_num, by omega, by rw [HT.out]; show Value.string (bs o ++ bs q1 ++ bs [45] ++ bs q2) = _; simp only [HB.out, List.append_assoc], H9.out, hE9, hb9, .inr (HN.out.elim .inl (fun x => .inr (.inr x)))⟩
         case measure => simp [intOf] <;> omega
        ·by_cases c2 : k < e
         ·rw [if_neg c1, if_pos c2, List.append_nil] at hT
          have HT := Lib.hid hT; clear hT
          go_wp2_with fail
          refine (CS1.out wr hE7).mono ?_
          rintro e0 V3 ⟨rfl, hv⟩
          have H8 := Lib.hid (blk hv H7.out hl7)
          have hb8 := hb7.trans (hv.mono hb7.size)
          have hE8 := hE7.below hv
          have hl8 : w.heap.size < V3.heap.size := d7 H8.out
          clear hv hb7 hE7 H7 hl7 CS1
          go_wp2_with fail
          refine (CS2.out V3 hE8).mono ?_
          rintro e0 V4 ⟨rfl, hv⟩
          have H9 := Lib.hid (blk hv H8.out hl8)
          have hb9 := hb8.trans (hv.mono hb8.size)
          have hE9 := hE8.below hv
          clear hv hb8 hE8 H8 hl8 CS2
          go_wp2
          go_roundw
          case rel => exact ⟨e + 1, by go_num, by omega, by rw [HT.out]; show Value.string (bs o ++ bs q1 ++ bs q2) = _; simp only [HB.out, List.append_assoc], H9.out, hE9, hb9, .inr (HN.out.elim .inl (fun x => .inr (.inr x)))⟩
          case measure => simp [intOf] <;> omega
         ·rw [if_neg c1, if_neg c2, List.append_nil, List.append_nil] at hT
          have HT := Lib.hid hT; clear hT
          clear CS2
          go_wp2_with fail
          refine (CS1.out wr hE7).mono ?_
          rintro e0 V3 ⟨rfl, hv⟩
          have H8 := Lib.hid (blk hv H7.out hl7)
          have hb8 := hb7.trans (hv.mono hb7.size)
          have hE8 := hE7.below hv
          have hl8 : w.heap.size < V3.heap.size := d7 H8.out
          clear hv hb7 hE7 H7 hl7 CS1
          go_wp2
          go_roundw
          case rel => exact ⟨e + 1, by go_num, by omega, by rw [HT.out]; show Value.string (bs o ++ bs q1) = _; simp only [HB.out], H8.out, hE8, hb8, .inr (HN.out.elim .inl (fun x => .inr (.inr x)))⟩
          case measure => simp [intOf] <;> omega
      ·have hend : e < 255 → S.getLsbD (e + 1) = false := fun h => absurd h he5
       have hre := ab1 hke he hrun hend
       have hrunT := ab2 S k e hbit hst' hre hke hrun
       have CS1 := Lib.hid (r6 k (by omega) inB)
       rw [show inB.data.toList = inL from rfl] at CS1
       have hq1 := n8 k inL
       have CS2 := Lib.hid (r6 e (by omega) inB)
       rw [show inB.data.toList = inL from rfl] at CS2
       have hq2 := n8 e inL
       have hol : (pre ++ j5 S k).length ≤ 2 + 9 * k := by have := v6 S k; rw [List.length_append]; omega
       have hn' : e + 1 = 256 ∨ S.getLsbD (e + 1) = false := by
        by_cases h : e < 255
        ·exact .inr (hend h)
        ·exact .inl (by omega)
       have HN := Lib.hid hn'
       clear hn' hend hrun hre hst' hst
       have hT := (show pre ++ j5 S (e + 1) = pre ++ j5 S k ++ aae k e by rw [hrunT, List.append_assoc])
       clear hrunT
       have HB := Lib.hid k6
       generalize pre ++ j5 S k = o at hol hT ⊢
       unfold aae at hT
       generalize hq : m6 k inL = q1 at hq1 CS1 hT
       clear hq
       generalize hq : m6 e inL = q2 at hq2 CS2 hT
       clear hq
       have z1 : (bs o).size ≤ 2 + 9 * 256 := by rw [l7]; omega
       have z2 : (bs q1).size ≤ 4 := by rw [l7]; omega
       have z3 : (bs q2).size ≤ 4 := by rw [l7]; omega
       have z4 : (bs o ++ bs q1).size ≤ 2 + 9 * 256 + 4 := by rw [k6, l7, List.length_append]; omega
       clear hol hq1 hq2
       by_cases c1 : k + 1 < e
       ·have c2 : k < e := by omega
        rw [if_pos c1, if_pos c2] at hT
        have HT := Lib.hid hT; clear hT
        have z5 : (bs o ++ bs q1 ++ (⟨#[45]⟩ : ByteArray)).size ≤ 2 + 9 * 256 + 5 := by rw [show (⟨#[45]⟩ : ByteArray) = bs [45] from rfl, k6, k6, l7]; rw [k6, l7] at z4; simp only [List.length_append, List.length_cons, List.length_nil] at z4 ⊢; omega
        go_wp2_with fail
        refine (CS1.out wr hE7).mono ?_
        rintro e0 V3 ⟨rfl, hv⟩
        have H8 := Lib.hid (blk hv H7.out hl7)
        have hb8 := hb7.trans (hv.mono hb7.size)
        have hE8 := hE7.below hv
        have hl8 : w.heap.size < V3.heap.size := d7 H8.out
        clear hv hb7 hE7 H7 hl7 CS1
        go_wp2_with fail
        refine (CS2.out V3 hE8).mono ?_
        rintro e0 V4 ⟨rfl, hv⟩
        have H9 := Lib.hid (blk hv H8.out hl8)
        have hb9 := hb8.trans (hv.mono hb8.size)
        have hE9 := hE8.below hv
        clear hv hb8 hE8 H8 hl8 CS2
        go_wp2
        go_roundw
        case rel => exact ⟨e + 1, by go_num, by omega, by rw [HT.out]; show Value.string (bs o ++ bs q1 ++ bs [45] ++ bs q2) = _; simp only [HB.out, List.append_assoc], H9.out, hE9, hb9, .inr (HN.out.elim .inl (fun x => .inr (.inr x)))⟩
        case measure => simp [intOf] <;> omega
       ·by_cases c2 : k < e
        ·rw [if_neg c1, if_pos c2, List.append_nil] at hT
         have HT := Lib.hid hT; clear hT
         go_wp2_with fail
         refine (CS1.out wr hE7).mono ?_
         rintro e0 V3 ⟨rfl, hv⟩
         have H8 := Lib.hid (blk hv H7.out hl7)
         have hb8 := hb7.trans (hv.mono hb7.size)
         have hE8 := hE7.below hv
         have hl8 : w.heap.size < V3.heap.size := d7 H8.out
         clear hv hb7 hE7 H7 hl7 CS1
         go_wp2_with fail
         refine (CS2.out V3 hE8).mono ?_
         rintro e0 V4 ⟨rfl, hv⟩
         have H9 := Lib.hid (blk hv H8.out hl8)
         have hb9 := hb8.trans (hv.mono hb8.size)
         have hE9 := hE8.below hv
         clear hv hb8 hE8 H8 hl8 CS2
         go_wp2
         go_roundw
         case rel => exact ⟨e + 1, by go_num, by omega, by rw [HT.out]; show Value.string (bs o ++ bs q1 ++ bs q2) = _; simp only [HB.out, List.append_assoc], H9.out, hE9, hb9, .inr (HN.out.elim .inl (fun x => .inr (.inr x)))⟩
         case measure => simp [intOf] <;> omega
        ·rw [if_neg c1, if_neg c2, List.append_nil, List.append_nil] at hT
         have HT := Lib.hid hT; clear hT
         clear CS2
         go_wp2_with fail
         refine (CS1.out wr hE7).mono ?_
         rintro e0 V3 ⟨rfl, hv⟩
         have H8 := Lib.hid (blk hv H7.out hl7)
         have hb8 := hb7.trans (hv.mono hb7.size)
         have hE8 := hE7.below hv
         have hl8 : w.heap.size < V3.heap.size := d7 H8.out
         clear hv hb7 hE7 H7 hl7 CS1
         go_wp2
         go_roundw
         case rel => exact ⟨e + 1, by go_num, by omega, by rw [HT.out]; show Value.string (bs o ++ bs q1) = _; simp only [HB.out], H8.out, hE8, hb8, .inr (HN.out.elim .inl (fun x => .inr (.inr x)))⟩
         case measure => simp [intOf] <;> omega
    ·have hbit' : S.getLsbD k = false := by simpa using hbit
     rw [hbit']
     go_wp2
     go_roundw
     case rel => exact ⟨k + 1, by go_num, by omega, by rw [agr hbit'], H6.out, hE6, hb6, .inr (.inr (.inl (by rw [Nat.add_sub_cancel]; exact hbit')))⟩
     case measure => simp [intOf] <;> omega
   ·have hk0 : k = 256 := by omega
    subst hk0
    have hol : (pre ++ j5 S 256).length ≤ 2 + 9 * 256 := by have := v6 S 256; rw [List.length_append]; omega
    have HB := Lib.hid k6
    generalize pre ++ j5 S 256 = o at hol HS ⊢
    have z1 : (bs o).size ≤ 2 + 9 * 256 := by rw [l7]; omega
    go_wp2
    go_ret
    exact ⟨by rw [HS.out, ← HB.out]; rfl, hbr⟩
 ·have HS := Lib.hid (HS0.out.trans (if_neg h128))
  clear HS0
  go_wp2_with fail
  have h0 : (⟨#[91]⟩ : ByteArray) = bs [91] := rfl
  rw [h0]
  clear h0
  have hpre : ([91] : List UInt8).length ≤ 2 := by decide
  generalize ([91] : List UInt8) = pre at *
  clear C2
  obtain ⟨S, hSs⟩ : ∃ S, S = s := ⟨s, rfl⟩
  rw [show j5 s 256 = j5 S 256 by rw [hSs]] at HS
  rw [← hSs] at H2
  clear hSs
  have H4 := H2
  have hb4 := hb2
  have hE4 := hE2
  clear H2 hb2 hE2
  generalize W2 = W4 at *
  go_loopw [6, 7] (fun out i wr => ∃ k : Nat, i = .int .i64 k ∧ k ≤ 256 ∧ out = .string (bs (pre ++ j5 S k)) ∧ wr.heap[w.heap.size]? = some (.cells (j6 S) 84 (0, 0)) ∧ Esc wr ∧ Below w.heap.size w wr ∧ (k = 0 ∨ k = 256 ∨ S.getLsbD (k - 1) = false ∨ S.getLsbD k = false))
   (fun _ i _ => 256 - (intOf i).toNat)
  case atStart => exact ⟨0, rfl, by omega, by simp [j5], H4.out, hE4, hb4, .inl rfl⟩
  case round =>
   obtain ⟨k, rfl, hk, rfl, hblk0, hEr, hbr, hst⟩ := hrel
   have H5 := Lib.hid hblk0; clear hblk0
   have hlr : w.heap.size < wr.heap.size := d7 H5.out
   clear H4 hb4 hE4
   by_cases hk6 : k < 256
   ·have CH := Lib.hid (abi S (k : Int) (by omega) (by omega))
    go_wp2_with (first | (with_reducible refine x8 (d := 28) ?_) | fail)
    unfold Hid
    refine j9 (d := 28) w.heap.size 84 H5.out (ab9 _) rfl ?_
    simp only [Act.put, List.setIfInBounds_toArray, List.set_cons_zero, List.set_cons_succ]
    go_wp2_with fail
    refine (CH.out wr).mono ?_
    rintro e0 V1 ⟨rfl, hv⟩
    have H6 := Lib.hid (blk hv H5.out hlr)
    have hb6 := hbr.trans (hv.mono hbr.size)
    have hE6 := hEr.below hv
    have hl6 : w.heap.size < V1.heap.size := d7 H6.out
    clear hv hbr H5 hEr hlr CH
    rw [Int.toNat_natCast]
    by_cases hbit : S.getLsbD k = true
    ·rw [hbit]
     have hst' : k = 0 ∨ S.getLsbD (k - 1) = false := by
      rcases hst with h | h | h | h
      ·exact .inl h
      ·omega
      ·exact .inr h
      ·rw [h] at hbit; cases hbit
     go_wp2_with fail
     go_loopw [8] (fun i wr => ∃ e : Nat, i = .int .i64 e ∧ k ≤ e ∧ e ≤ 255 ∧ (∀ i, k < i → i ≤ e → S.getLsbD i = true) ∧ wr.heap[w.heap.size]? = some (.cells (j6 S) 84 (0, 0)) ∧ Esc wr ∧ Below w.heap.size w wr)
      (fun i _ => 255 - (intOf i).toNat)
     case atStart => exact ⟨k, rfl, Nat.le_refl _, by omega, fun i h1 h2 => by omega, H6.out, hE6, hb6⟩
     case round =>
      obtain ⟨e, rfl, hke, he, hrun, hblk1, hE7, hb7⟩ := hrel
      have H7 := Lib.hid hblk1; clear hblk1
      clear H6 hE6 hb6 hl6
      have hl7 : w.heap.size < wr.heap.size := d7 H7.out
      by_cases he5 : e < 255
      ·have CH := Lib.hid (abi S ((e : Int) + 1) (by omega) (by omega))
       rw [show ((e : Int) + 1).toNat = e + 1 by omega] at CH
       have hde : decide ((e : Int) < 255) = true := decide_eq_true (by omega)
       go_wp2_with (first | (with_reducible refine x8 (d := 37) ?_) | fail)
       unfold Hid
       refine abk (d := 37) w.heap.size 84 H7.out (ab9 _) ?_ ?_ ?_
       rfl
       rfl
       simp only [Act.put, List.setIfInBounds_toArray, List.set_cons_zero, List.set_cons_succ]
       go_wp2_with fail
       refine (CH.out wr).mono ?_
       rintro e0 V2 ⟨rfl, hv⟩
       have H10 := Lib.hid (blk hv H7.out hl7)
       have hb10 := hb7.trans (hv.mono hb7.size)
       have hE10 := hE7.below hv
       have hl10 : w.heap.size < V2.heap.size := d7 H10.out
       clear hv hb7 H7 hE7 hl7 CH
       by_cases hb2 : S.getLsbD (e + 1) = true
       ·rw [hb2]
        go_wp2
        go_roundw
        case rel =>
         refine ⟨e + 1, by go_num, by omega, by omega, fun i h1 h2 => ?_, H10.out, hE10, hb10⟩
         by_cases hx : i = e + 1
         ·rw [hx]; exact hb2
         ·exact hrun i h1 (by omega)
        case measure => simp [intOf] <;> omega
       ·have hb2' : S.getLsbD (e + 1) = false := by simpa using hb2
        rw [hb2']
        have hend : e < 255 → S.getLsbD (e + 1) = false := fun _ => hb2'
        have H7 := H10
        have hb7 := hb10
        have hE7 := hE10
        have hl7 := hl10
        clear H10 hb10 hE10 hl10
        generalize V2 = wr at *
        have hre := ab1 hke he hrun hend
        have hrunT := ab2 S k e hbit hst' hre hke hrun
        have CS1 := Lib.hid (r6 k (by omega) inB)
        rw [show inB.data.toList = inL from rfl] at CS1
        have hq1 := n8 k inL
        have CS2 := Lib.hid (r6 e (by omega) inB)
        rw [show inB.data.toList = inL from rfl] at CS2
        have hq2 := n8 e inL
        have hol : (pre ++ j5 S k).length ≤ 2 + 9 * k := by have := v6 S k; rw [List.length_append]; omega
        have hn' : e + 1 = 256 ∨ S.getLsbD (e + 1) = false := by
         by_cases h : e < 255
         ·exact .inr (hend h)
         ·exact .inl (by omega)
        have HN := Lib.hid hn'
        clear hn' hend hrun hre hst' hst
        have hT := (show pre ++ j5 S (e + 1) = pre ++ j5 S k ++ aae k e by rw [hrunT, List.append_assoc])
        clear hrunT
        have HB := Lib.hid k6
        generalize pre ++ j5 S k = o at hol hT ⊢
        unfold aae at hT
        generalize hq : m6 k inL = q1 at hq1 CS1 hT
        clear hq
        generalize hq : m6 e inL = q2 at hq2 CS2 hT
        clear hq
        have z1 : (bs o).size ≤ 2 + 9 * 256 := by rw [l7]; omega
        have z2 : (bs q1).size ≤ 4 := by rw [l7]; omega
        have z3 : (bs q2).size ≤ 4 := by rw [l7]; omega
        have z4 : (bs o ++ bs q1).size ≤ 2 + 9 * 256 + 4 := by rw [k6, l7, List.length_append]; omega
        clear hol hq1 hq2
        by_cases c1 : k + 1 < e
        ·have c2 : k < e := by omega
         rw [if_pos c1, if_pos c2] at hT
         have HT := Lib.hid hT; clear hT
         have z5 : (bs o ++ bs q1 ++ (⟨#[45]⟩ : ByteArray)).size ≤ 2 + 9 * 256 + 5 := by rw [show (⟨#[45]⟩ : ByteArray) = bs [45] from rfl, k6, k6, l7]; rw [k6, l7] at z4; simp only [List.length_append, List.length_cons, List.length_nil] at z4 ⊢; omega
         go_wp2_with fail
         refine (CS1.out wr hE7).mono ?_
         rintro e0 V3 ⟨rfl, hv⟩
         have H8 := Lib.hid (blk hv H7.out hl7)
         have hb8 := hb7.trans (hv.mono hb7.size)
         have hE8 := hE7.below hv
         have hl8 : w.heap.size < V3.heap.size := d7 H8.out
         clear hv hb7 hE7 H7 hl7 CS1
         go_wp2_with fail
         refine (CS2.out V3 hE8).mono ?_
         rintro e0 V4 ⟨rfl, hv⟩
         have H9 := Lib.hid (blk hv H8.out hl8)
         have hb9 := hb8.trans (hv.mono hb8.size)
         have hE9 := hE8.below hv
         clear hv hb8 hE8 H8 hl8 CS2
         go_wp2
         go_roundw
         case rel => exact ⟨e + 1, by go_num, by omega, by rw [HT.out]; show Value.string (bs o ++ bs q1 ++ bs [45] ++ bs q2) = _; simp only [HB.out, List.append_assoc], H9.out, hE9, hb9, .inr (HN.out.elim .inl (fun x => .inr (.inr x)))⟩
         case measure => simp [intOf] <;> omega
        ·by_cases c2 : k < e
         ·rw [if_neg c1, if_pos c2, List.append_nil] at hT
          have HT := Lib.hid hT; clear hT
          go_wp2_with fail
          refine (CS1.out wr hE7).mono ?_
          rintro e0 V3 ⟨rfl, hv⟩
          have H8 := Lib.hid (blk hv H7.out hl7)
          have hb8 := hb7.trans (hv.mono hb7.size)
          have hE8 := hE7.below hv
          have hl8 : w.heap.size < V3.heap.size := d7 H8.out
          clear hv hb7 hE7 H7 hl7 CS1
          go_wp2_with fail
          refine (CS2.out V3 hE8).mono ?_
          rintro e0 V4 ⟨rfl, hv⟩
          have H9 := Lib.hid (blk hv H8.out hl8)
          have hb9 := hb8.trans (hv.mono hb8.size)
          have hE9 := hE8.below hv
          clear hv hb8 hE8 H8 hl8 CS2
          go_wp2
          go_roundw
          case rel => exact ⟨e + 1, by go_num, by omega, by rw [HT.out]; show Value.string (bs o ++ bs q1 ++ bs q2) = _; simp only [HB.out, List.append_assoc], H9.out, hE9, hb9, .inr (HN.out.elim .inl (fun x => .inr (.inr x)))⟩
          case measure => simp [intOf] <;> omega
         ·rw [if_neg c1, if_neg c2, List.append_nil, List.append_nil] at hT
          have HT := Lib.hid hT; clear hT
          clear CS2
          go_wp2_with fail
          refine (CS1.out wr hE7).mono ?_
          rintro e0 V3 ⟨rfl, hv⟩
          have H8 := Lib.hid (blk hv H7.out hl7)
          have hb8 := hb7.trans (hv.mono hb7.size)
          have hE8 := hE7.below hv
          have hl8 : w.heap.size < V3.heap.size := d7 H8.out
          clear hv hb7 hE7 H7 hl7 CS1
          go_wp2
          go_roundw
          case rel => exact ⟨e + 1, by go_num, by omega, by rw [HT.out]; show Value.string (bs o ++ bs q1) = _; simp only [HB.out], H8.out, hE8, hb8, .inr (HN.out.elim .inl (fun x => .inr (.inr x)))⟩
          case measure => simp [intOf] <;> omega
      ·have hend : e < 255 → S.getLsbD (e + 1) = false := fun h => absurd h he5
       have hre := ab1 hke he hrun hend
       have hrunT := ab2 S k e hbit hst' hre hke hrun
       have CS1 := Lib.hid (r6 k (by omega) inB)
       rw [show inB.data.toList = inL from rfl] at CS1
       have hq1 := n8 k inL
       have CS2 := Lib.hid (r6 e (by omega) inB)
       rw [show inB.data.toList = inL from rfl] at CS2
       have hq2 := n8 e inL
       have hol : (pre ++ j5 S k).length ≤ 2 + 9 * k := by have := v6 S k; rw [List.length_append]; omega
       have hn' : e + 1 = 256 ∨ S.getLsbD (e + 1) = false := by
        by_cases h : e < 255
        ·exact .inr (hend h)
        ·exact .inl (by omega)
       have HN := Lib.hid hn'
       clear hn' hend hrun hre hst' hst
       have hT := (show pre ++ j5 S (e + 1) = pre ++ j5 S k ++ aae k e by rw [hrunT, List.append_assoc])
       clear hrunT
       have HB := Lib.hid k6
       generalize pre ++ j5 S k = o at hol hT ⊢
       unfold aae at hT
       generalize hq : m6 k inL = q1 at hq1 CS1 hT
       clear hq
       generalize hq : m6 e inL = q2 at hq2 CS2 hT
       clear hq
       have z1 : (bs o).size ≤ 2 + 9 * 256 := by rw [l7]; omega
       have z2 : (bs q1).size ≤ 4 := by rw [l7]; omega
       have z3 : (bs q2).size ≤ 4 := by rw [l7]; omega
       have z4 : (bs o ++ bs q1).size ≤ 2 + 9 * 256 + 4 := by rw [k6, l7, List.length_append]; omega
       clear hol hq1 hq2
       by_cases c1 : k + 1 < e
       ·have c2 : k < e := by omega
        rw [if_pos c1, if_pos c2] at hT
        have HT := Lib.hid hT; clear hT
        have z5 : (bs o ++ bs q1 ++ (⟨#[45]⟩ : ByteArray)).size ≤ 2 + 9 * 256 + 5 := by rw [show (⟨#[45]⟩ : ByteArray) = bs [45] from rfl, k6, k6, l7]; rw [k6, l7] at z4; simp only [List.length_append, List.length_cons, List.length_nil] at z4 ⊢; omega
        go_wp2_with fail
        refine (CS1.out wr hE7).mono ?_
        rintro e0 V3 ⟨rfl, hv⟩
        have H8 := Lib.hid (blk hv H7.out hl7)
        have hb8 := hb7.trans (hv.mono hb7.size)
        have hE8 := hE7.below hv
        have hl8 : w.heap.size < V3.heap.size := d7 H8.out
        clear hv hb7 hE7 H7 hl7 CS1
        go_wp2_with fail
        refine (CS2.out V3 hE8).mono ?_
        rintro e0 V4 ⟨rfl, hv⟩
        have H9 := Lib.hid (blk hv H8.out hl8)
        have hb9 := hb8.trans (hv.mono hb8.size)
        have hE9 := hE8.below hv
        clear hv hb8 hE8 H8 hl8 CS2
        go_wp2
        go_roundw
        case rel => exact ⟨e + 1, by go_num, by omega, by rw [HT.out]; show Value.string (bs o ++ bs q1 ++ bs [45] ++ bs q2) = _; simp only [HB.out, List.append_assoc], H9.out, hE9, hb9, .inr (HN.out.elim .inl (fun x => .inr (.inr x)))⟩
        case measure => simp [intOf] <;> omega
       ·by_cases c2 : k < e
        ·rw [if_neg c1, if_pos c2, List.append_nil] at hT
         have HT := Lib.hid hT; clear hT
         go_wp2_with fail
         refine (CS1.out wr hE7).mono ?_
         rintro e0 V3 ⟨rfl, hv⟩
         have H8 := Lib.hid (blk hv H7.out hl7)
         have hb8 := hb7.trans (hv.mono hb7.size)
         have hE8 := hE7.below hv
         have hl8 : w.heap.size < V3.heap.size := d7 H8.out
         clear hv hb7 hE7 H7 hl7 CS1
         go_wp2_with fail
         refine (CS2.out V3 hE8).mono ?_
         rintro e0 V4 ⟨rfl, hv⟩
         have H9 := Lib.hid (blk hv H8.out hl8)
         have hb9 := hb8.trans (hv.mono hb8.size)
         have hE9 := hE8.below hv
         clear hv hb8 hE8 H8 hl8 CS2
         go_wp2
         go_roundw
         case rel => exact ⟨e + 1, by go_num, by omega, by rw [HT.out]; show Value.string (bs o ++ bs q1 ++ bs q2) = _; simp only [HB.out, List.append_assoc], H9.out, hE9, hb9, .inr (HN.out.elim .inl (fun x => .inr (.inr x)))⟩
         case measure => simp [intOf] <;> omega
        ·rw [if_neg c1, if_neg c2, List.append_nil, List.append_nil] at hT
         have HT := Lib.hid hT; clear hT
         clear CS2
         go_wp2_with fail
         refine (CS1.out wr hE7).mono ?_
         rintro e0 V3 ⟨rfl, hv⟩
         have H8 := Lib.hid (blk hv H7.out hl7)
         have hb8 := hb7.trans (hv.mono hb7.size)
         have hE8 := hE7.below hv
         have hl8 : w.heap.size < V3.heap.size := d7 H8.out
         clear hv hb7 hE7 H7 hl7 CS1
         go_wp2
         go_roundw
         case rel => exact ⟨e + 1, by go_num, by omega, by rw [HT.out]; show Value.string (bs o ++ bs q1) = _; simp only [HB.out], H8.out, hE8, hb8, .inr (HN.out.elim .inl (fun x => .inr (.inr x)))⟩
         case measure => simp [intOf] <;> omega
    ·have hbit' : S.getLsbD k = false := by simpa using hbit
     rw [hbit']
     go_wp2
     go_roundw
     case rel => exact ⟨k + 1, by go_num, by omega, by rw [agr hbit'], H6.out, hE6, hb6, .inr (.inr (.inl (by rw [Nat.add_sub_cancel]; exact hbit')))⟩
     case measure => simp [intOf] <;> omega
   ·have hk0 : k = 256 := by omega
    subst hk0
    have hol : (pre ++ j5 S 256).length ≤ 2 + 9 * 256 := by have := v6 S 256; rw [List.length_append]; omega
    have HB := Lib.hid k6
    generalize pre ++ j5 S 256 = o at hol HS ⊢
    have z1 : (bs o).size ≤ 2 + 9 * 256 := by rw [l7]; omega
    go_wp2
    go_ret
    exact ⟨by rw [HS.out, ← HB.out]; rfl, hbr⟩
end Go.Proofs.YtohnchdnkbadaaaDoor
namespace Go.Proofs.YtohnchdnkbadaaaDoor
open Go Go.RowKit
def wl (s : CS) : List Value := [.int .u64 (wd s 0), .int .u64 (wd s 1), .int .u64 (wd s 2), .int .u64 (wd s 3)]
set_option maxRecDepth 100000 in
theorem al1 {x : Int} (h : 0 ≤ x ∧ x < 256) : ∃ n : Nat, n < 256 ∧ x = (n : Int) := ⟨x.toNat, by omega, by omega⟩
set_option maxRecDepth 100000 in
theorem ah0 (lo hi : Int) (h : (0 ≤ lo ∧ lo < 256) ∧ (0 ≤ hi ∧ hi < 256)) : c9 Tryd.prog 176 [.int .u8 lo, .int .u8 hi] [] [] (Ret (.agg (wl (aaf lo.toNat hi.toNat)).toArray) []) := by
 obtain ⟨n, hn, rfl⟩ := al1 h.1
 obtain ⟨m, hm, rfl⟩ := al1 h.2
 exact c9.ofPure (anz n m hn hm)
set_option maxRecDepth 100000 in
theorem akm (s : CS) : c9 Tryd.prog 125 [.agg (wl s).toArray] [] [] (Ret (.agg (wl (~~~ s)).toArray) []) := c9.ofPure (ajj s)
set_option maxRecDepth 100000 in
theorem ale (s t : CS) : c9 Tryd.prog 180 [.agg (wl s).toArray, .agg (wl t).toArray] [] [] (Ret (.agg (wl (s ||| t)).toArray) []) := c9.ofPure (alp s t)
set_option maxRecDepth 100000 in
theorem aq7 (l : List UInt8) (h : l.length ≤ maxLen) : c9 Tryd.prog 41 [st l] [] [] (Ret (.agg (wl (ofS l)).toArray) []) := by
 have := aqb ⟨l.toArray⟩ (by simpa [ByteArray.size] using h)
 exact c9.ofPure this
set_option maxRecDepth 100000 in
theorem acp (l : List UInt8) (c : Int) : c9 Tryd.prog 135 [st l, .int .u8 c] [] [] (Ret (.int .i64 (Lib.indexByte l c.toNat.toUInt8)) []) :=
 c9.ofPure fun w => (Tryd.strings_IndexByte ⟨l.toArray⟩ c w).mono fun _ _ ⟨h1, h2⟩ => by subst h2; exact ⟨h1, Below.refl _ _⟩
def j4 (code place : Int) : Value := .iface 26 (.agg #[.int .i64 code, .int .i64 place, st []])
end Go.Proofs.YtohnchdnkbadaaaDoor
namespace Go.Proofs.YtohnchdnkbadaaaDoor
open Go Go.RowKit
abbrev zP (b : Nat) : Value := Value.pointer (some ⟨b, 0, none⟩)
abbrev zI (i : Int) : Value := Value.int .i64 i
abbrev zU (i : Int) : Value := Value.int .u8 i
abbrev zB (b : Bool) : Value := Value.bool b
theorem wv {P : Program} {ops : Array Oper} {Q : Exit → Act → World → Prop} {C : Cx} {L : Sl} {H : List HA} {rest : List Oper} {o : Oper} {v : Value} {d : Nat} (hv : OV P C L H o v) (h : WL P ops Q C ((d, v) :: L) H rest) (hw : m5 ops L o = some true := by exact rfl) (hd : o.dst = some d := by exact rfl) (hn : Nat.blt d C.n = true := by exact rfl) : WL P ops Q C L H (o :: rest) := WL.val hv hw hd hn h
theorem kg {C : Cx} {L L' : Sl} {H : List HA} {K : Act → World → Prop} (h : KX K C L' H) (hs : Sub L L' := by repeat (first | exact trivial | refine ⟨rfl, ?_⟩)) : KX K C L H := KX.go h hs
theorem kh {C : Cx} {L L' : Sl} {H H' : List HA} {K : Act → World → Prop} (h : KX K C L' H') (idx : List Nat) (hs : Sub L L' := by repeat (first | exact trivial | refine ⟨rfl, ?_⟩)) (hi : n9 idx = true := by exact rfl) (he : sel H idx = H' := by exact rfl) : KX K C L H := KX.goH h hs idx hi he
theorem wk {P : Program} {ops : Array Oper} {Q : Exit → Act → World → Prop} {C : Cx} {L : Sl} {H : List HA} {rest : List Oper} {o : Oper} {d : Nat} (h : WL P ops Q C ((d, undef) :: L) H rest) (hw : m5 ops L o = some false := by exact rfl) (hd : o.dst = some d := by exact rfl) (hn : Nat.blt d C.n = true := by exact rfl) : WL P ops Q C L H (o :: rest) := WL.skip hw hd hn h
theorem wm {P : Program} {ops : Array Oper} {Q : Exit → Act → World → Prop} {C : Cx} {L : Sl} {H : List HA} {rest : List Oper} {x : Operand} {ty : TypeId} {p : String} {e : Array Edge} {g : Option (Nat × Bool)} {v : Value} {d : Nat} (h : WL P ops Q C ((d, v) :: L) H rest) (hx : ev L x = some v := by exact rfl) (hw : m5 ops L ⟨some d, .move x, ty, p, e, g⟩ = some true := by exact rfl) (hn : Nat.blt d C.n = true := by exact rfl) : WL P ops Q C L H (⟨some d, .move x, ty, p, e, g⟩ :: rest) := WL.val (OV.move hx) hw rfl hn h
theorem wa {P : Program} {ops : Array Oper} {Q : Exit → Act → World → Prop} {C : Cx} {L : Sl} {H : List HA} {rest : List Oper} {x : Operand} {ty : TypeId} {p : String} {e : Array Edge} {g : Option (Nat × Bool)} {v : Value} {d : Nat} (h : WL P ops Q C ((d, v) :: L) H rest) (hx : ev L x = some v := by exact rfl) (hw : m5 ops L ⟨some d, .assign x, ty, p, e, g⟩ = some true := by exact rfl) (hn : Nat.blt d C.n = true := by exact rfl) : WL P ops Q C L H (⟨some d, .assign x, ty, p, e, g⟩ :: rest) := WL.val (OV.assign hx) hw rfl hn h
theorem fv {P : Program} {ops : Array Oper} {T : World → k7 → Act → Prop} {C : Cx} {L : FSl} {H : List HA} {zl : List (Nat × Obj)} {k : Nat} {rest : List Oper} {o : Oper} {v : Value} {d : Nat} (hv : ∀ β, OV P C (L β) H o v) (h : FL P ops T C (fun β => (d, v) :: L β) H zl (k + 1) rest) (hz : r8 zl k = none := by exact rfl) (hw : ∀ β, m5 ops (L β) o = some true := by exact fun _ => rfl) (hd : o.dst = some d := by exact rfl) (hn : Nat.blt d C.n = true := by exact rfl) : FL P ops T C L H zl k (o :: rest) := FL.val hv hz hw hd hn h
end Go.Proofs.YtohnchdnkbadaaaDoor
set_option maxRecDepth 100000
namespace Go.Proofs.YtohnchdnkbadaaaDoor
open Go Go.RowKit
theorem an6 : (Tryd.prog.underlying 5).isSome = true := by kernel_rfl
theorem b7 : l3 Tryd.prog 222 1 = some 1 := by kernel_rfl
theorem b8 : aas Tryd.prog 3 = true := by kernel_rfl
theorem aav : l3 Tryd.prog 222 0 = some 0 := by kernel_rfl
theorem q7 : aas Tryd.prog 9 = true := by kernel_rfl
theorem t0 : ao1 Tryd.prog 9 = true := by kernel_rfl
theorem g8 : Tryd.prog.follows .mixedOrders = true := by kernel_rfl
theorem ado : Program.concrete Tryd.prog 26 = true := by kernel_rfl
def aiu (r_0 : List UInt8) (r_1 : Int) (K : Int → Bool → Prop) : Prop :=
 (if (decide (r_1 < (r_0.length : Int))) = true then
  (0 ≤ r_1 ∧ r_1 < r_0.length) ∧
  K ((r_0.getD r_1.toNat 0).toNat : Int) true
 else
  K 0 false)
theorem aqn (b : Nat) (r_0 : List UInt8) (r_1 : Int) (K : Int → Bool → Prop) (h : aiu r_0 r_1 K) :
  c9 Tryd.prog 178 [zP b] [(b, .cells [st r_0, zI r_1].toArray 222 (0, 0))] [] (fun o => (∃ (v : Int) (v_1' : Bool), K v v_1' ∧ o = .ret (Value.tuple #[zU v, zB v_1']) []) ∨ (False)) := by
 unfold aiu at h
 refine b5 (n := 23) (L0 := [(0, zP b)]) Tryd.func178 rfl rfl rfl rfl (fun w0 M Q hE => ?_)
 refine a6 (fun _ hK => ?_)
 refine a4 ?_
 refine wa ?_
 refine wa ?_
 refine WL.nil ?_
 refine kg (hK [(0, zP b)] _ ?_)
 refine a6 (fun _ hK_1' => ?_)
 refine a6 (fun _ hK_2' => ?_)
 refine o5 9 [] g8 (by kernel_rfl) rfl (fun T hT => ?_)
 refine fv (fun _ => OV.move rfl) ?_
 refine fv (fun _ => OV.nilCheck rfl) ?_
 refine fv (fun _ => OV.fieldAddr0 rfl b7) ?_
 refine fv (fun _ => OV.load rfl (At.ro 0 rfl) rfl b8) ?_
 refine fv (fun _ => OV.move rfl) ?_
 refine fv (fun _ => OV.nilCheck rfl) ?_
 refine fv (fun _ => OV.fieldAddr0 rfl aav) ?_
 refine fv (fun _ => OV.load rfl (At.ro 0 rfl) rfl q7) ?_
 refine fv (fun _ => OV.len rfl t0) ?_
 refine FL.weak (L' := fun γ => [(0, zP b), (7, zI r_1), (12, zI (r_0.length : Int))]) (fun γ => ⟨rfl, rfl, rfl, trivial⟩) (FL.nil (hT (fun γ => [(0, zP b), (7, zI r_1), (12, zI (r_0.length : Int))]) (fun γ => ?_)))
 refine wv (OV.lss rfl rfl) ?_
 refine WL.nil ?_
 refine kg (hK_2' [(0, zP b), (13, zB (decide (r_1 < (r_0.length : Int))))] _ ?_)
 refine c6 (b := decide (r_1 < (r_0.length : Int))) rfl (fun hb => ?_) (fun hb => ?_)
 ·replace h := k9 h hb
  refine a6 (fun _ hK_3' => ?_)
  refine o5 8 [] g8 (by kernel_rfl) rfl (fun T_1' hT_1' => ?_)
  refine fv (fun _ => OV.move rfl) ?_
  refine fv (fun _ => OV.nilCheck rfl) ?_
  refine fv (fun _ => OV.fieldAddr0 rfl aav) ?_
  refine fv (fun _ => OV.load rfl (At.ro 0 rfl) rfl q7) ?_
  refine fv (fun _ => OV.move rfl) ?_
  refine fv (fun _ => OV.nilCheck rfl) ?_
  refine fv (fun _ => OV.fieldAddr0 rfl b7) ?_
  refine fv (fun _ => OV.load rfl (At.ro 0 rfl) rfl b8) ?_
  refine FL.weak (L' := fun γ => [(17, st r_0), (21, zI r_1)]) (fun γ => ⟨rfl, rfl, trivial⟩) (FL.nil (hT_1' (fun γ => [(17, st r_0), (21, zI r_1)]) (fun γ => ?_)))
  obtain ⟨o, h⟩ := h
  refine wv (OV.index rfl rfl t0 o) ?_
  refine wa ?_
  refine wa ?_
  refine WL.nil ?_
  refine kg (hK_3' [(2, zU ((r_0.getD r_1.toNat 0).toNat : Int)), (3, zB true)] _ ?_)
  refine c7 ?_
  exact hE.ret [] rfl rfl (.inl ⟨_, _, h, rfl⟩) (e9.of2 rfl (RV.tmp rfl) (RV.tmp rfl))
 ·replace h := l0 h hb
  refine d4 ?_
  refine KX.go (hK_1' [] _ ?_) trivial
  refine a6 (fun _ hK_4' => ?_)
  refine a4 ?_
  refine wa ?_
  refine wa ?_
  refine WL.nil ?_
  refine kg (hK_4' [(2, zU 0), (3, zB false)] _ ?_)
  refine c7 ?_
  exact hE.ret [] rfl rfl (.inl ⟨_, _, h, rfl⟩) (e9.of2 rfl (RV.tmp rfl) (RV.tmp rfl))
def am8 (_ : Value) (at0 : Int) (_ : Prop) (KP : Value → Prop) : Prop :=
 KP (Value.iface 26 (Value.agg [zI 10, zI at0, st []].toArray))
theorem ap8  (r : Value) (at0 : Int) (K : Prop) (KP : Value → Prop) (h : am8 r at0 K KP) :
  c9 Tryd.prog 179 [r, zI at0] [] [] (fun o => (K ∧ o = .ret (Value.tuple #[]) []) ∨ (∃ (pv : Value), KP pv ∧ o = .pan [{ v := pv, recovered := false }] [])) := by
 unfold am8 at h
 refine b5 (n := 7) (L0 := [(0, r), (1, zI at0)]) Tryd.func179 rfl rfl rfl rfl (fun w0 M Q hE => ?_)
 refine a4 ?_
 refine wm ?_
 refine wv (OV.build rfl (cs := [zI 10, zI at0, st []]) rfl) ?_
 refine wv (OV.iface rfl ado) ?_
 refine WL.panic rfl rfl ?_
 exact hE.pan [] rfl rfl (.inr ⟨_, h, rfl⟩)
end Go.Proofs.YtohnchdnkbadaaaDoor
namespace Go.Proofs.YtohnchdnkbadaaaDoor
open Go Go.RowKit
def a7 (t : List UInt8) (a : Int) : Int := if a < t.length then ((t.getD a.toNat 0).toNat : Int) else 0
def c8 (t : List UInt8) (a : Int) : Bool := decide (a < t.length)
def adk (c : Int) : Int := if 48 ≤ c ∧ c ≤ 57 then c - 48 else if 97 ≤ c ∧ c ≤ 102 then c - 87 else -1
set_option maxRecDepth 100000 in
theorem aak (b : Nat) (t : List UInt8) (a : Int) (h : 0 ≤ a) : c9 Tryd.prog 178 [.pointer (some ⟨b, 0, none⟩)] [(b, .cells [st t, .int .i64 a].toArray 222 (0, 0))] [] (Ret (.tuple #[.int .u8 (a7 t a), .bool (c8 t a)]) []) := by
 refine (aqn b t a (fun r o => r = a7 t a ∧ o = c8 t a) ?_).weak ?_
 ·unfold aiu a7 c8
  by_cases hlt : a < t.length <;> simp [hlt, h]
 ·rintro o (⟨v, v2, ⟨rfl, rfl⟩, rfl⟩ | h)
  ·rfl
  ·exact h.elim
set_option maxRecDepth 100000 in
theorem abp (b : Nat) (p : Int) : c9 Tryd.prog 179 [.pointer (some ⟨b, 0, none⟩), .int .i64 p] [] [] (fun o => o = .pan [{ v := j4 10 p, recovered := false }] []) := by
 refine (ap8 _ p False (fun v => v = j4 10 p) rfl).weak ?_
 rintro o (⟨h, _⟩ | ⟨v, rfl, rfl⟩)
 ·exact h.elim
 ·rfl
def ad2 (t : List UInt8) (a : Int) : Except Int (Int × Int) :=
 if a < t.length ∧ 0 ≤ adk (a7 t a) then .ok (adk (a7 t a), a + 1) else .error a
def afm (t : List UInt8) (a : Int) : Except Int (Int × Int) :=
 if a < t.length then
  let c := a7 t a
  if c = 110 then .ok (10, a + 1)
  else if c = 114 then .ok (13, a + 1)
  else if c = 116 then .ok (9, a + 1)
  else if c = 120 then match ad2 t (a + 1) with
   | .ok (hi, p) => match ad2 t p with
    | .ok (lo, q) => .ok (16 * hi + lo, q)
    | .error e => .error e
   | .error e => .error e
  else if c < 32 ∨ 126 < c ∨ (48 ≤ c ∧ c ≤ 57) ∨ (97 ≤ c ∧ c ≤ 122) ∨ (65 ≤ c ∧ c ≤ 90) then .error a
  else .ok (c, a + 1)
 else .error a
def aca (t : List UInt8) (a : Int) (bar : List UInt8) : Except Int (Int × Int) :=
 if a < t.length then
  let c := a7 t a
  if c = 92 then afm t (a + 1)
  else if c < 32 ∨ 126 < c ∨ bar.contains c.toNat.toUInt8 = true then .error a
  else .ok (c, a + 1)
 else .error a
end Go.Proofs.YtohnchdnkbadaaaDoor
set_option maxRecDepth 100000
namespace Go.Proofs.YtohnchdnkbadaaaDoor
open Go Go.RowKit
theorem y6 : n5 Tryd.prog 178 = true := by kernel_rfl
theorem agq : n5 Tryd.prog 135 = true := by kernel_rfl
theorem aaq : n5 Tryd.prog 179 = true := by kernel_rfl
theorem i8 : r7 Tryd.prog 3 1 = true := by kernel_rfl
theorem ans : (Tryd.prog.underlying 3).isSome = true := by kernel_rfl
theorem alg : RowT Tryd.prog 214 6 := ⟨by kernel_rfl, by kernel_rfl⟩
theorem ady : aqz Tryd.prog 214 213 3 2 = true := by kernel_rfl
theorem adp : RowT Tryd.prog 213 2 := ⟨by kernel_rfl, by kernel_rfl⟩
theorem acr : aay Tryd.prog 213 = some [zU 0, zU 0] := by kernel_rfl
theorem ack : r7 Tryd.prog 213 2 = true := by kernel_rfl
theorem aa6 : l3 Tryd.prog 213 0 = some 0 := by kernel_rfl
theorem aal : aas Tryd.prog 5 = true := by kernel_rfl
theorem aa1 : l3 Tryd.prog 213 1 = some 1 := by kernel_rfl
theorem ahd : n5 Tryd.prog 182 = true := by kernel_rfl
theorem amj : n5 Tryd.prog 181 = true := by kernel_rfl
def ak0 (r_0 : List UInt8) (r_1 : Int) (K : Int → (List UInt8) → Int → Prop) (KP : Value → (List UInt8) → Int → Prop) : Prop :=
 (0 ≤ r_1) ∧
 (if ((!(c8 r_0 r_1)) || (decide (Lib.indexByte ([48, 49, 50, 51, 52, 53, 54, 55, 56, 57, 97, 98, 99, 100, 101, 102] : List UInt8) (a7 r_0 r_1).toNat.toUInt8 < 0))) = true then
  KP (j4 10 r_1) r_0 r_1
 else
  (I64 (r_1 + 1)) ∧
  K (IntKind.wrap .u8 (Lib.indexByte ([48, 49, 50, 51, 52, 53, 54, 55, 56, 57, 97, 98, 99, 100, 101, 102] : List UInt8) (a7 r_0 r_1).toNat.toUInt8)) r_0 (r_1 + 1))
theorem art (b : Nat) (r_0 : List UInt8) (r_1 : Int) (K : Int → (List UInt8) → Int → Prop) (KP : Value → (List UInt8) → Int → Prop) (h : ak0 r_0 r_1 K KP) :
  c9 Tryd.prog 182 [zP b] [] [HA.blk b (.cells [st r_0, zI r_1].toArray 222 (0, 0))] (fun o => (∃ (v : Int) (d_0 : List UInt8) (d_1 : Int), K v d_0 d_1 ∧ o = .ret (zU v) [HA.blk b (.cells [st d_0, zI d_1].toArray 222 (0, 0))]) ∨ (∃ (pv : Value) (d_0 : List UInt8) (d_1 : Int), KP pv d_0 d_1 ∧ o = .pan [{ v := pv, recovered := false }] [HA.blk b (.cells [st d_0, zI d_1].toArray 222 (0, 0))])) := by
 unfold ak0 at h
 refine b5 (n := 34) (L0 := [(0, zP b)]) Tryd.func182 rfl rfl rfl rfl (fun w0 M Q hE => ?_)
 refine a6 (fun _ hK => ?_)
 refine a4 ?_
 refine wa ?_
 refine WL.nil ?_
 refine kg (hK [(0, zP b)] _ ?_)
 refine a6 (fun _ hK_1' => ?_)
 refine a4 ?_
 refine wm ?_
 obtain ⟨o, h⟩ := h
 refine WL.call (A := []) y6 rfl (aak b r_0 r_1 o) rfl ⟨.inl ⟨0, rfl⟩, trivial⟩ rfl rfl ?_
 refine wm ?_
 refine wv (OV.extract 0 rfl rfl) ?_
 refine wv (OV.extract 1 rfl rfl) ?_
 refine wa ?_
 refine wa ?_
 refine WL.nil ?_
 refine kg (hK_1' [(0, zP b), (3, zU (a7 r_0 r_1)), (4, zB (c8 r_0 r_1))] _ ?_)
 refine a6 (fun _ hK_2' => ?_)
 refine a4 ?_
 refine wm ?_
 refine WL.call (A := []) agq rfl (acp ([48, 49, 50, 51, 52, 53, 54, 55, 56, 57, 97, 98, 99, 100, 101, 102] : List UInt8) (a7 r_0 r_1)) rfl trivial rfl rfl ?_
 refine wa ?_
 refine WL.nil ?_
 refine kg (hK_2' [(0, zP b), (4, zB (c8 r_0 r_1)), (5, zI (Lib.indexByte ([48, 49, 50, 51, 52, 53, 54, 55, 56, 57, 97, 98, 99, 100, 101, 102] : List UInt8) (a7 r_0 r_1).toNat.toUInt8))] _ ?_)
 refine a6 (fun _ hK_3' => ?_)
 refine a6 (fun _ hK_4' => ?_)
 refine a4 ?_
 refine wm ?_
 refine wv (OV.not rfl) ?_
 refine wm ?_
 refine WL.cut 3 [(0, zP b), (5, zI (Lib.indexByte ([48, 49, 50, 51, 52, 53, 54, 55, 56, 57, 97, 98, 99, 100, 101, 102] : List UInt8) (a7 r_0 r_1).toNat.toUInt8)), (18, zB ((!(c8 r_0 r_1)) || (decide (Lib.indexByte ([48, 49, 50, 51, 52, 53, 54, 55, 56, 57, 97, 98, 99, 100, 101, 102] : List UInt8) (a7 r_0 r_1).toNat.toUInt8 < 0))))] ?_ (fun K0_5' hK_5' => ?_)
 rotate_left
 ·refine WL.split (!(c8 r_0 r_1)) (fun hb => ?_) (fun hb => ?_)
  ·refine WL.set 15 rfl (congrArg zB hb) ?_
   refine wk ?_
   refine wk ?_
   refine wv (OV.pickT rfl rfl) ?_
   refine WL.set 18 rfl (oT (v := decide (Lib.indexByte ([48, 49, 50, 51, 52, 53, 54, 55, 56, 57, 97, 98, 99, 100, 101, 102] : List UInt8) (a7 r_0 r_1).toNat.toUInt8 < 0)) hb) ?_
   exact WL.end_ (kg hK_5')
  ·refine WL.set 15 rfl (congrArg zB hb) ?_
   refine wm ?_
   refine wv (OV.lss rfl rfl) ?_
   refine wv (OV.pickF rfl rfl) ?_
   refine WL.set 18 rfl (oF (v := decide (Lib.indexByte ([48, 49, 50, 51, 52, 53, 54, 55, 56, 57, 97, 98, 99, 100, 101, 102] : List UInt8) (a7 r_0 r_1).toNat.toUInt8 < 0)) hb) ?_
   exact WL.end_ (kg hK_5')
 refine WL.nil ?_
 refine kg (hK_4' [(0, zP b), (5, zI (Lib.indexByte ([48, 49, 50, 51, 52, 53, 54, 55, 56, 57, 97, 98, 99, 100, 101, 102] : List UInt8) (a7 r_0 r_1).toNat.toUInt8)), (18, zB ((!(c8 r_0 r_1)) || (decide (Lib.indexByte ([48, 49, 50, 51, 52, 53, 54, 55, 56, 57, 97, 98, 99, 100, 101, 102] : List UInt8) (a7 r_0 r_1).toNat.toUInt8 < 0))))] _ ?_)
 refine c6 (b := (!(c8 r_0 r_1)) || (decide (Lib.indexByte ([48, 49, 50, 51, 52, 53, 54, 55, 56, 57, 97, 98, 99, 100, 101, 102] : List UInt8) (a7 r_0 r_1).toNat.toUInt8 < 0))) rfl (fun hb => ?_) (fun hb => ?_)
 ·replace h := k9 h hb
  refine a4 ?_
  refine wm ?_
  refine wm ?_
  refine wv (OV.nilCheck rfl) ?_
  refine wv (OV.fieldAddr0 rfl b7) ?_
  refine wv (OV.load rfl (At.own 0 rfl) rfl b8) ?_
  refine WL.callS aaq rfl (abp b r_1) rfl trivial rfl rfl (fun r H' hS => by cases hS) (fun c H' hS => ?_)
  cases hS
  exact hE.pan [0] rfl rfl (.inr ⟨_, _, _, h, rfl⟩)
 ·replace h := l0 h hb
  refine d4 ?_
  refine kg (hK_3' [(0, zP b), (5, zI (Lib.indexByte ([48, 49, 50, 51, 52, 53, 54, 55, 56, 57, 97, 98, 99, 100, 101, 102] : List UInt8) (a7 r_0 r_1).toNat.toUInt8))] _ ?_)
  refine a6 (fun _ hK_6' => ?_)
  refine a4 ?_
  refine wm ?_
  refine wv (OV.nilCheck rfl) ?_
  refine wv (OV.fieldAddr0 rfl b7) ?_
  refine wv (OV.load rfl (At.own 0 rfl) rfl b8) ?_
  obtain ⟨o_2', h⟩ := h
  refine wv (OV.add rfl rfl o_2') ?_
  refine wv (OV.nilCheck rfl) ?_
  refine wv (OV.fieldAddr0 rfl b7) ?_
  refine WL.store (vs := [zI (r_1 + 1)]) (cs' := [st r_0, zI (r_1 + 1)]) 0 rfl rfl rfl rfl i8 (Nat.le_of_ble_eq_true rfl) rfl rfl rfl ?_
  refine WL.nil ?_
  refine kg (hK_6' [(5, zI (Lib.indexByte ([48, 49, 50, 51, 52, 53, 54, 55, 56, 57, 97, 98, 99, 100, 101, 102] : List UInt8) (a7 r_0 r_1).toNat.toUInt8))] _ ?_)
  refine a6 (fun _ hK_7' => ?_)
  refine a4 ?_
  refine wm ?_
  refine wv (OV.conv rfl ans Tryd.underlying5) ?_
  refine wa ?_
  refine WL.nil ?_
  refine kg (hK_7' [(2, zU (IntKind.wrap .u8 (Lib.indexByte ([48, 49, 50, 51, 52, 53, 54, 55, 56, 57, 97, 98, 99, 100, 101, 102] : List UInt8) (a7 r_0 r_1).toNat.toUInt8)))] _ ?_)
  refine c7 ?_
  exact hE.ret [0] rfl rfl (.inl ⟨_, _, _, h, rfl⟩) (e9.of1 rfl (RV.tmp rfl))
theorem aq2 (c : Int) (h : 0 ≤ c ∧ c < 256) : Lib.indexByte [48, 49, 50, 51, 52, 53, 54, 55, 56, 57, 97, 98, 99, 100, 101, 102] c.toNat.toUInt8 = adk c := by
 obtain ⟨n, hn, rfl⟩ := al1 h
 simp only [Int.toNat_natCast]
 revert n; decide
theorem acl (t : List UInt8) (a : Int) : 0 ≤ a7 t a ∧ a7 t a < 256 := by
 unfold a7
 split
 ·have := (t.getD a.toNat 0).toNat_lt; omega
 ·omega
theorem ah3 {c : Int} : -1 ≤ adk c ∧ adk c ≤ 15 := by unfold adk; split <;> (try split) <;> omega
abbrev aek (b : Nat) (t : List UInt8) (a : Int) : HA := .blk b (.cells [st t, .int .i64 a].toArray 222 (0, 0))
def ap2 (b : Nat) (t : List UInt8) (enc : Int → Value) (m : Except Int (Int × Int)) : Out → Prop := fun o =>
 (∃ r q, m = .ok (r, q) ∧ o = .ret (enc r) [aek b t q]) ∨ (∃ e q, m = .error e ∧ o = .pan [{ v := j4 10 e, recovered := false }] [aek b t q])
theorem aky (b : Nat) (t : List UInt8) (a : Int) (h : 0 ≤ a ∧ a ≤ t.length ∧ t.length ≤ 9223372036854775807) : c9 Tryd.prog 182 [.pointer (some ⟨b, 0, none⟩)] [] [aek b t a] (ap2 b t (fun r => .int .u8 r) (ad2 t a)) := by
 refine (art b t a (fun r t' q => t' = t ∧ ad2 t a = .ok (r, q)) (fun v t' _ => t' = t ∧ ∃ e, ad2 t a = .error e ∧ v = j4 10 e) ?_).weak ?_
 ·have hb := acl t a
  have hr := ah3 (c := a7 t a)
  unfold ak0
  rw [aq2 _ hb]
  unfold ad2 c8
  refine ⟨h.1, ?_⟩
  by_cases h1 : a < t.length ∧ 0 ≤ adk (a7 t a)
  ·rw [if_neg (by simp; omega), IntWalk.u8_in _ (by omega), if_pos h1]
   exact ⟨⟨by omega, by omega⟩, rfl, rfl⟩
  ·rw [if_pos (by simp; omega), if_neg h1]
   exact ⟨rfl, _, rfl, rfl⟩
 ·rintro o (⟨r, t', q, ⟨rfl, hm⟩, rfl⟩ | ⟨v, t', q, ⟨rfl, e, hm, rfl⟩, rfl⟩)
  ·exact .inl ⟨r, q, hm, rfl⟩
  ·exact .inr ⟨e, q, hm, rfl⟩
def aey (r_0 : List UInt8) (r_1 : Int) (K : Int → (List UInt8) → Int → Prop) (KP : Value → (List UInt8) → Int → Prop) : Prop :=
 (0 ≤ r_1) ∧
 (if (!(c8 r_0 r_1)) = true then
  KP (j4 10 r_1) r_0 r_1
 else
  (if (decide (110 = a7 r_0 r_1)) = true then
   (I64 (r_1 + 1)) ∧
   K 10 r_0 (r_1 + 1)
  else
   (if (decide (114 = a7 r_0 r_1)) = true then
    (I64 (r_1 + 1)) ∧
    K 13 r_0 (r_1 + 1)
   else
    (if (decide (116 = a7 r_0 r_1)) = true then
     (I64 (r_1 + 1)) ∧
     K 9 r_0 (r_1 + 1)
    else
     (if (decide (a7 r_0 r_1 = 120)) = true then
      (I64 (r_1 + 1)) ∧
      (0 ≤ r_1 + 1 ∧ r_1 + 1 ≤ r_0.length ∧ r_0.length ≤ 9223372036854775807) ∧
      (∀ (r_1' : Int) (at0 : Int), ad2 r_0 (r_1 + 1) = .ok (r_1', at0) →
       (0 ≤ at0 ∧ at0 ≤ r_0.length ∧ r_0.length ≤ 9223372036854775807) ∧
       (∀ (r_2' : Int) (at0_2' : Int), ad2 r_0 at0 = .ok (r_2', at0_2') →
        K (bits .or .u8 (IntKind.wrap .u8 (r_1' * 2 ^ (4 : Int).toNat)) r_2') r_0 at0_2') ∧
       (∀ (e_1' : Int) (at0_3' : Int), ad2 r_0 at0 = .error e_1' →
        KP (j4 10 e_1') r_0 at0_3')) ∧
      (∀ (e : Int) (at0_1' : Int), ad2 r_0 (r_1 + 1) = .error e →
       KP (j4 10 e) r_0 at0_1')
     else
      (if (((((decide (a7 r_0 r_1 < 32)) || (decide (126 < a7 r_0 r_1))) || ((decide (48 ≤ a7 r_0 r_1)) && (decide (a7 r_0 r_1 ≤ 57)))) || ((decide (97 ≤ a7 r_0 r_1)) && (decide (a7 r_0 r_1 ≤ 122)))) || ((decide (65 ≤ a7 r_0 r_1)) && (decide (a7 r_0 r_1 ≤ 90)))) = true then
       KP (j4 10 r_1) r_0 r_1
      else
       (I64 (r_1 + 1)) ∧
       K (a7 r_0 r_1) r_0 (r_1 + 1)))))))
theorem ant (b : Nat) (te : TypeId) (fre : Nat × Nat) (r_0 : List UInt8) (r_1 : Int) (K : Int → (List UInt8) → Int → Prop) (KP : Value → (List UInt8) → Int → Prop) (h : aey r_0 r_1 K KP) :
  c9 Tryd.prog 181 [zP b] [(1, .cells [zU 110, zU 10, zU 114, zU 13, zU 116, zU 9].toArray te fre)] [HA.blk b (.cells [st r_0, zI r_1].toArray 222 (0, 0))] (fun o => (∃ (v : Int) (d_0 : List UInt8) (d_1 : Int), K v d_0 d_1 ∧ o = .ret (zU v) [HA.blk b (.cells [st d_0, zI d_1].toArray 222 (0, 0))]) ∨ (∃ (pv : Value) (d_0 : List UInt8) (d_1 : Int), KP pv d_0 d_1 ∧ o = .pan [{ v := pv, recovered := false }] [HA.blk b (.cells [st d_0, zI d_1].toArray 222 (0, 0))])) := by
 unfold aey at h
 refine b5 (n := 99) (L0 := [(0, zP b)]) Tryd.func181 rfl rfl rfl rfl (fun w0 M Q hE => ?_)
 refine a6 (fun _ hK => ?_)
 refine a4 ?_
 refine wa ?_
 refine WL.nil ?_
 refine kg (hK [(0, zP b)] _ ?_)
 refine a6 (fun _ hK_1' => ?_)
 refine a4 ?_
 refine wm ?_
 obtain ⟨o, h⟩ := h
 refine WL.call (A := []) y6 rfl (aak b r_0 r_1 o) rfl ⟨.inl ⟨0, rfl⟩, trivial⟩ rfl rfl ?_
 refine wm ?_
 refine wv (OV.extract 0 rfl rfl) ?_
 refine wv (OV.extract 1 rfl rfl) ?_
 refine wa ?_
 refine wa ?_
 refine WL.nil ?_
 refine kg (hK_1' [(0, zP b), (3, zU (a7 r_0 r_1)), (4, zB (c8 r_0 r_1))] _ ?_)
 refine a6 (fun _ hK_2' => ?_)
 refine a6 (fun _ hK_3' => ?_)
 refine a4 ?_
 refine wm ?_
 refine wv (OV.not rfl) ?_
 refine WL.nil ?_
 refine kg (hK_3' [(0, zP b), (3, zU (a7 r_0 r_1)), (14, zB (!(c8 r_0 r_1)))] _ ?_)
 refine c6 (b := !(c8 r_0 r_1)) rfl (fun hb => ?_) (fun hb => ?_)
 ·replace h := k9 h hb
  refine a4 ?_
  refine wm ?_
  refine wm ?_
  refine wv (OV.nilCheck rfl) ?_
  refine wv (OV.fieldAddr0 rfl b7) ?_
  refine wv (OV.load rfl (At.own 0 rfl) rfl b8) ?_
  refine WL.callS aaq rfl (abp b r_1) rfl trivial rfl rfl (fun r H' hS => by cases hS) (fun c H' hS => ?_)
  cases hS
  exact hE.pan [0] rfl rfl (.inr ⟨_, _, _, h, rfl⟩)
 ·replace h := l0 h hb
  refine d4 ?_
  refine kg (hK_2' [(0, zP b), (3, zU (a7 r_0 r_1))] _ ?_)
  refine a6 (fun _ hK_4' => ?_)
  refine a6 (fun _ hK_5' => ?_)
  refine a4 ?_
  refine wv (OV.loadR rfl (At.ro 0 rfl) alg) ?_
  refine wm ?_
  refine WL.nil ?_
  refine kg (hK_5' [(0, zP b), (3, zU (a7 r_0 r_1)), (21, Value.agg [zU 110, zU 10, zU 114, zU 13, zU 116, zU 9].toArray), (22, zI 0)] _ ?_)
  refine f0 ?_
  refine an7 4 ?_
  refine RC.succ (fun K0_6' hK_6' => ?_)
  refine a6 (fun _ hK_7' => ?_)
  refine a4 ?_
  refine wv (OV.lss rfl rfl) ?_
  refine WL.nil ?_
  refine kg (hK_7' [(0, zP b), (3, zU (a7 r_0 r_1)), (21, Value.agg [zU 110, zU 10, zU 114, zU 13, zU 116, zU 9].toArray), (22, zI 0), (23, zB true)] _ ?_)
  refine a6 (fun _ hK_8' => ?_)
  refine t4 rfl ?_
  refine d4 ?_
  refine kg (hK_8' [(0, zP b), (3, zU (a7 r_0 r_1)), (21, Value.agg [zU 110, zU 10, zU 114, zU 13, zU 116, zU 9].toArray), (22, zI 0)] _ ?_)
  refine a6 (fun _ hK_9' => ?_)
  refine f0 ?_
  refine a6 (fun _ hK_10' => ?_)
  refine a4 ?_
  refine wv (OV.indexM (vs := [zU 110, zU 10]) rfl rfl ady (by decide) adp rfl) ?_
  refine WL.make (MV.alloc acr) rfl rfl rfl (fun b_1' => ?_)
  refine WL.storeW (vs := [zU 110, zU 10]) 0 rfl rfl rfl rfl rfl ack rfl rfl rfl ?_
  refine WL.nil ?_
  refine kg (hK_10' [(0, zP b), (3, zU (a7 r_0 r_1)), (6, zP b_1'), (21, Value.agg [zU 110, zU 10, zU 114, zU 13, zU 116, zU 9].toArray), (22, zI 0)] _ ?_)
  refine a6 (fun _ hK_11' => ?_)
  refine a4 ?_
  refine wv (OV.fieldAddr0 rfl aa6) ?_
  refine wv (OV.load rfl (At.own 0 rfl) rfl aal) ?_
  refine wm ?_
  refine wv (OV.eql rfl rfl) ?_
  refine WL.nil ?_
  refine kg (hK_11' [(0, zP b), (3, zU (a7 r_0 r_1)), (6, zP b_1'), (21, Value.agg [zU 110, zU 10, zU 114, zU 13, zU 116, zU 9].toArray), (22, zI 0), (28, zB (decide (110 = a7 r_0 r_1)))] _ ?_)
  refine c6 (b := decide (110 = a7 r_0 r_1)) rfl (fun hb => ?_) (fun hb => ?_)
  ·replace h := k9 h hb
   refine a6 (fun _ hK_12' => ?_)
   refine a4 ?_
   refine wm ?_
   refine wv (OV.nilCheck rfl) ?_
   refine wv (OV.fieldAddr0 rfl b7) ?_
   refine wv (OV.load rfl (At.own 1 rfl) rfl b8) ?_
   obtain ⟨o_1', h⟩ := h
   refine wv (OV.add rfl rfl o_1') ?_
   refine wv (OV.nilCheck rfl) ?_
   refine wv (OV.fieldAddr0 rfl b7) ?_
   refine WL.store (vs := [zI (r_1 + 1)]) (cs' := [st r_0, zI (r_1 + 1)]) 1 rfl rfl rfl rfl i8 (Nat.le_of_ble_eq_true rfl) rfl rfl rfl ?_
   refine WL.nil ?_
   refine kg (hK_12' [(6, zP b_1')] _ ?_)
   refine a6 (fun _ hK_13' => ?_)
   refine a4 ?_
   refine wv (OV.fieldAddr0 rfl aa1) ?_
   refine wv (OV.load rfl (At.own 0 rfl) rfl aal) ?_
   refine wa ?_
   refine WL.nil ?_
   refine kg (hK_13' [(2, zU 10)] _ ?_)
   refine c7 ?_
   exact hE.ret [1] rfl rfl (.inl ⟨_, _, _, h, rfl⟩) (e9.of1 rfl (RV.tmp rfl))
  ·replace h := l0 h hb
   refine d4 ?_
   refine kg (hK_9' [(0, zP b), (3, zU (a7 r_0 r_1)), (21, Value.agg [zU 110, zU 10, zU 114, zU 13, zU 116, zU 9].toArray), (22, zI 0)] _ ?_)
   refine a4 ?_
   refine wv (OV.add rfl rfl ⟨by decide, by decide⟩) ?_
   refine wm ?_
   refine WL.nil ?_
   refine kg (hK_6' [(0, zP b), (3, zU (a7 r_0 r_1)), (21, Value.agg [zU 110, zU 10, zU 114, zU 13, zU 116, zU 9].toArray), (22, zI 1)] _ ?_)
   refine RC.succ (fun K0_14' hK_14' => ?_)
   refine a6 (fun _ hK_15' => ?_)
   refine a4 ?_
   refine wv (OV.lss rfl rfl) ?_
   refine WL.nil ?_
   refine kg (hK_15' [(0, zP b), (3, zU (a7 r_0 r_1)), (21, Value.agg [zU 110, zU 10, zU 114, zU 13, zU 116, zU 9].toArray), (22, zI 1), (23, zB true)] _ ?_)
   refine a6 (fun _ hK_16' => ?_)
   refine t4 rfl ?_
   refine d4 ?_
   refine kg (hK_16' [(0, zP b), (3, zU (a7 r_0 r_1)), (21, Value.agg [zU 110, zU 10, zU 114, zU 13, zU 116, zU 9].toArray), (22, zI 1)] _ ?_)
   refine a6 (fun _ hK_17' => ?_)
   refine f0 ?_
   refine a6 (fun _ hK_18' => ?_)
   refine a4 ?_
   refine wv (OV.indexM (vs := [zU 114, zU 13]) rfl rfl ady (by decide) adp rfl) ?_
   refine WL.make (MV.alloc acr) rfl rfl rfl (fun b_2' => ?_)
   refine WL.storeW (vs := [zU 114, zU 13]) 0 rfl rfl rfl rfl rfl ack rfl rfl rfl ?_
   refine WL.nil ?_
   refine kg (hK_18' [(0, zP b), (3, zU (a7 r_0 r_1)), (6, zP b_2'), (21, Value.agg [zU 110, zU 10, zU 114, zU 13, zU 116, zU 9].toArray), (22, zI 1)] _ ?_)
   refine a6 (fun _ hK_19' => ?_)
   refine a4 ?_
   refine wv (OV.fieldAddr0 rfl aa6) ?_
   refine wv (OV.load rfl (At.own 0 rfl) rfl aal) ?_
   refine wm ?_
   refine wv (OV.eql rfl rfl) ?_
   refine WL.nil ?_
   refine kg (hK_19' [(0, zP b), (3, zU (a7 r_0 r_1)), (6, zP b_2'), (21, Value.agg [zU 110, zU 10, zU 114, zU 13, zU 116, zU 9].toArray), (22, zI 1), (28, zB (decide (114 = a7 r_0 r_1)))] _ ?_)
   refine c6 (b := decide (114 = a7 r_0 r_1)) rfl (fun hb => ?_) (fun hb => ?_)
   ·replace h := k9 h hb
    refine a6 (fun _ hK_20' => ?_)
    refine a4 ?_
    refine wm ?_
    refine wv (OV.nilCheck rfl) ?_
    refine wv (OV.fieldAddr0 rfl b7) ?_
    refine wv (OV.load rfl (At.own 2 rfl) rfl b8) ?_
    obtain ⟨o_2', h⟩ := h
    refine wv (OV.add rfl rfl o_2') ?_
    refine wv (OV.nilCheck rfl) ?_
    refine wv (OV.fieldAddr0 rfl b7) ?_
    refine WL.store (vs := [zI (r_1 + 1)]) (cs' := [st r_0, zI (r_1 + 1)]) 2 rfl rfl rfl rfl i8 (Nat.le_of_ble_eq_true rfl) rfl rfl rfl ?_
    refine WL.nil ?_
    refine kg (hK_20' [(6, zP b_2')] _ ?_)
    refine a6 (fun _ hK_21' => ?_)
    refine a4 ?_
    refine wv (OV.fieldAddr0 rfl aa1) ?_
    refine wv (OV.load rfl (At.own 0 rfl) rfl aal) ?_
    refine wa ?_
    refine WL.nil ?_
    refine kg (hK_21' [(2, zU 13)] _ ?_)
    refine c7 ?_
    exact hE.ret [2] rfl rfl (.inl ⟨_, _, _, h, rfl⟩) (e9.of1 rfl (RV.tmp rfl))
   ·replace h := l0 h hb
    refine d4 ?_
    refine kg (hK_17' [(0, zP b), (3, zU (a7 r_0 r_1)), (21, Value.agg [zU 110, zU 10, zU 114, zU 13, zU 116, zU 9].toArray), (22, zI 1)] _ ?_)
    refine a4 ?_
    refine wv (OV.add rfl rfl ⟨by decide, by decide⟩) ?_
    refine wm ?_
    refine WL.nil ?_
    refine kg (hK_14' [(0, zP b), (3, zU (a7 r_0 r_1)), (21, Value.agg [zU 110, zU 10, zU 114, zU 13, zU 116, zU 9].toArray), (22, zI 2)] _ ?_)
    refine RC.succ (fun K0_22' hK_22' => ?_)
    refine a6 (fun _ hK_23' => ?_)
    refine a4 ?_
    refine wv (OV.lss rfl rfl) ?_
    refine WL.nil ?_
    refine kg (hK_23' [(0, zP b), (3, zU (a7 r_0 r_1)), (21, Value.agg [zU 110, zU 10, zU 114, zU 13, zU 116, zU 9].toArray), (22, zI 2), (23, zB true)] _ ?_)
    refine a6 (fun _ hK_24' => ?_)
    refine t4 rfl ?_
    refine d4 ?_
    refine kg (hK_24' [(0, zP b), (3, zU (a7 r_0 r_1)), (21, Value.agg [zU 110, zU 10, zU 114, zU 13, zU 116, zU 9].toArray), (22, zI 2)] _ ?_)
    refine a6 (fun _ hK_25' => ?_)
    refine f0 ?_
    refine a6 (fun _ hK_26' => ?_)
    refine a4 ?_
    refine wv (OV.indexM (vs := [zU 116, zU 9]) rfl rfl ady (by decide) adp rfl) ?_
    refine WL.make (MV.alloc acr) rfl rfl rfl (fun b_3' => ?_)
    refine WL.storeW (vs := [zU 116, zU 9]) 0 rfl rfl rfl rfl rfl ack rfl rfl rfl ?_
    refine WL.nil ?_
    refine kg (hK_26' [(0, zP b), (3, zU (a7 r_0 r_1)), (6, zP b_3'), (21, Value.agg [zU 110, zU 10, zU 114, zU 13, zU 116, zU 9].toArray), (22, zI 2)] _ ?_)
    refine a6 (fun _ hK_27' => ?_)
    refine a4 ?_
    refine wv (OV.fieldAddr0 rfl aa6) ?_
    refine wv (OV.load rfl (At.own 0 rfl) rfl aal) ?_
    refine wm ?_
    refine wv (OV.eql rfl rfl) ?_
    refine WL.nil ?_
    refine kg (hK_27' [(0, zP b), (3, zU (a7 r_0 r_1)), (6, zP b_3'), (21, Value.agg [zU 110, zU 10, zU 114, zU 13, zU 116, zU 9].toArray), (22, zI 2), (28, zB (decide (116 = a7 r_0 r_1)))] _ ?_)
    refine c6 (b := decide (116 = a7 r_0 r_1)) rfl (fun hb => ?_) (fun hb => ?_)
    ·replace h := k9 h hb
     refine a6 (fun _ hK_28' => ?_)
     refine a4 ?_
     refine wm ?_
     refine wv (OV.nilCheck rfl) ?_
     refine wv (OV.fieldAddr0 rfl b7) ?_
     refine wv (OV.load rfl (At.own 3 rfl) rfl b8) ?_
     obtain ⟨o_3', h⟩ := h
     refine wv (OV.add rfl rfl o_3') ?_
     refine wv (OV.nilCheck rfl) ?_
     refine wv (OV.fieldAddr0 rfl b7) ?_
     refine WL.store (vs := [zI (r_1 + 1)]) (cs' := [st r_0, zI (r_1 + 1)]) 3 rfl rfl rfl rfl i8 (Nat.le_of_ble_eq_true rfl) rfl rfl rfl ?_
     refine WL.nil ?_
     refine kg (hK_28' [(6, zP b_3')] _ ?_)
     refine a6 (fun _ hK_29' => ?_)
     refine a4 ?_
     refine wv (OV.fieldAddr0 rfl aa1) ?_
     refine wv (OV.load rfl (At.own 0 rfl) rfl aal) ?_
     refine wa ?_
     refine WL.nil ?_
     refine kg (hK_29' [(2, zU 9)] _ ?_)
     refine c7 ?_
     exact hE.ret [3] rfl rfl (.inl ⟨_, _, _, h, rfl⟩) (e9.of1 rfl (RV.tmp rfl))
    ·replace h := l0 h hb
     refine d4 ?_
     refine kg (hK_25' [(0, zP b), (3, zU (a7 r_0 r_1)), (21, Value.agg [zU 110, zU 10, zU 114, zU 13, zU 116, zU 9].toArray), (22, zI 2)] _ ?_)
     refine a4 ?_
     refine wv (OV.add rfl rfl ⟨by decide, by decide⟩) ?_
     refine wm ?_
     refine WL.nil ?_
     refine kg (hK_22' [(0, zP b), (3, zU (a7 r_0 r_1)), (21, Value.agg [zU 110, zU 10, zU 114, zU 13, zU 116, zU 9].toArray), (22, zI 3)] _ ?_)
     refine RC.succ (fun K0_30' hK_30' => ?_)
     refine a6 (fun _ hK_31' => ?_)
     refine a4 ?_
     refine wv (OV.lss rfl rfl) ?_
     refine WL.nil ?_
     refine kg (hK_31' [(0, zP b), (3, zU (a7 r_0 r_1)), (21, Value.agg [zU 110, zU 10, zU 114, zU 13, zU 116, zU 9].toArray), (22, zI 3), (23, zB false)] _ ?_)
     refine a6 (fun _ hK_32' => ?_)
     refine g9 rfl ?_
     refine y3 ?_
     refine kg (hK_4' [(0, zP b), (3, zU (a7 r_0 r_1))] _ ?_)
     refine a6 (fun _ hK_33' => ?_)
     refine a6 (fun _ hK_34' => ?_)
     refine a4 ?_
     refine wm ?_
     refine wv (OV.eql rfl rfl) ?_
     refine WL.nil ?_
     refine kg (hK_34' [(0, zP b), (3, zU (a7 r_0 r_1)), (40, zB (decide (a7 r_0 r_1 = 120)))] _ ?_)
     refine c6 (b := decide (a7 r_0 r_1 = 120)) rfl (fun hb => ?_) (fun hb => ?_)
     ·replace h := k9 h hb
      refine a6 (fun _ hK_35' => ?_)
      refine a4 ?_
      refine wm ?_
      refine wv (OV.nilCheck rfl) ?_
      refine wv (OV.fieldAddr0 rfl b7) ?_
      refine wv (OV.load rfl (At.own 3 rfl) rfl b8) ?_
      obtain ⟨o_4', h⟩ := h
      refine wv (OV.add rfl rfl o_4') ?_
      refine wv (OV.nilCheck rfl) ?_
      refine wv (OV.fieldAddr0 rfl b7) ?_
      refine WL.store (vs := [zI (r_1 + 1)]) (cs' := [st r_0, zI (r_1 + 1)]) 3 rfl rfl rfl rfl i8 (Nat.le_of_ble_eq_true rfl) rfl rfl rfl ?_
      refine WL.nil ?_
      refine kg (hK_35' [(0, zP b)] _ ?_)
      refine a6 (fun _ hK_36' => ?_)
      refine a4 ?_
      refine wm ?_
      obtain ⟨o_5', h⟩ := h
      refine WL.pick (H' := [HA.blk b (.cells [st r_0, zI (r_1 + 1)].toArray 222 (0, 0)), HA.blk b_3' (.cells [zU 116, zU 9].toArray 213 (0, 0)), HA.blk b_2' (.cells [zU 114, zU 13].toArray 213 (0, 0)), HA.blk b_1' (.cells [zU 110, zU 10].toArray 213 (0, 0))]) [3, 0, 1, 2] rfl rfl ?_
      refine WL.callS ahd rfl (aky b r_0 (r_1 + 1) o_5') rfl trivial rfl rfl (fun r H' hS => ?_) (fun c H' hS => ?_)
      ·rcases hS with ⟨r_1', at0, hc, ho⟩ | ⟨e, at0_1', hc, ho⟩ <;> cases ho
       replace h := h.1 r_1' at0 hc
       refine wa ?_
       refine WL.nil ?_
       refine kg (hK_36' [(0, zP b), (7, zU r_1')] _ ?_)
       refine a6 (fun _ hK_37' => ?_)
       refine a4 ?_
       refine wm ?_
       refine wv (OV.shl rfl rfl ⟨by decide, by decide⟩) ?_
       refine wm ?_
       obtain ⟨o_6', h⟩ := h
       refine WL.callS ahd rfl (aky b r_0 at0 o_6') rfl trivial rfl rfl (fun r H' hS => ?_) (fun c H' hS => ?_)
       ·rcases hS with ⟨r_2', at0_2', hc, ho⟩ | ⟨e_1', at0_3', hc, ho⟩ <;> cases ho
        replace h := h.1 r_2' at0_2' hc
        refine wv (OV.bits_or rfl rfl) ?_
        refine wa ?_
        refine WL.nil ?_
        refine kg (hK_37' [(2, zU (bits .or .u8 (IntKind.wrap .u8 (r_1' * 2 ^ (4 : Int).toNat)) r_2'))] _ ?_)
        refine c7 ?_
        exact hE.ret [0] rfl rfl (.inl ⟨_, _, _, h, rfl⟩) (e9.of1 rfl (RV.tmp rfl))
       ·rcases hS with ⟨r_2', at0_2', hc, ho⟩ | ⟨e_1', at0_3', hc, ho⟩ <;> cases ho
        replace h := h.2 e_1' at0_3' hc
        exact hE.pan [0] rfl rfl (.inr ⟨_, _, _, h, rfl⟩)
      ·rcases hS with ⟨r_1', at0, hc, ho⟩ | ⟨e, at0_1', hc, ho⟩ <;> cases ho
       replace h := h.2 e at0_1' hc
       exact hE.pan [0] rfl rfl (.inr ⟨_, _, _, h, rfl⟩)
     ·replace h := l0 h hb
      refine d4 ?_
      refine kg (hK_33' [(0, zP b), (3, zU (a7 r_0 r_1))] _ ?_)
      refine a6 (fun _ hK_38' => ?_)
      refine a6 (fun _ hK_39' => ?_)
      refine a4 ?_
      refine wm ?_
      refine wv (OV.lss rfl rfl) ?_
      refine wm ?_
      refine WL.cut 3 [(0, zP b), (3, zU (a7 r_0 r_1)), (60, zB ((decide (a7 r_0 r_1 < 32)) || (decide (126 < a7 r_0 r_1))))] ?_ (fun K0_40' hK_40' => ?_)
      rotate_left
      ·refine WL.split (decide (a7 r_0 r_1 < 32)) (fun hb => ?_) (fun hb => ?_)
       ·refine WL.set 57 rfl (congrArg zB hb) ?_
        refine wk ?_
        refine wk ?_
        refine wv (OV.pickT rfl rfl) ?_
        refine WL.set 60 rfl (oT (v := decide (126 < a7 r_0 r_1)) hb) ?_
        exact WL.end_ (kg hK_40')
       ·refine WL.set 57 rfl (congrArg zB hb) ?_
        refine wm ?_
        refine wv (OV.gtr rfl rfl) ?_
        refine wv (OV.pickF rfl rfl) ?_
        refine WL.set 60 rfl (oF (v := decide (126 < a7 r_0 r_1)) hb) ?_
        exact WL.end_ (kg hK_40')
      refine wm ?_
      refine WL.cut 7 [(0, zP b), (3, zU (a7 r_0 r_1)), (68, zB (((decide (a7 r_0 r_1 < 32)) || (decide (126 < a7 r_0 r_1))) || ((decide (48 ≤ a7 r_0 r_1)) && (decide (a7 r_0 r_1 ≤ 57)))))] ?_ (fun K0_42' hK_42' => ?_)
      rotate_left
      ·refine WL.split ((decide (a7 r_0 r_1 < 32)) || (decide (126 < a7 r_0 r_1))) (fun hb => ?_) (fun hb => ?_)
       ·refine WL.set 61 rfl (congrArg zB hb) ?_
        refine wk ?_
        refine wk ?_
        refine wk ?_
        refine wk ?_
        refine wk ?_
        refine wk ?_
        refine wv (OV.pickT rfl rfl) ?_
        refine WL.set 68 rfl (oT (v := (decide (48 ≤ a7 r_0 r_1)) && (decide (a7 r_0 r_1 ≤ 57))) hb) ?_
        exact WL.end_ (kg hK_42')
       ·refine WL.set 61 rfl (congrArg zB hb) ?_
        refine wm ?_
        refine wv (OV.geq rfl rfl) ?_
        refine wm ?_
        refine WL.cut 3 [(0, zP b), (3, zU (a7 r_0 r_1)), (61, zB false), (67, zB ((decide (48 ≤ a7 r_0 r_1)) && (decide (a7 r_0 r_1 ≤ 57))))] ?_ (fun K0_41' hK_41' => ?_)
        rotate_left
        ·refine WL.split (decide (48 ≤ a7 r_0 r_1)) (fun hb => ?_) (fun hb => ?_)
         ·refine WL.set 64 rfl (congrArg zB hb) ?_
          refine wm ?_
          refine wv (OV.leq rfl rfl) ?_
          refine wv (OV.pickT rfl rfl) ?_
          refine WL.set 67 rfl (bT (v := decide (a7 r_0 r_1 ≤ 57)) hb) ?_
          exact WL.end_ (kg hK_41')
         ·refine WL.set 64 rfl (congrArg zB hb) ?_
          refine wk ?_
          refine wk ?_
          refine wv (OV.pickF rfl rfl) ?_
          refine WL.set 67 rfl (bF (v := decide (a7 r_0 r_1 ≤ 57)) hb) ?_
          exact WL.end_ (kg hK_41')
        refine wv (OV.pickF rfl rfl) ?_
        refine WL.set 68 rfl (oF (v := (decide (48 ≤ a7 r_0 r_1)) && (decide (a7 r_0 r_1 ≤ 57))) hb) ?_
        exact WL.end_ (kg hK_42')
      refine wm ?_
      refine WL.cut 7 [(0, zP b), (3, zU (a7 r_0 r_1)), (76, zB ((((decide (a7 r_0 r_1 < 32)) || (decide (126 < a7 r_0 r_1))) || ((decide (48 ≤ a7 r_0 r_1)) && (decide (a7 r_0 r_1 ≤ 57)))) || ((decide (97 ≤ a7 r_0 r_1)) && (decide (a7 r_0 r_1 ≤ 122)))))] ?_ (fun K0_44' hK_44' => ?_)
      rotate_left
      ·refine WL.split (((decide (a7 r_0 r_1 < 32)) || (decide (126 < a7 r_0 r_1))) || ((decide (48 ≤ a7 r_0 r_1)) && (decide (a7 r_0 r_1 ≤ 57)))) (fun hb => ?_) (fun hb => ?_)
       ·refine WL.set 69 rfl (congrArg zB hb) ?_
        refine wk ?_
        refine wk ?_
        refine wk ?_
        refine wk ?_
        refine wk ?_
        refine wk ?_
        refine wv (OV.pickT rfl rfl) ?_
        refine WL.set 76 rfl (oT (v := (decide (97 ≤ a7 r_0 r_1)) && (decide (a7 r_0 r_1 ≤ 122))) hb) ?_
        exact WL.end_ (kg hK_44')
       ·refine WL.set 69 rfl (congrArg zB hb) ?_
        refine wm ?_
        refine wv (OV.geq rfl rfl) ?_
        refine wm ?_
        refine WL.cut 3 [(0, zP b), (3, zU (a7 r_0 r_1)), (69, zB false), (75, zB ((decide (97 ≤ a7 r_0 r_1)) && (decide (a7 r_0 r_1 ≤ 122))))] ?_ (fun K0_43' hK_43' => ?_)
        rotate_left
        ·refine WL.split (decide (97 ≤ a7 r_0 r_1)) (fun hb => ?_) (fun hb => ?_)
         ·refine WL.set 72 rfl (congrArg zB hb) ?_
          refine wm ?_
          refine wv (OV.leq rfl rfl) ?_
          refine wv (OV.pickT rfl rfl) ?_
          refine WL.set 75 rfl (bT (v := decide (a7 r_0 r_1 ≤ 122)) hb) ?_
          exact WL.end_ (kg hK_43')
         ·refine WL.set 72 rfl (congrArg zB hb) ?_
          refine wk ?_
          refine wk ?_
          refine wv (OV.pickF rfl rfl) ?_
          refine WL.set 75 rfl (bF (v := decide (a7 r_0 r_1 ≤ 122)) hb) ?_
          exact WL.end_ (kg hK_43')
        refine wv (OV.pickF rfl rfl) ?_
        refine WL.set 76 rfl (oF (v := (decide (97 ≤ a7 r_0 r_1)) && (decide (a7 r_0 r_1 ≤ 122))) hb) ?_
        exact WL.end_ (kg hK_44')
      refine wm ?_
      refine WL.cut 7 [(0, zP b), (3, zU (a7 r_0 r_1)), (84, zB (((((decide (a7 r_0 r_1 < 32)) || (decide (126 < a7 r_0 r_1))) || ((decide (48 ≤ a7 r_0 r_1)) && (decide (a7 r_0 r_1 ≤ 57)))) || ((decide (97 ≤ a7 r_0 r_1)) && (decide (a7 r_0 r_1 ≤ 122)))) || ((decide (65 ≤ a7 r_0 r_1)) && (decide (a7 r_0 r_1 ≤ 90)))))] ?_ (fun K0_46' hK_46' => ?_)
      rotate_left
      ·refine WL.split ((((decide (a7 r_0 r_1 < 32)) || (decide (126 < a7 r_0 r_1))) || ((decide (48 ≤ a7 r_0 r_1)) && (decide (a7 r_0 r_1 ≤ 57)))) || ((decide (97 ≤ a7 r_0 r_1)) && (decide (a7 r_0 r_1 ≤ 122)))) (fun hb => ?_) (fun hb => ?_)
       ·refine WL.set 77 rfl (congrArg zB hb) ?_
        refine wk ?_
        refine wk ?_
        refine wk ?_
        refine wk ?_
        refine wk ?_
        refine wk ?_
        refine wv (OV.pickT rfl rfl) ?_
        refine WL.set 84 rfl (oT (v := (decide (65 ≤ a7 r_0 r_1)) && (decide (a7 r_0 r_1 ≤ 90))) hb) ?_
        exact WL.end_ (kg hK_46')
       ·refine WL.set 77 rfl (congrArg zB hb) ?_
        refine wm ?_
        refine wv (OV.geq rfl rfl) ?_
        refine wm ?_
        refine WL.cut 3 [(0, zP b), (3, zU (a7 r_0 r_1)), (77, zB false), (83, zB ((decide (65 ≤ a7 r_0 r_1)) && (decide (a7 r_0 r_1 ≤ 90))))] ?_ (fun K0_45' hK_45' => ?_)
        rotate_left
        ·refine WL.split (decide (65 ≤ a7 r_0 r_1)) (fun hb => ?_) (fun hb => ?_)
         ·refine WL.set 80 rfl (congrArg zB hb) ?_
          refine wm ?_
          refine wv (OV.leq rfl rfl) ?_
          refine wv (OV.pickT rfl rfl) ?_
          refine WL.set 83 rfl (bT (v := decide (a7 r_0 r_1 ≤ 90)) hb) ?_
          exact WL.end_ (kg hK_45')
         ·refine WL.set 80 rfl (congrArg zB hb) ?_
          refine wk ?_
          refine wk ?_
          refine wv (OV.pickF rfl rfl) ?_
          refine WL.set 83 rfl (bF (v := decide (a7 r_0 r_1 ≤ 90)) hb) ?_
          exact WL.end_ (kg hK_45')
        refine wv (OV.pickF rfl rfl) ?_
        refine WL.set 84 rfl (oF (v := (decide (65 ≤ a7 r_0 r_1)) && (decide (a7 r_0 r_1 ≤ 90))) hb) ?_
        exact WL.end_ (kg hK_46')
      refine WL.nil ?_
      refine kg (hK_39' [(0, zP b), (3, zU (a7 r_0 r_1)), (84, zB (((((decide (a7 r_0 r_1 < 32)) || (decide (126 < a7 r_0 r_1))) || ((decide (48 ≤ a7 r_0 r_1)) && (decide (a7 r_0 r_1 ≤ 57)))) || ((decide (97 ≤ a7 r_0 r_1)) && (decide (a7 r_0 r_1 ≤ 122)))) || ((decide (65 ≤ a7 r_0 r_1)) && (decide (a7 r_0 r_1 ≤ 90)))))] _ ?_)
      refine c6 (b := ((((decide (a7 r_0 r_1 < 32)) || (decide (126 < a7 r_0 r_1))) || ((decide (48 ≤ a7 r_0 r_1)) && (decide (a7 r_0 r_1 ≤ 57)))) || ((decide (97 ≤ a7 r_0 r_1)) && (decide (a7 r_0 r_1 ≤ 122)))) || ((decide (65 ≤ a7 r_0 r_1)) && (decide (a7 r_0 r_1 ≤ 90)))) rfl (fun hb => ?_) (fun hb => ?_)
      ·replace h := k9 h hb
       refine a4 ?_
       refine wm ?_
       refine wm ?_
       refine wv (OV.nilCheck rfl) ?_
       refine wv (OV.fieldAddr0 rfl b7) ?_
       refine wv (OV.load rfl (At.own 3 rfl) rfl b8) ?_
       refine WL.callS aaq rfl (abp b r_1) rfl trivial rfl rfl (fun r H' hS => by cases hS) (fun c H' hS => ?_)
       cases hS
       exact hE.pan [3] rfl rfl (.inr ⟨_, _, _, h, rfl⟩)
      ·replace h := l0 h hb
       refine d4 ?_
       refine kg (hK_38' [(0, zP b), (3, zU (a7 r_0 r_1))] _ ?_)
       refine a6 (fun _ hK_47' => ?_)
       refine a4 ?_
       refine wm ?_
       refine wv (OV.nilCheck rfl) ?_
       refine wv (OV.fieldAddr0 rfl b7) ?_
       refine wv (OV.load rfl (At.own 3 rfl) rfl b8) ?_
       obtain ⟨o_14', h⟩ := h
       refine wv (OV.add rfl rfl o_14') ?_
       refine wv (OV.nilCheck rfl) ?_
       refine wv (OV.fieldAddr0 rfl b7) ?_
       refine WL.store (vs := [zI (r_1 + 1)]) (cs' := [st r_0, zI (r_1 + 1)]) 3 rfl rfl rfl rfl i8 (Nat.le_of_ble_eq_true rfl) rfl rfl rfl ?_
       refine WL.nil ?_
       refine kg (hK_47' [(3, zU (a7 r_0 r_1))] _ ?_)
       refine a6 (fun _ hK_48' => ?_)
       refine a4 ?_
       refine wm ?_
       refine wa ?_
       refine WL.nil ?_
       refine kg (hK_48' [(2, zU (a7 r_0 r_1))] _ ?_)
       refine c7 ?_
       exact hE.ret [3] rfl rfl (.inl ⟨_, _, _, h, rfl⟩) (e9.of1 rfl (RV.tmp rfl))
theorem asg (hi lo : Int) (h1 : 0 ≤ hi ∧ hi ≤ 15) (h2 : 0 ≤ lo ∧ lo ≤ 15) : bits .or .u8 (IntKind.wrap .u8 (hi * 2 ^ (4 : Int).toNat)) lo = 16 * hi + lo := by
 obtain ⟨a, ha, rfl⟩ : ∃ a : Nat, a < 16 ∧ hi = (a : Int) := ⟨hi.toNat, by omega, by omega⟩
 obtain ⟨b, hb, rfl⟩ : ∃ b : Nat, b < 16 ∧ lo = (b : Int) := ⟨lo.toNat, by omega, by omega⟩
 clear h1 h2
 revert a b; decide
theorem ac6 {t : List UInt8} {a r q : Int} (h : ad2 t a = .ok (r, q)) : a < t.length ∧ 0 ≤ r ∧ r ≤ 15 ∧ q = a + 1 := by
 unfold ad2 at h
 split at h
 ·rename_i h1
  cases h
  exact ⟨h1.1, h1.2, ah3.2, rfl⟩
 ·cases h
abbrev o8 (te : TypeId) (fre : Nat × Nat) : List (Nat × Obj) := [(1, .cells [zU 110, zU 10, zU 114, zU 13, zU 116, zU 9].toArray te fre)]
theorem akw (b : Nat) (te : TypeId) (fre : Nat × Nat) (t : List UInt8) (a : Int) (h : 0 ≤ a ∧ a ≤ t.length ∧ t.length ≤ 9223372036854775807) : c9 Tryd.prog 181 [.pointer (some ⟨b, 0, none⟩)] (o8 te fre) [aek b t a] (ap2 b t (fun r => .int .u8 r) (afm t a)) := by
 refine (ant b te fre t a (fun r t' q => t' = t ∧ afm t a = .ok (r, q)) (fun v t' _ => t' = t ∧ ∃ e, afm t a = .error e ∧ v = j4 10 e) ?_).weak ?_
 ·have hb := acl t a
  unfold aey afm c8
  refine ⟨h.1, ?_⟩
  by_cases h1 : a < t.length
  ·rw [if_neg (by simp [h1]), if_pos h1]
   have hI : I64 (a + 1) := ⟨by omega, by omega⟩
   generalize a7 t a = c at hb ⊢
   by_cases e1 : c = 110
   ·subst e1; simp [hI]
   ·by_cases e2 : c = 114
    ·subst e2; simp [hI]
    ·by_cases e3 : c = 116
     ·subst e3; simp [hI]
     ·rw [if_neg (by simpa using fun e => e1 e.symm), if_neg (by simpa using fun e => e2 e.symm), if_neg (by simpa using fun e => e3 e.symm), if_neg e1, if_neg e2, if_neg e3]
      by_cases e4 : c = 120
      ·rw [if_pos (by simpa using e4), if_pos e4]
       refine ⟨hI, ⟨by omega, by omega, h.2.2⟩, fun hi p hp => ⟨?_, fun lo q hq => ?_, fun e q he => ?_⟩, fun e q he => ?_⟩
       ·have := ac6 hp; exact ⟨by omega, by omega, h.2.2⟩
       ·simp only [hp, hq]
        have h3 := ac6 hp
        have h4 := ac6 hq
        rw [asg hi lo ⟨h3.2.1, h3.2.2.1⟩ ⟨h4.2.1, h4.2.2.1⟩]
        simp
       ·simp only [hp]; simp [he]
       ·simp [he]
      ·rw [if_neg (by simpa using e4), if_neg e4]
       by_cases e5 : c < 32 ∨ 126 < c ∨ (48 ≤ c ∧ c ≤ 57) ∨ (97 ≤ c ∧ c ≤ 122) ∨ (65 ≤ c ∧ c ≤ 90)
       ·rw [if_pos (by simp; omega), if_pos e5]; exact ⟨rfl, _, rfl, rfl⟩
       ·rw [if_neg (by simp; omega), if_neg e5]; exact ⟨hI, rfl, rfl⟩
  ·rw [if_pos (by simp [h1]), if_neg h1]; exact ⟨rfl, _, rfl, rfl⟩
 ·rintro o (⟨r, t', q, ⟨rfl, hm⟩, rfl⟩ | ⟨v, t', q, ⟨rfl, e, hm, rfl⟩, rfl⟩)
  ·exact .inl ⟨r, q, hm, rfl⟩
  ·exact .inr ⟨e, q, hm, rfl⟩
def ak1 (r_0 : List UInt8) (r_1 : Int) (barred : List UInt8) (K : Int → (List UInt8) → Int → Prop) (KP : Value → (List UInt8) → Int → Prop) : Prop :=
 (0 ≤ r_1) ∧
 (if ((c8 r_0 r_1) && (decide (a7 r_0 r_1 = 92))) = true then
  (I64 (r_1 + 1)) ∧
  (0 ≤ r_1 + 1 ∧ r_1 + 1 ≤ r_0.length ∧ r_0.length ≤ 9223372036854775807) ∧
  (∀ (r_1' : Int) (at0 : Int), afm r_0 (r_1 + 1) = .ok (r_1', at0) →
   K r_1' r_0 at0) ∧
  (∀ (e : Int) (at0_1' : Int), afm r_0 (r_1 + 1) = .error e →
   KP (j4 10 e) r_0 at0_1')
 else
  (if ((((!(c8 r_0 r_1)) || (decide (a7 r_0 r_1 < 32))) || (decide (126 < a7 r_0 r_1))) || (decide (0 ≤ Lib.indexByte barred (a7 r_0 r_1).toNat.toUInt8))) = true then
   KP (j4 10 r_1) r_0 r_1
  else
   (I64 (r_1 + 1)) ∧
   K (a7 r_0 r_1) r_0 (r_1 + 1)))
theorem arl (b : Nat) (te : TypeId) (fre : Nat × Nat) (r_0 : List UInt8) (r_1 : Int) (barred : List UInt8) (K : Int → (List UInt8) → Int → Prop) (KP : Value → (List UInt8) → Int → Prop) (h : ak1 r_0 r_1 barred K KP) :
  c9 Tryd.prog 175 [zP b, st barred] [(1, .cells [zU 110, zU 10, zU 114, zU 13, zU 116, zU 9].toArray te fre)] [HA.blk b (.cells [st r_0, zI r_1].toArray 222 (0, 0))] (fun o => (∃ (v : Int) (d_0 : List UInt8) (d_1 : Int), K v d_0 d_1 ∧ o = .ret (zU v) [HA.blk b (.cells [st d_0, zI d_1].toArray 222 (0, 0))]) ∨ (∃ (pv : Value) (d_0 : List UInt8) (d_1 : Int), KP pv d_0 d_1 ∧ o = .pan [{ v := pv, recovered := false }] [HA.blk b (.cells [st d_0, zI d_1].toArray 222 (0, 0))])) := by
 unfold ak1 at h
 refine b5 (n := 56) (L0 := [(0, zP b), (1, st barred)]) Tryd.func175 rfl rfl rfl rfl (fun w0 M Q hE => ?_)
 refine a6 (fun _ hK => ?_)
 refine a4 ?_
 refine wa ?_
 refine WL.nil ?_
 refine kg (hK [(0, zP b), (1, st barred)] _ ?_)
 refine a6 (fun _ hK_1' => ?_)
 refine a4 ?_
 refine wm ?_
 obtain ⟨o, h⟩ := h
 refine WL.call (A := []) y6 rfl (aak b r_0 r_1 o) rfl ⟨.inl ⟨0, rfl⟩, trivial⟩ rfl rfl ?_
 refine wm ?_
 refine wv (OV.extract 0 rfl rfl) ?_
 refine wv (OV.extract 1 rfl rfl) ?_
 refine wa ?_
 refine wa ?_
 refine WL.nil ?_
 refine kg (hK_1' [(0, zP b), (1, st barred), (5, zU (a7 r_0 r_1)), (6, zB (c8 r_0 r_1))] _ ?_)
 refine a6 (fun _ hK_2' => ?_)
 refine a6 (fun _ hK_3' => ?_)
 refine a4 ?_
 refine wm ?_
 refine wm ?_
 refine WL.cut 3 [(0, zP b), (1, st barred), (5, zU (a7 r_0 r_1)), (6, zB (c8 r_0 r_1)), (16, zB ((c8 r_0 r_1) && (decide (a7 r_0 r_1 = 92))))] ?_ (fun K0_4' hK_4' => ?_)
 rotate_left
 ·refine WL.split (c8 r_0 r_1) (fun hb => ?_) (fun hb => ?_)
  ·refine WL.set 13 rfl (congrArg zB hb) ?_
   refine wm ?_
   refine wv (OV.eql rfl rfl) ?_
   refine wv (OV.pickT rfl rfl) ?_
   refine WL.set 16 rfl (bT (v := decide (a7 r_0 r_1 = 92)) hb) ?_
   exact WL.end_ (kg hK_4')
  ·refine WL.set 13 rfl (congrArg zB hb) ?_
   refine wk ?_
   refine wk ?_
   refine wv (OV.pickF rfl rfl) ?_
   refine WL.set 16 rfl (bF (v := decide (a7 r_0 r_1 = 92)) hb) ?_
   exact WL.end_ (kg hK_4')
 refine WL.nil ?_
 refine kg (hK_3' [(0, zP b), (1, st barred), (5, zU (a7 r_0 r_1)), (6, zB (c8 r_0 r_1)), (16, zB ((c8 r_0 r_1) && (decide (a7 r_0 r_1 = 92))))] _ ?_)
 refine c6 (b := (c8 r_0 r_1) && (decide (a7 r_0 r_1 = 92))) rfl (fun hb => ?_) (fun hb => ?_)
 ·replace h := k9 h hb
  refine a6 (fun _ hK_5' => ?_)
  refine a4 ?_
  refine wm ?_
  refine wv (OV.nilCheck rfl) ?_
  refine wv (OV.fieldAddr0 rfl b7) ?_
  refine wv (OV.load rfl (At.own 0 rfl) rfl b8) ?_
  obtain ⟨o_2', h⟩ := h
  refine wv (OV.add rfl rfl o_2') ?_
  refine wv (OV.nilCheck rfl) ?_
  refine wv (OV.fieldAddr0 rfl b7) ?_
  refine WL.store (vs := [zI (r_1 + 1)]) (cs' := [st r_0, zI (r_1 + 1)]) 0 rfl rfl rfl rfl i8 (Nat.le_of_ble_eq_true rfl) rfl rfl rfl ?_
  refine WL.nil ?_
  refine kg (hK_5' [(0, zP b)] _ ?_)
  refine a6 (fun _ hK_6' => ?_)
  refine a4 ?_
  refine wm ?_
  obtain ⟨o_3', h⟩ := h
  refine WL.callS amj rfl (akw b te fre r_0 (r_1 + 1) o_3') rfl ⟨.inr (List.mem_of_getElem? (i := 0) rfl), trivial⟩ rfl rfl (fun r H' hS => ?_) (fun c H' hS => ?_)
  ·rcases hS with ⟨r_1', at0, hc, ho⟩ | ⟨e, at0_1', hc, ho⟩ <;> cases ho
   replace h := h.1 r_1' at0 hc
   refine wa ?_
   refine WL.nil ?_
   refine kg (hK_6' [(4, zU r_1')] _ ?_)
   refine c7 ?_
   exact hE.ret [0] rfl rfl (.inl ⟨_, _, _, h, rfl⟩) (e9.of1 rfl (RV.tmp rfl))
  ·rcases hS with ⟨r_1', at0, hc, ho⟩ | ⟨e, at0_1', hc, ho⟩ <;> cases ho
   replace h := h.2 e at0_1' hc
   exact hE.pan [0] rfl rfl (.inr ⟨_, _, _, h, rfl⟩)
 ·replace h := l0 h hb
  refine d4 ?_
  refine kg (hK_2' [(0, zP b), (1, st barred), (5, zU (a7 r_0 r_1)), (6, zB (c8 r_0 r_1))] _ ?_)
  refine a6 (fun _ hK_7' => ?_)
  refine a6 (fun _ hK_8' => ?_)
  refine a4 ?_
  refine wm ?_
  refine wv (OV.not rfl) ?_
  refine wm ?_
  refine WL.cut 3 [(0, zP b), (1, st barred), (5, zU (a7 r_0 r_1)), (31, zB ((!(c8 r_0 r_1)) || (decide (a7 r_0 r_1 < 32))))] ?_ (fun K0_9' hK_9' => ?_)
  rotate_left
  ·refine WL.split (!(c8 r_0 r_1)) (fun hb => ?_) (fun hb => ?_)
   ·refine WL.set 28 rfl (congrArg zB hb) ?_
    refine wk ?_
    refine wk ?_
    refine wv (OV.pickT rfl rfl) ?_
    refine WL.set 31 rfl (oT (v := decide (a7 r_0 r_1 < 32)) hb) ?_
    exact WL.end_ (kg hK_9')
   ·refine WL.set 28 rfl (congrArg zB hb) ?_
    refine wm ?_
    refine wv (OV.lss rfl rfl) ?_
    refine wv (OV.pickF rfl rfl) ?_
    refine WL.set 31 rfl (oF (v := decide (a7 r_0 r_1 < 32)) hb) ?_
    exact WL.end_ (kg hK_9')
  refine wm ?_
  refine WL.cut 3 [(0, zP b), (1, st barred), (5, zU (a7 r_0 r_1)), (35, zB (((!(c8 r_0 r_1)) || (decide (a7 r_0 r_1 < 32))) || (decide (126 < a7 r_0 r_1))))] ?_ (fun K0_10' hK_10' => ?_)
  rotate_left
  ·refine WL.split ((!(c8 r_0 r_1)) || (decide (a7 r_0 r_1 < 32))) (fun hb => ?_) (fun hb => ?_)
   ·refine WL.set 32 rfl (congrArg zB hb) ?_
    refine wk ?_
    refine wk ?_
    refine wv (OV.pickT rfl rfl) ?_
    refine WL.set 35 rfl (oT (v := decide (126 < a7 r_0 r_1)) hb) ?_
    exact WL.end_ (kg hK_10')
   ·refine WL.set 32 rfl (congrArg zB hb) ?_
    refine wm ?_
    refine wv (OV.gtr rfl rfl) ?_
    refine wv (OV.pickF rfl rfl) ?_
    refine WL.set 35 rfl (oF (v := decide (126 < a7 r_0 r_1)) hb) ?_
    exact WL.end_ (kg hK_10')
  refine wm ?_
  refine WL.cut 5 [(0, zP b), (5, zU (a7 r_0 r_1)), (41, zB ((((!(c8 r_0 r_1)) || (decide (a7 r_0 r_1 < 32))) || (decide (126 < a7 r_0 r_1))) || (decide (0 ≤ Lib.indexByte barred (a7 r_0 r_1).toNat.toUInt8))))] ?_ (fun K0_11' hK_11' => ?_)
  rotate_left
  ·refine WL.split (((!(c8 r_0 r_1)) || (decide (a7 r_0 r_1 < 32))) || (decide (126 < a7 r_0 r_1))) (fun hb => ?_) (fun hb => ?_)
   ·refine WL.set 36 rfl (congrArg zB hb) ?_
    refine wk ?_
    refine wk ?_
    refine wk ?_
    refine wk ?_
    refine wv (OV.pickT rfl rfl) ?_
    refine WL.set 41 rfl (oT (v := decide (0 ≤ Lib.indexByte barred (a7 r_0 r_1).toNat.toUInt8)) hb) ?_
    exact WL.end_ (kg hK_11')
   ·refine WL.set 36 rfl (congrArg zB hb) ?_
    refine wm ?_
    refine wm ?_
    refine WL.call (A := []) agq rfl (acp barred (a7 r_0 r_1)) rfl trivial rfl rfl ?_
    refine wv (OV.geq rfl rfl) ?_
    refine wv (OV.pickF rfl rfl) ?_
    refine WL.set 41 rfl (oF (v := decide (0 ≤ Lib.indexByte barred (a7 r_0 r_1).toNat.toUInt8)) hb) ?_
    exact WL.end_ (kg hK_11')
  refine WL.nil ?_
  refine kg (hK_8' [(0, zP b), (5, zU (a7 r_0 r_1)), (41, zB ((((!(c8 r_0 r_1)) || (decide (a7 r_0 r_1 < 32))) || (decide (126 < a7 r_0 r_1))) || (decide (0 ≤ Lib.indexByte barred (a7 r_0 r_1).toNat.toUInt8))))] _ ?_)
  refine c6 (b := (((!(c8 r_0 r_1)) || (decide (a7 r_0 r_1 < 32))) || (decide (126 < a7 r_0 r_1))) || (decide (0 ≤ Lib.indexByte barred (a7 r_0 r_1).toNat.toUInt8))) rfl (fun hb => ?_) (fun hb => ?_)
  ·replace h := k9 h hb
   refine a4 ?_
   refine wm ?_
   refine wm ?_
   refine wv (OV.nilCheck rfl) ?_
   refine wv (OV.fieldAddr0 rfl b7) ?_
   refine wv (OV.load rfl (At.own 0 rfl) rfl b8) ?_
   refine WL.callS aaq rfl (abp b r_1) rfl trivial rfl rfl (fun r H' hS => by cases hS) (fun c H' hS => ?_)
   cases hS
   exact hE.pan [0] rfl rfl (.inr ⟨_, _, _, h, rfl⟩)
  ·replace h := l0 h hb
   refine d4 ?_
   refine kg (hK_7' [(0, zP b), (5, zU (a7 r_0 r_1))] _ ?_)
   refine a6 (fun _ hK_12' => ?_)
   refine a4 ?_
   refine wm ?_
   refine wv (OV.nilCheck rfl) ?_
   refine wv (OV.fieldAddr0 rfl b7) ?_
   refine wv (OV.load rfl (At.own 0 rfl) rfl b8) ?_
   obtain ⟨o_7', h⟩ := h
   refine wv (OV.add rfl rfl o_7') ?_
   refine wv (OV.nilCheck rfl) ?_
   refine wv (OV.fieldAddr0 rfl b7) ?_
   refine WL.store (vs := [zI (r_1 + 1)]) (cs' := [st r_0, zI (r_1 + 1)]) 0 rfl rfl rfl rfl i8 (Nat.le_of_ble_eq_true rfl) rfl rfl rfl ?_
   refine WL.nil ?_
   refine kg (hK_12' [(5, zU (a7 r_0 r_1))] _ ?_)
   refine a6 (fun _ hK_13' => ?_)
   refine a4 ?_
   refine wm ?_
   refine wa ?_
   refine WL.nil ?_
   refine kg (hK_13' [(4, zU (a7 r_0 r_1))] _ ?_)
   refine c7 ?_
   exact hE.ret [0] rfl rfl (.inl ⟨_, _, _, h, rfl⟩) (e9.of1 rfl (RV.tmp rfl))
theorem aqv (bar : List UInt8) (c : Int) : (0 ≤ Lib.indexByte bar c.toNat.toUInt8) ↔ bar.contains c.toNat.toUInt8 = true := abl _ _
theorem agd (b : Nat) (te : TypeId) (fre : Nat × Nat) (t : List UInt8) (a : Int) (bar : List UInt8) (h : 0 ≤ a ∧ a ≤ t.length ∧ t.length ≤ 9223372036854775807) : c9 Tryd.prog 175 [.pointer (some ⟨b, 0, none⟩), st bar] (o8 te fre) [aek b t a] (ap2 b t (fun r => .int .u8 r) (aca t a bar)) := by
 refine (arl b te fre t a bar (fun r t' q => t' = t ∧ aca t a bar = .ok (r, q)) (fun v t' _ => t' = t ∧ ∃ e, aca t a bar = .error e ∧ v = j4 10 e) ?_).weak ?_
 ·have hb := acl t a
  unfold ak1 aca c8
  refine ⟨h.1, ?_⟩
  by_cases h1 : a < t.length
  ·have hI : I64 (a + 1) := ⟨by omega, by omega⟩
   have hbar := aqv bar (a7 t a)
   generalize a7 t a = c at hb hbar ⊢
   simp only [h1, decide_true, Bool.true_and, if_true]
   generalize Lib.indexByte bar c.toNat.toUInt8 = ix at hbar ⊢
   generalize bar.contains c.toNat.toUInt8 = bc at hbar ⊢
   by_cases e1 : c = 92
   ·rw [if_pos (by simpa using e1), if_pos e1]
    exact ⟨hI, ⟨by omega, by omega, h.2.2⟩, fun r q hr => by simp [hr], fun e q he => by simp [he]⟩
   ·rw [if_neg (by simpa using e1), if_neg e1]
    by_cases e5 : c < 32 ∨ 126 < c ∨ bc = true
    ·rw [if_pos (by rw [← hbar] at e5; simp; omega), if_pos e5]; simp
    ·rw [if_neg (by rw [← hbar] at e5; simp; omega), if_neg e5]; simp [hI]
  ·simp only [h1, decide_false, Bool.false_and, if_false]
   rw [if_neg (by simp), if_pos (by simp)]
   simp
 ·rintro o (⟨r, t', q, ⟨rfl, hm⟩, rfl⟩ | ⟨v, t', q, ⟨rfl, e, hm, rfl⟩, rfl⟩)
  ·exact .inl ⟨r, q, hm, rfl⟩
  ·exact .inr ⟨e, q, hm, rfl⟩
end Go.Proofs.YtohnchdnkbadaaaDoor
set_option maxRecDepth 100000
namespace Go.Proofs.YtohnchdnkbadaaaDoor
open Go Go.RowKit
theorem aax : aay Tryd.prog 84 = some (wl cs0) := by kernel_rfl
theorem adr : n5 Tryd.prog 175 = true := by kernel_rfl
theorem o6 : RowT Tryd.prog 84 4 := ⟨by kernel_rfl, by kernel_rfl⟩
theorem ags : n5 Tryd.prog 176 = true := by kernel_rfl
theorem alv : n5 Tryd.prog 180 = true := by kernel_rfl
theorem q8 : r7 Tryd.prog 84 4 = true := by kernel_rfl
theorem ahk : n5 Tryd.prog 125 = true := by kernel_rfl
theorem anr : n5 Tryd.prog 41 = true := by kernel_rfl
theorem alz : n5 Tryd.prog 174 = true := by kernel_rfl
def adv (r_0 : List UInt8) (r_1 : Int) (K : CS → (List UInt8) → Int → Prop) (KP : Value → (List UInt8) → Int → Prop) : Prop :=
 (0 ≤ r_1) ∧
 ∃ (J0 : Int → Prop),
  (∀ (r_1_1' : Int), J0 r_1_1' →
   ∃ (Inv : CS → Int → Prop) (mu : CS → Int → Nat),
    Inv cs0 r_1_1' ∧ ∀ (a_1' : CS) (r_1_5' : Int), Inv a_1' r_1_5' →
     (0 ≤ r_1_5') ∧
     (if ((c8 r_0 r_1_5') && (decide (a7 r_0 r_1_5' = 93))) = true then
      (I64 (r_1_5' + 1)) ∧
      (if ((c8 r_0 r_1) && (decide (a7 r_0 r_1 = 94))) = true then
       K (~~~ a_1') r_0 (r_1_5' + 1)
      else
       K a_1' r_0 (r_1_5' + 1))
     else
      (0 ≤ r_1_5' ∧ r_1_5' ≤ r_0.length ∧ r_0.length ≤ 9223372036854775807) ∧
      (∀ (r_7' : Int) (at0_12' : Int), aca r_0 r_1_5' ([92, 93, 91, 45, 94, 47] : List UInt8) = .ok (r_7', at0_12') →
       ∃ (J0_3' : Int → Int → Prop),
        (∀ (hi_2' : Int) (r_1_6' : Int), J0_3' hi_2' r_1_6' →
         ((0 ≤ r_7' ∧ r_7' < 256) ∧ (0 ≤ hi_2' ∧ hi_2' < 256)) ∧
         Inv (a_1' ||| (aaf (r_7').toNat (hi_2').toNat)) r_1_6' ∧ mu (a_1' ||| (aaf (r_7').toNat (hi_2').toNat)) r_1_6' < mu a_1' r_1_5') ∧
        (0 ≤ at0_12') ∧
        (if ((c8 r_0 at0_12') && (decide (a7 r_0 at0_12' = 45))) = true then
         (I64 (at0_12' + 1)) ∧
         (0 ≤ at0_12' + 1 ∧ at0_12' + 1 ≤ r_0.length ∧ r_0.length ≤ 9223372036854775807) ∧
         (∀ (r_9' : Int) (at0_16' : Int), aca r_0 (at0_12' + 1) ([92, 93, 91, 45, 94, 47] : List UInt8) = .ok (r_9', at0_16') →
          (if (decide (r_9' < r_7')) = true then
           KP (j4 10 (at0_12' + 1)) r_0 at0_16'
          else
           J0_3' r_9' at0_16')) ∧
         (∀ (e_8' : Int) (at0_17' : Int), aca r_0 (at0_12' + 1) ([92, 93, 91, 45, 94, 47] : List UInt8) = .error e_8' →
          KP (j4 10 e_8') r_0 at0_17')
        else
         J0_3' r_7' at0_12')) ∧
      (∀ (e_6' : Int) (at0_13' : Int), aca r_0 r_1_5' ([92, 93, 91, 45, 94, 47] : List UInt8) = .error e_6' →
       KP (j4 10 e_6') r_0 at0_13'))) ∧
  (if ((c8 r_0 r_1) && (decide (a7 r_0 r_1 = 94))) = true then
   (I64 (r_1 + 1)) ∧
   J0 (r_1 + 1)
  else
   J0 r_1)
theorem al6 (b : Nat) (te : TypeId) (fre : Nat × Nat) (r_0 : List UInt8) (r_1 : Int) (K : CS → (List UInt8) → Int → Prop) (KP : Value → (List UInt8) → Int → Prop) (h : adv r_0 r_1 K KP) :
  c9 Tryd.prog 174 [zP b] [(1, .cells [zU 110, zU 10, zU 114, zU 13, zU 116, zU 9].toArray te fre)] [HA.blk b (.cells [st r_0, zI r_1].toArray 222 (0, 0))] (fun o => (∃ (v : CS) (d_0 : List UInt8) (d_1 : Int), K v d_0 d_1 ∧ o = .ret (Value.agg (wl v).toArray) [HA.blk b (.cells [st d_0, zI d_1].toArray 222 (0, 0))]) ∨ (∃ (pv : Value) (d_0 : List UInt8) (d_1 : Int), KP pv d_0 d_1 ∧ o = .pan [{ v := pv, recovered := false }] [HA.blk b (.cells [st d_0, zI d_1].toArray 222 (0, 0))])) := by
 unfold adv at h
 refine b5 (n := 90) (L0 := [(0, zP b)]) Tryd.func174 rfl rfl rfl rfl (fun w0 M Q hE => ?_)
 refine a6 (fun _ hK => ?_)
 refine a4 ?_
 refine WL.make (MV.alloc aax) rfl rfl rfl (fun b_1' => ?_)
 refine WL.nil ?_
 refine kg (hK [(0, zP b), (2, zP b_1')] _ ?_)
 refine a6 (fun _ hK_1' => ?_)
 refine a4 ?_
 refine WL.make (MV.alloc aax) rfl rfl rfl (fun b_2' => ?_)
 refine WL.nil ?_
 refine kg (hK_1' [(0, zP b), (2, zP b_1'), (3, zP b_2')] _ ?_)
 refine a6 (fun _ hK_2' => ?_)
 refine a4 ?_
 refine wm ?_
 obtain ⟨o, h⟩ := h
 refine WL.call (A := []) y6 rfl (aak b r_0 r_1 o) rfl ⟨.inl ⟨2, rfl⟩, trivial⟩ rfl rfl ?_
 refine wm ?_
 refine wv (OV.extract 0 rfl rfl) ?_
 refine wv (OV.extract 1 rfl rfl) ?_
 refine wa ?_
 refine wa ?_
 refine WL.nil ?_
 refine kg (hK_2' [(0, zP b), (2, zP b_1'), (3, zP b_2'), (4, zU (a7 r_0 r_1)), (5, zB (c8 r_0 r_1))] _ ?_)
 refine a6 (fun _ hK_3' => ?_)
 refine a4 ?_
 refine wm ?_
 refine wm ?_
 refine WL.cut 3 [(0, zP b), (2, zP b_1'), (3, zP b_2'), (23, zB ((c8 r_0 r_1) && (decide (a7 r_0 r_1 = 94))))] ?_ (fun K0_4' hK_4' => ?_)
 rotate_left
 ·refine WL.split (c8 r_0 r_1) (fun hb => ?_) (fun hb => ?_)
  ·refine WL.set 20 rfl (congrArg zB hb) ?_
   refine wm ?_
   refine wv (OV.eql rfl rfl) ?_
   refine wv (OV.pickT rfl rfl) ?_
   refine WL.set 23 rfl (bT (v := decide (a7 r_0 r_1 = 94)) hb) ?_
   exact WL.end_ (kg hK_4')
  ·refine WL.set 20 rfl (congrArg zB hb) ?_
   refine wk ?_
   refine wk ?_
   refine wv (OV.pickF rfl rfl) ?_
   refine WL.set 23 rfl (bF (v := decide (a7 r_0 r_1 = 94)) hb) ?_
   exact WL.end_ (kg hK_4')
 refine wa ?_
 refine WL.nil ?_
 refine kg (hK_3' [(0, zP b), (2, zP b_1'), (3, zP b_2'), (6, zB ((c8 r_0 r_1) && (decide (a7 r_0 r_1 = 94))))] _ ?_)
 obtain ⟨J0, hJ, h⟩ := h
 refine q9 (X := Int) (fun σ => J0 σ) (fun σ => [(0, zP b), (2, zP b_1'), (3, zP b_2'), (6, zB ((c8 r_0 r_1) && (decide (a7 r_0 r_1 = 94))))]) (fun σ => [HA.blk b_2' (.cells (wl cs0).toArray 84 (0, 0)), HA.blk b_1' (.cells (wl cs0).toArray 84 (0, 0)), HA.blk b (.cells [st r_0, zI σ].toArray 222 (0, 0))]) ?_ (fun K0_6' hK_6' => ?_)
 ·rintro r_1_1' hj
  replace h := hJ r_1_1' hj
  show WC _ _ _ _ [(0, zP b), (2, zP b_1'), (3, zP b_2'), (6, zB ((c8 r_0 r_1) && (decide (a7 r_0 r_1 = 94))))] [HA.blk b_2' (.cells (wl cs0).toArray 84 (0, 0)), HA.blk b_1' (.cells (wl cs0).toArray 84 (0, 0)), HA.blk b (.cells [st r_0, zI r_1_1'].toArray 222 (0, 0))]
  refine a6 (fun _ hK_7' => ?_)
  refine f0 ?_
  obtain ⟨Inv, mu, h0, hr⟩ := h
  refine aah (S := CS × Int) (fun σ => Inv σ.1 σ.2) (fun σ => mu σ.1 σ.2) (fun σ => [(0, zP b), (2, zP b_1'), (3, zP b_2'), (6, zB ((c8 r_0 r_1) && (decide (a7 r_0 r_1 = 94))))]) (fun σ => [HA.blk b_2' (.cells (wl σ.1).toArray 84 (0, 0)), HA.blk b_1' (.cells (wl cs0).toArray 84 (0, 0)), HA.blk b (.cells [st r_0, zI σ.2].toArray 222 (0, 0))]) (cs0, r_1_1') h0 ⟨rfl, rfl, rfl, rfl, trivial⟩ rfl ?_
  rintro ⟨a_1', r_1_5'⟩ hi K0_52' hK_52'
  have h := hr a_1' r_1_5' hi
  show WC _ _ _ _ [(0, zP b), (2, zP b_1'), (3, zP b_2'), (6, zB ((c8 r_0 r_1) && (decide (a7 r_0 r_1 = 94))))] [HA.blk b_2' (.cells (wl a_1').toArray 84 (0, 0)), HA.blk b_1' (.cells (wl cs0).toArray 84 (0, 0)), HA.blk b (.cells [st r_0, zI r_1_5'].toArray 222 (0, 0))]
  refine f0 ?_
  refine a6 (fun _ hK_53' => ?_)
  refine a6 (fun _ hK_54' => ?_)
  refine a4 ?_
  refine wm ?_
  obtain ⟨o_29', h⟩ := h
  refine WL.call (A := []) y6 rfl (aak b r_0 r_1_5' o_29') rfl ⟨.inl ⟨2, rfl⟩, trivial⟩ rfl rfl ?_
  refine wm ?_
  refine wv (OV.extract 0 rfl rfl) ?_
  refine wv (OV.extract 1 rfl rfl) ?_
  refine wa ?_
  refine wa ?_
  refine WL.nil ?_
  refine kg (hK_54' [(0, zP b), (2, zP b_1'), (3, zP b_2'), (6, zB ((c8 r_0 r_1) && (decide (a7 r_0 r_1 = 94)))), (7, zU (a7 r_0 r_1_5')), (8, zB (c8 r_0 r_1_5'))] _ ?_)
  refine a6 (fun _ hK_55' => ?_)
  refine a4 ?_
  refine wm ?_
  refine wm ?_
  refine WL.cut 3 [(0, zP b), (2, zP b_1'), (3, zP b_2'), (6, zB ((c8 r_0 r_1) && (decide (a7 r_0 r_1 = 94)))), (41, zB ((c8 r_0 r_1_5') && (decide (a7 r_0 r_1_5' = 93))))] ?_ (fun K0_56' hK_56' => ?_)
  rotate_left
  ·refine WL.split (c8 r_0 r_1_5') (fun hb => ?_) (fun hb => ?_)
   ·refine WL.set 38 rfl (congrArg zB hb) ?_
    refine wm ?_
    refine wv (OV.eql rfl rfl) ?_
    refine wv (OV.pickT rfl rfl) ?_
    refine WL.set 41 rfl (bT (v := decide (a7 r_0 r_1_5' = 93)) hb) ?_
    exact WL.end_ (kg hK_56')
   ·refine WL.set 38 rfl (congrArg zB hb) ?_
    refine wk ?_
    refine wk ?_
    refine wv (OV.pickF rfl rfl) ?_
    refine WL.set 41 rfl (bF (v := decide (a7 r_0 r_1_5' = 93)) hb) ?_
    exact WL.end_ (kg hK_56')
  refine WL.nil ?_
  refine kg (hK_55' [(0, zP b), (2, zP b_1'), (3, zP b_2'), (6, zB ((c8 r_0 r_1) && (decide (a7 r_0 r_1 = 94)))), (41, zB ((c8 r_0 r_1_5') && (decide (a7 r_0 r_1_5' = 93))))] _ ?_)
  refine c6 (b := (c8 r_0 r_1_5') && (decide (a7 r_0 r_1_5' = 93))) rfl (fun hb => ?_) (fun hb => ?_)
  ·replace h := k9 h hb
   refine a6 (fun _ hK_57' => ?_)
   refine a4 ?_
   refine wm ?_
   refine wv (OV.nilCheck rfl) ?_
   refine wv (OV.fieldAddr0 rfl b7) ?_
   refine wv (OV.load rfl (At.own 2 rfl) rfl b8) ?_
   obtain ⟨o_31', h⟩ := h
   refine wv (OV.add rfl rfl o_31') ?_
   refine wv (OV.nilCheck rfl) ?_
   refine wv (OV.fieldAddr0 rfl b7) ?_
   refine WL.store (vs := [zI (r_1_5' + 1)]) (cs' := [st r_0, zI (r_1_5' + 1)]) 2 rfl rfl rfl rfl i8 (Nat.le_of_ble_eq_true rfl) rfl rfl rfl ?_
   refine WL.nil ?_
   refine kg (hK_57' [(2, zP b_1'), (3, zP b_2'), (6, zB ((c8 r_0 r_1) && (decide (a7 r_0 r_1 = 94))))] _ ?_)
   refine y3 ?_
   refine kg (hK_7' [(2, zP b_1'), (3, zP b_2'), (6, zB ((c8 r_0 r_1) && (decide (a7 r_0 r_1 = 94))))] _ ?_)
   refine a6 (fun _ hK_58' => ?_)
   refine a6 (fun _ hK_59' => ?_)
   refine a4 ?_
   refine wm ?_
   refine WL.nil ?_
   refine kg (hK_59' [(2, zP b_1'), (3, zP b_2'), (86, zB ((c8 r_0 r_1) && (decide (a7 r_0 r_1 = 94))))] _ ?_)
   refine c6 (b := (c8 r_0 r_1) && (decide (a7 r_0 r_1 = 94))) rfl (fun hb => ?_) (fun hb => ?_)
   ·replace h := k9 h hb
    refine a6 (fun _ hK_60' => ?_)
    refine a4 ?_
    refine wv (OV.loadR rfl (At.own 0 rfl) o6) ?_
    refine WL.call (A := []) ahk rfl (akm a_1') rfl trivial rfl rfl ?_
    refine WL.storeW (vs := wl (~~~ a_1')) 1 rfl rfl rfl rfl rfl q8 rfl rfl rfl ?_
    refine WL.nil ?_
    refine kg (hK_60' [(2, zP b_1')] _ ?_)
    refine c7 ?_
    exact hE.ret [2] rfl rfl (.inl ⟨_, _, _, h, rfl⟩) (e9.of1 rfl (RV.row rfl (At.own 1 rfl) o6))
   ·replace h := l0 h hb
    refine d4 ?_
    refine kg (hK_58' [(2, zP b_1'), (3, zP b_2')] _ ?_)
    refine a6 (fun _ hK_61' => ?_)
    refine a4 ?_
    refine wv (OV.loadR rfl (At.own 0 rfl) o6) ?_
    refine WL.storeW (vs := wl a_1') 1 rfl rfl rfl rfl rfl q8 rfl rfl rfl ?_
    refine WL.nil ?_
    refine kg (hK_61' [(2, zP b_1')] _ ?_)
    refine c7 ?_
    exact hE.ret [2] rfl rfl (.inl ⟨_, _, _, h, rfl⟩) (e9.of1 rfl (RV.row rfl (At.own 1 rfl) o6))
  ·replace h := l0 h hb
   refine d4 ?_
   refine kg (hK_53' [(0, zP b), (2, zP b_1'), (3, zP b_2'), (6, zB ((c8 r_0 r_1) && (decide (a7 r_0 r_1 = 94))))] _ ?_)
   refine a6 (fun _ hK_62' => ?_)
   refine a4 ?_
   refine wm ?_
   obtain ⟨o_32', h⟩ := h
   refine WL.pick (H' := [HA.blk b (.cells [st r_0, zI r_1_5'].toArray 222 (0, 0)), HA.blk b_2' (.cells (wl a_1').toArray 84 (0, 0)), HA.blk b_1' (.cells (wl cs0).toArray 84 (0, 0))]) [2, 0, 1] rfl rfl ?_
   refine WL.callS adr rfl (agd b te fre r_0 r_1_5' ([92, 93, 91, 45, 94, 47] : List UInt8) o_32') rfl ⟨.inr (List.mem_of_getElem? (i := 0) rfl), trivial⟩ rfl rfl (fun r H' hS => ?_) (fun c H' hS => ?_)
   ·rcases hS with ⟨r_7', at0_12', hc, ho⟩ | ⟨e_6', at0_13', hc, ho⟩ <;> cases ho
    replace h := h.1 r_7' at0_12' hc
    refine wa ?_
    refine WL.nil ?_
    refine kg (hK_62' [(0, zP b), (2, zP b_1'), (3, zP b_2'), (6, zB ((c8 r_0 r_1) && (decide (a7 r_0 r_1 = 94)))), (9, zU r_7')] _ ?_)
    refine a6 (fun _ hK_63' => ?_)
    refine a4 ?_
    refine wm ?_
    refine wa ?_
    refine WL.nil ?_
    refine kg (hK_63' [(0, zP b), (2, zP b_1'), (3, zP b_2'), (6, zB ((c8 r_0 r_1) && (decide (a7 r_0 r_1 = 94)))), (9, zU r_7'), (10, zU r_7')] _ ?_)
    obtain ⟨J0_3', hJ_3', h⟩ := h
    refine q9 (X := Int × Int) (fun σ => J0_3' σ.1 σ.2) (fun σ => [(0, zP b), (2, zP b_1'), (3, zP b_2'), (6, zB ((c8 r_0 r_1) && (decide (a7 r_0 r_1 = 94)))), (9, zU r_7'), (10, zU σ.1)]) (fun σ => [HA.blk b (.cells [st r_0, zI σ.2].toArray 222 (0, 0)), HA.blk b_2' (.cells (wl a_1').toArray 84 (0, 0)), HA.blk b_1' (.cells (wl cs0).toArray 84 (0, 0))]) ?_ (fun K0_71' hK_71' => ?_)
    ·rintro ⟨hi_2', r_1_6'⟩ hj
     replace h := hJ_3' hi_2' r_1_6' hj
     show WC _ _ _ _ [(0, zP b), (2, zP b_1'), (3, zP b_2'), (6, zB ((c8 r_0 r_1) && (decide (a7 r_0 r_1 = 94)))), (9, zU r_7'), (10, zU hi_2')] [HA.blk b (.cells [st r_0, zI r_1_6'].toArray 222 (0, 0)), HA.blk b_2' (.cells (wl a_1').toArray 84 (0, 0)), HA.blk b_1' (.cells (wl cs0).toArray 84 (0, 0))]
     refine o5 4 [] g8 (by kernel_rfl) rfl (fun T_2' hT_2' => ?_)
     refine fv (fun _ => OV.loadR rfl (At.own 1 rfl) o6) ?_
     refine fv (fun _ => OV.move rfl) ?_
     refine fv (fun _ => OV.move rfl) ?_
     obtain ⟨o_37', h⟩ := h
     refine FL.call ags (fun _ => rfl) (ah0 r_7' hi_2' o_37') trivial rfl (fun _ => rfl) rfl ?_
     refine FL.weak (L' := fun γ => [(0, zP b), (2, zP b_1'), (3, zP b_2'), (6, zB ((c8 r_0 r_1) && (decide (a7 r_0 r_1 = 94)))), (81, Value.agg (wl a_1').toArray), (84, Value.agg (wl (aaf (r_7').toNat (hi_2').toNat)).toArray)]) (fun γ => ⟨rfl, rfl, rfl, rfl, rfl, rfl, trivial⟩) (FL.nil (hT_2' (fun γ => [(0, zP b), (2, zP b_1'), (3, zP b_2'), (6, zB ((c8 r_0 r_1) && (decide (a7 r_0 r_1 = 94)))), (81, Value.agg (wl a_1').toArray), (84, Value.agg (wl (aaf (r_7').toNat (hi_2').toNat)).toArray)]) (fun γ => ?_)))
     refine WL.call (A := []) alv rfl (ale a_1' (aaf (r_7').toNat (hi_2').toNat)) rfl trivial rfl rfl ?_
     refine WL.storeW (vs := wl (a_1' ||| (aaf (r_7').toNat (hi_2').toNat))) 1 rfl rfl rfl rfl rfl q8 rfl rfl rfl ?_
     refine WL.nil ?_
     exact kh (hK_52' (a_1' ||| (aaf (r_7').toNat (hi_2').toNat), r_1_6') h.1 h.2) [1, 2, 0]
    ·skip
     refine a6 (fun _ hK_72' => ?_)
     refine a4 ?_
     refine wm ?_
     obtain ⟨o_38', h⟩ := h
     refine WL.call (A := []) y6 rfl (aak b r_0 at0_12' o_38') rfl ⟨.inl ⟨0, rfl⟩, trivial⟩ rfl rfl ?_
     refine wm ?_
     refine wv (OV.extract 0 rfl rfl) ?_
     refine wv (OV.extract 1 rfl rfl) ?_
     refine wa ?_
     refine wa ?_
     refine WL.nil ?_
     refine kg (hK_72' [(0, zP b), (2, zP b_1'), (3, zP b_2'), (6, zB ((c8 r_0 r_1) && (decide (a7 r_0 r_1 = 94)))), (9, zU r_7'), (10, zU r_7'), (11, zU (a7 r_0 at0_12')), (12, zB (c8 r_0 at0_12'))] _ ?_)
     refine a6 (fun _ hK_73' => ?_)
     refine a4 ?_
     refine wm ?_
     refine wm ?_
     refine WL.cut 3 [(0, zP b), (2, zP b_1'), (3, zP b_2'), (6, zB ((c8 r_0 r_1) && (decide (a7 r_0 r_1 = 94)))), (9, zU r_7'), (10, zU r_7'), (61, zB ((c8 r_0 at0_12') && (decide (a7 r_0 at0_12' = 45))))] ?_ (fun K0_74' hK_74' => ?_)
     rotate_left
     ·refine WL.split (c8 r_0 at0_12') (fun hb => ?_) (fun hb => ?_)
      ·refine WL.set 58 rfl (congrArg zB hb) ?_
       refine wm ?_
       refine wv (OV.eql rfl rfl) ?_
       refine wv (OV.pickT rfl rfl) ?_
       refine WL.set 61 rfl (bT (v := decide (a7 r_0 at0_12' = 45)) hb) ?_
       exact WL.end_ (kg hK_74')
      ·refine WL.set 58 rfl (congrArg zB hb) ?_
       refine wk ?_
       refine wk ?_
       refine wv (OV.pickF rfl rfl) ?_
       refine WL.set 61 rfl (bF (v := decide (a7 r_0 at0_12' = 45)) hb) ?_
       exact WL.end_ (kg hK_74')
     refine WL.nil ?_
     refine kg (hK_73' [(0, zP b), (2, zP b_1'), (3, zP b_2'), (6, zB ((c8 r_0 r_1) && (decide (a7 r_0 r_1 = 94)))), (9, zU r_7'), (10, zU r_7'), (61, zB ((c8 r_0 at0_12') && (decide (a7 r_0 at0_12' = 45))))] _ ?_)
     refine c6 (b := (c8 r_0 at0_12') && (decide (a7 r_0 at0_12' = 45))) rfl (fun hb => ?_) (fun hb => ?_)
     ·replace h := k9 h hb
      refine a6 (fun _ hK_75' => ?_)
      refine a4 ?_
      refine wm ?_
      refine wv (OV.nilCheck rfl) ?_
      refine wv (OV.fieldAddr0 rfl b7) ?_
      refine wv (OV.load rfl (At.own 0 rfl) rfl b8) ?_
      obtain ⟨o_40', h⟩ := h
      refine wv (OV.add rfl rfl o_40') ?_
      refine wv (OV.nilCheck rfl) ?_
      refine wv (OV.fieldAddr0 rfl b7) ?_
      refine WL.store (vs := [zI (at0_12' + 1)]) (cs' := [st r_0, zI (at0_12' + 1)]) 0 rfl rfl rfl rfl i8 (Nat.le_of_ble_eq_true rfl) rfl rfl rfl ?_
      refine WL.nil ?_
      refine kg (hK_75' [(0, zP b), (2, zP b_1'), (3, zP b_2'), (6, zB ((c8 r_0 r_1) && (decide (a7 r_0 r_1 = 94)))), (9, zU r_7')] _ ?_)
      refine a6 (fun _ hK_76' => ?_)
      refine a4 ?_
      refine wm ?_
      refine wv (OV.nilCheck rfl) ?_
      refine wv (OV.fieldAddr0 rfl b7) ?_
      refine wv (OV.load rfl (At.own 0 rfl) rfl b8) ?_
      refine wa ?_
      refine WL.nil ?_
      refine kg (hK_76' [(0, zP b), (2, zP b_1'), (3, zP b_2'), (6, zB ((c8 r_0 r_1) && (decide (a7 r_0 r_1 = 94)))), (9, zU r_7'), (13, zI (at0_12' + 1))] _ ?_)
      refine a6 (fun _ hK_77' => ?_)
      refine a4 ?_
      refine wm ?_
      obtain ⟨o_41', h⟩ := h
      refine WL.callS adr rfl (agd b te fre r_0 (at0_12' + 1) ([92, 93, 91, 45, 94, 47] : List UInt8) o_41') rfl ⟨.inr (List.mem_of_getElem? (i := 0) rfl), trivial⟩ rfl rfl (fun r H' hS => ?_) (fun c H' hS => ?_)
      ·rcases hS with ⟨r_9', at0_16', hc, ho⟩ | ⟨e_8', at0_17', hc, ho⟩ <;> cases ho
       replace h := h.1 r_9' at0_16' hc
       refine wa ?_
       refine WL.nil ?_
       refine kg (hK_77' [(0, zP b), (2, zP b_1'), (3, zP b_2'), (6, zB ((c8 r_0 r_1) && (decide (a7 r_0 r_1 = 94)))), (9, zU r_7'), (10, zU r_9'), (13, zI (at0_12' + 1))] _ ?_)
       refine a6 (fun _ hK_78' => ?_)
       refine a4 ?_
       refine wm ?_
       refine wm ?_
       refine wv (OV.lss rfl rfl) ?_
       refine WL.nil ?_
       refine kg (hK_78' [(0, zP b), (2, zP b_1'), (3, zP b_2'), (6, zB ((c8 r_0 r_1) && (decide (a7 r_0 r_1 = 94)))), (9, zU r_7'), (10, zU r_9'), (13, zI (at0_12' + 1)), (77, zB (decide (r_9' < r_7')))] _ ?_)
       refine c6 (b := decide (r_9' < r_7')) rfl (fun hb => ?_) (fun hb => ?_)
       ·replace h := k9 h hb
        refine a4 ?_
        refine wm ?_
        refine wm ?_
        refine WL.callS aaq rfl (abp b (at0_12' + 1)) rfl trivial rfl rfl (fun r H' hS => by cases hS) (fun c H' hS => ?_)
        cases hS
        exact hE.pan [0] rfl rfl (.inr ⟨_, _, _, h, rfl⟩)
       ·replace h := l0 h hb
        refine d4 ?_
        exact kh (hK_71' (r_9', at0_16') h) [0, 1, 2]
      ·rcases hS with ⟨r_9', at0_16', hc, ho⟩ | ⟨e_8', at0_17', hc, ho⟩ <;> cases ho
       replace h := h.2 e_8' at0_17' hc
       exact hE.pan [0] rfl rfl (.inr ⟨_, _, _, h, rfl⟩)
     ·replace h := l0 h hb
      refine d4 ?_
      exact kh (hK_71' (r_7', at0_12') h) [0, 1, 2]
   ·rcases hS with ⟨r_7', at0_12', hc, ho⟩ | ⟨e_6', at0_13', hc, ho⟩ <;> cases ho
    replace h := h.2 e_6' at0_13' hc
    exact hE.pan [0] rfl rfl (.inr ⟨_, _, _, h, rfl⟩)
 ·skip
  refine a6 (fun _ hK_79' => ?_)
  refine a4 ?_
  refine wm ?_
  refine WL.nil ?_
  refine kg (hK_79' [(0, zP b), (2, zP b_1'), (3, zP b_2'), (6, zB ((c8 r_0 r_1) && (decide (a7 r_0 r_1 = 94)))), (24, zB ((c8 r_0 r_1) && (decide (a7 r_0 r_1 = 94))))] _ ?_)
  refine c6 (b := (c8 r_0 r_1) && (decide (a7 r_0 r_1 = 94))) rfl (fun hb => ?_) (fun hb => ?_)
  ·replace h := k9 h hb
   refine a4 ?_
   refine wm ?_
   refine wv (OV.nilCheck rfl) ?_
   refine wv (OV.fieldAddr0 rfl b7) ?_
   refine wv (OV.load rfl (At.own 2 rfl) rfl b8) ?_
   obtain ⟨o_42', h⟩ := h
   refine wv (OV.add rfl rfl o_42') ?_
   refine wv (OV.nilCheck rfl) ?_
   refine wv (OV.fieldAddr0 rfl b7) ?_
   refine WL.store (vs := [zI (r_1 + 1)]) (cs' := [st r_0, zI (r_1 + 1)]) 2 rfl rfl rfl rfl i8 (Nat.le_of_ble_eq_true rfl) rfl rfl rfl ?_
   refine WL.nil ?_
   exact kh (hK_6' (r_1 + 1) h) [0, 1, 2]
  ·replace h := l0 h hb
   refine d4 ?_
   exact kh (hK_6' r_1 h) [0, 1, 2]
def adu (t : List UInt8) : Nat → CS → Int → Except Int (CS × Int)
 | 0, _, a => .error a
 | n + 1, s, a =>
  if a < t.length ∧ a7 t a = 93 then .ok (s, a + 1)
  else match aca t a inL with
   | .error e => .error e
   | .ok (lo, p) =>
    if p < t.length ∧ a7 t p = 45 then
     match aca t (p + 1) inL with
     | .error e => .error e
     | .ok (hi, q) => if hi < lo then .error (p + 1) else adu t n (s ||| aaf lo.toNat hi.toNat) q
    else adu t n (s ||| aaf lo.toNat lo.toNat) p
def afq (t : List UInt8) (a : Int) : Except Int (CS × Int) :=
 if a < t.length ∧ a7 t a = 94 then
  match adu t (t.length + 1) cs0 (a + 1) with
  | .ok (s, q) => .ok (~~~ s, q)
  | .error e => .error e
 else adu t (t.length + 1) cs0 a
def apy (b : Nat) (t : List UInt8) (m : Except Int (CS × Int)) : Out → Prop := fun o =>
 (∃ r q, m = .ok (r, q) ∧ o = .ret (.agg (wl r).toArray) [aek b t q]) ∨ (∃ e q, m = .error e ∧ o = .pan [{ v := j4 10 e, recovered := false }] [aek b t q])
theorem aqg {t : List UInt8} {a r q : Int} (h : afm t a = .ok (r, q)) : 0 ≤ r ∧ r < 256 ∧ a < q ∧ q ≤ t.length := by
 have hb := acl t a
 unfold afm at h
 split at h
 ·rename_i h1
  simp only at h
  repeat' split at h
  all_goals first
   | (cases h; done)
   | (cases h; omega)
   | skip
  rename_i hp _ _ _ hq
  have h3 := ac6 hp
  have h4 := ac6 hq
  cases h
  omega
 ·cases h
theorem aba {t : List UInt8} {a r q : Int} {bar : List UInt8} (h : aca t a bar = .ok (r, q)) : 0 ≤ r ∧ r < 256 ∧ a < q ∧ q ≤ t.length := by
 have hb := acl t a
 unfold aca at h
 split at h
 ·simp only at h
  split at h
  ·have := aqg h; omega
  ·split at h
   ·cases h
   ·cases h; omega
 ·cases h
theorem ai5 (b : Nat) (te : TypeId) (fre : Nat × Nat) (t : List UInt8) (a : Int) (h : 0 ≤ a ∧ a ≤ t.length ∧ t.length ≤ 9223372036854775807) : c9 Tryd.prog 174 [.pointer (some ⟨b, 0, none⟩)] (o8 te fre) [aek b t a] (apy b t (afq t a)) := by
 refine (al6 b te fre t a (fun r t' q => t' = t ∧ afq t a = .ok (r, q)) (fun v t' _ => t' = t ∧ ∃ e, afq t a = .error e ∧ v = j4 10 e) ?_).weak ?_
 ·unfold adv
  refine ⟨h.1, fun p => a ≤ p ∧ p ≤ t.length ∧ afq t a = (if a < t.length ∧ a7 t a = 94 then match adu t (t.length + 1) cs0 p with
    | .ok (s, q) => .ok (~~~ s, q)
    | .error e => .error e
   else adu t (t.length + 1) cs0 p), fun p hp => ?_, ?_⟩
  ·obtain ⟨hp0, hpl, hM⟩ := hp
   obtain ⟨R, hR⟩ : ∃ R, adu t (t.length + 1) cs0 p = R := ⟨_, rfl⟩
   rw [hR] at hM
   refine ⟨fun s q => a ≤ q ∧ q ≤ t.length ∧ ∃ n, t.length - q.toNat < n ∧ R = adu t n s q, fun _ q => t.length - q.toNat, ⟨hp0, hpl, _, by omega, hR.symm⟩, ?_⟩
   rintro s q ⟨hq0, hql, n, hn, hF⟩
   obtain ⟨n, rfl⟩ : ∃ m, n = m + 1 := ⟨n - 1, by omega⟩
   rw [adu] at hF
   refine ⟨by omega, ?_⟩
   by_cases h1 : q < t.length ∧ a7 t q = 93
   ·rw [if_pos (by simpa [c8] using h1)]
    rw [if_pos h1] at hF
    refine ⟨⟨by omega, by omega⟩, ?_⟩
    by_cases h2 : a < t.length ∧ a7 t a = 94
    ·rw [if_pos (by simpa [c8] using h2)]
     rw [if_pos h2, hF] at hM
     exact ⟨rfl, hM⟩
    ·rw [if_neg (by simpa [c8] using h2)]
     rw [if_neg h2, hF] at hM
     exact ⟨rfl, hM⟩
   ·rw [if_neg (by simpa [c8] using h1)]
    rw [if_neg h1] at hF
    refine ⟨⟨by omega, hql, h.2.2⟩, fun lo p1 hlo => ?_, fun e p1 he => ?_⟩
    ·have b1 := aba hlo
     rw [show ([92, 93, 91, 45, 94, 47] : List UInt8) = inL from rfl] at hlo
     rw [hlo] at hF
     simp only at hF
     refine ⟨fun hi q' => 0 ≤ hi ∧ hi < 256 ∧ q < q' ∧ q' ≤ t.length ∧ R = adu t n (s ||| aaf lo.toNat hi.toNat) q', fun hi q' hh => ?_, by omega, ?_⟩
     ·obtain ⟨c1, c2, c3, c4, c5⟩ := hh
      have d1 : q.toNat < q'.toNat := by omega
      have d2 : q'.toNat ≤ t.length := by omega
      clear hM hF
      exact ⟨⟨⟨b1.1, b1.2.1⟩, c1, c2⟩, ⟨by omega, c4, n, by omega, c5⟩, by show t.length - q'.toNat < t.length - q.toNat; omega⟩
     ·by_cases h3 : p1 < t.length ∧ a7 t p1 = 45
      ·rw [if_pos (by simpa [c8] using h3)]
       rw [if_pos h3] at hF
       refine ⟨⟨by omega, by omega⟩, ⟨by omega, by omega, h.2.2⟩, fun hi p2 hhi => ?_, fun e p2 he => ?_⟩
       ·have b2 := aba hhi
        rw [show ([92, 93, 91, 45, 94, 47] : List UInt8) = inL from rfl] at hhi
        rw [hhi] at hF
        simp only at hF
        by_cases h4 : hi < lo
        ·rw [if_pos (by simpa using h4)]
         rw [if_pos h4] at hF
         rw [hF] at hM
         refine ⟨rfl, _, ?_, rfl⟩
         rw [hM]; split <;> rfl
        ·rw [if_neg (by simpa using h4)]
         rw [if_neg h4] at hF
         exact ⟨b2.1, b2.2.1, by omega, b2.2.2.2, hF⟩
       ·rw [show ([92, 93, 91, 45, 94, 47] : List UInt8) = inL from rfl] at he
        rw [he] at hF
        simp only at hF
        rw [hF] at hM
        refine ⟨rfl, _, ?_, rfl⟩
        rw [hM]; split <;> rfl
      ·rw [if_neg (by simpa [c8] using h3)]
       rw [if_neg h3] at hF
       exact ⟨b1.1, b1.2.1, by omega, b1.2.2.2, hF⟩
    ·rw [show ([92, 93, 91, 45, 94, 47] : List UInt8) = inL from rfl] at he
     rw [he] at hF
     simp only at hF
     rw [hF] at hM
     refine ⟨rfl, _, ?_, rfl⟩
     rw [hM]; split <;> rfl
  ·by_cases h2 : a < t.length ∧ a7 t a = 94
   ·rw [if_pos (by simpa [c8] using h2)]
    refine ⟨⟨by omega, by omega⟩, by omega, by omega, ?_⟩
    rw [if_pos h2]; unfold afq; rw [if_pos h2]
   ·rw [if_neg (by simpa [c8] using h2)]
    refine ⟨by omega, by omega, ?_⟩
    rw [if_neg h2]; unfold afq; rw [if_neg h2]
 ·rintro o (⟨r, t', q, ⟨rfl, hm⟩, rfl⟩ | ⟨v, t', q, ⟨rfl, e, hm, rfl⟩, rfl⟩)
  ·exact .inl ⟨r, q, hm, rfl⟩
  ·exact .inr ⟨e, q, hm, rfl⟩
def aix (r_0 : List UInt8) (r_1 : Int) (K : CS → (List UInt8) → Int → Prop) (KP : Value → (List UInt8) → Int → Prop) : Prop :=
 (0 ≤ r_1 ∧ r_1 < r_0.length) ∧
 (if (decide (((r_0.getD r_1.toNat 0).toNat : Int) = 46)) = true then
  (I64 (r_1 + 1)) ∧
  (([10] : List UInt8).length ≤ maxLen) ∧
  K (~~~ (ofS ([10] : List UInt8))) r_0 (r_1 + 1)
 else
  (if (decide (((r_0.getD r_1.toNat 0).toNat : Int) = 91)) = true then
   (I64 (r_1 + 1)) ∧
   (0 ≤ r_1 + 1 ∧ r_1 + 1 ≤ r_0.length ∧ r_0.length ≤ 9223372036854775807) ∧
   (∀ (r_1' : CS) (at0 : Int), afq r_0 (r_1 + 1) = .ok (r_1', at0) →
    K r_1' r_0 at0) ∧
   (∀ (e : Int) (at0_1' : Int), afq r_0 (r_1 + 1) = .error e →
    KP (j4 10 e) r_0 at0_1')
  else
   (0 ≤ r_1 ∧ r_1 ≤ r_0.length ∧ r_0.length ≤ 9223372036854775807) ∧
   (∀ (r_2' : Int) (at0_2' : Int), aca r_0 r_1 ([40, 41, 91, 93, 123, 125, 124, 38, 45, 42, 43, 63, 46, 92, 47, 94] : List UInt8) = .ok (r_2', at0_2') →
    ((0 ≤ r_2' ∧ r_2' < 256) ∧ (0 ≤ r_2' ∧ r_2' < 256)) ∧
    K (aaf (r_2').toNat (r_2').toNat) r_0 at0_2') ∧
   (∀ (e_1' : Int) (at0_3' : Int), aca r_0 r_1 ([40, 41, 91, 93, 123, 125, 124, 38, 45, 42, 43, 63, 46, 92, 47, 94] : List UInt8) = .error e_1' →
    KP (j4 10 e_1') r_0 at0_3')))
theorem aqm (b : Nat) (te : TypeId) (fre : Nat × Nat) (r_0 : List UInt8) (r_1 : Int) (K : CS → (List UInt8) → Int → Prop) (KP : Value → (List UInt8) → Int → Prop) (h : aix r_0 r_1 K KP) :
  c9 Tryd.prog 170 [zP b] [(1, .cells [zU 110, zU 10, zU 114, zU 13, zU 116, zU 9].toArray te fre)] [HA.blk b (.cells [st r_0, zI r_1].toArray 222 (0, 0))] (fun o => (∃ (v : CS) (d_0 : List UInt8) (d_1 : Int), K v d_0 d_1 ∧ o = .ret (Value.agg (wl v).toArray) [HA.blk b (.cells [st d_0, zI d_1].toArray 222 (0, 0))]) ∨ (∃ (pv : Value) (d_0 : List UInt8) (d_1 : Int), KP pv d_0 d_1 ∧ o = .pan [{ v := pv, recovered := false }] [HA.blk b (.cells [st d_0, zI d_1].toArray 222 (0, 0))])) := by
 unfold aix at h
 refine b5 (n := 42) (L0 := [(0, zP b)]) Tryd.func170 rfl rfl rfl rfl (fun w0 M Q hE => ?_)
 refine a6 (fun _ hK => ?_)
 refine a4 ?_
 refine WL.make (MV.alloc aax) rfl rfl rfl (fun b_1' => ?_)
 refine WL.nil ?_
 refine kg (hK [(0, zP b), (2, zP b_1')] _ ?_)
 refine a6 (fun _ hK_1' => ?_)
 refine a6 (fun _ hK_2' => ?_)
 refine o5 8 [] g8 (by kernel_rfl) rfl (fun T hT => ?_)
 refine fv (fun _ => OV.move rfl) ?_
 refine fv (fun _ => OV.nilCheck rfl) ?_
 refine fv (fun _ => OV.fieldAddr0 rfl aav) ?_
 refine fv (fun _ => OV.load rfl (At.own 1 rfl) rfl q7) ?_
 refine fv (fun _ => OV.move rfl) ?_
 refine fv (fun _ => OV.nilCheck rfl) ?_
 refine fv (fun _ => OV.fieldAddr0 rfl b7) ?_
 refine fv (fun _ => OV.load rfl (At.own 1 rfl) rfl b8) ?_
 refine FL.weak (L' := fun γ => [(0, zP b), (2, zP b_1'), (8, st r_0), (12, zI r_1)]) (fun γ => ⟨rfl, rfl, rfl, rfl, trivial⟩) (FL.nil (hT (fun γ => [(0, zP b), (2, zP b_1'), (8, st r_0), (12, zI r_1)]) (fun γ => ?_)))
 obtain ⟨o, h⟩ := h
 refine wv (OV.index rfl rfl t0 o) ?_
 refine wa ?_
 refine WL.nil ?_
 refine kg (hK_2' [(0, zP b), (2, zP b_1'), (3, zU ((r_0.getD r_1.toNat 0).toNat : Int))] _ ?_)
 refine a6 (fun _ hK_3' => ?_)
 refine a4 ?_
 refine wm ?_
 refine WL.nil ?_
 refine kg (hK_3' [(0, zP b), (2, zP b_1'), (14, zU ((r_0.getD r_1.toNat 0).toNat : Int))] _ ?_)
 refine f0 ?_
 refine a6 (fun _ hK_4' => ?_)
 refine a4 ?_
 refine wv (OV.eql rfl rfl) ?_
 refine wa ?_
 refine WL.nil ?_
 refine kg (hK_4' [(0, zP b), (2, zP b_1'), (14, zU ((r_0.getD r_1.toNat 0).toNat : Int)), (15, zB (decide (((r_0.getD r_1.toNat 0).toNat : Int) = 46)))] _ ?_)
 refine c6 (b := decide (((r_0.getD r_1.toNat 0).toNat : Int) = 46)) rfl (fun hb => ?_) (fun hb => ?_)
 ·replace h := k9 h hb
  refine a6 (fun _ hK_5' => ?_)
  refine a4 ?_
  refine wm ?_
  refine wv (OV.nilCheck rfl) ?_
  refine wv (OV.fieldAddr0 rfl b7) ?_
  refine wv (OV.load rfl (At.own 1 rfl) rfl b8) ?_
  obtain ⟨o_1', h⟩ := h
  refine wv (OV.add rfl rfl o_1') ?_
  refine wv (OV.nilCheck rfl) ?_
  refine wv (OV.fieldAddr0 rfl b7) ?_
  refine WL.store (vs := [zI (r_1 + 1)]) (cs' := [st r_0, zI (r_1 + 1)]) 1 rfl rfl rfl rfl i8 (Nat.le_of_ble_eq_true rfl) rfl rfl rfl ?_
  refine WL.nil ?_
  refine kg (hK_5' [(2, zP b_1')] _ ?_)
  refine a6 (fun _ hK_6' => ?_)
  refine a4 ?_
  obtain ⟨o_2', h⟩ := h
  refine WL.call (A := []) anr rfl (aq7 ([10] : List UInt8) o_2') rfl trivial rfl rfl ?_
  refine WL.call (A := []) ahk rfl (akm (ofS ([10] : List UInt8))) rfl trivial rfl rfl ?_
  refine WL.storeW (vs := wl (~~~ (ofS ([10] : List UInt8)))) 0 rfl rfl rfl rfl rfl q8 rfl rfl rfl ?_
  refine WL.nil ?_
  refine kg (hK_6' [(2, zP b_1')] _ ?_)
  refine c7 ?_
  exact hE.ret [1] rfl rfl (.inl ⟨_, _, _, h, rfl⟩) (e9.of1 rfl (RV.row rfl (At.own 0 rfl) o6))
 ·replace h := l0 h hb
  refine a6 (fun _ hK_7' => ?_)
  refine a4 ?_
  refine wv (OV.eql rfl rfl) ?_
  refine wa ?_
  refine WL.nil ?_
  refine kg (hK_7' [(0, zP b), (2, zP b_1'), (26, zB (decide (((r_0.getD r_1.toNat 0).toNat : Int) = 91)))] _ ?_)
  refine c6 (b := decide (((r_0.getD r_1.toNat 0).toNat : Int) = 91)) rfl (fun hb => ?_) (fun hb => ?_)
  ·replace h := k9 h hb
   refine a6 (fun _ hK_8' => ?_)
   refine a4 ?_
   refine wm ?_
   refine wv (OV.nilCheck rfl) ?_
   refine wv (OV.fieldAddr0 rfl b7) ?_
   refine wv (OV.load rfl (At.own 1 rfl) rfl b8) ?_
   obtain ⟨o_3', h⟩ := h
   refine wv (OV.add rfl rfl o_3') ?_
   refine wv (OV.nilCheck rfl) ?_
   refine wv (OV.fieldAddr0 rfl b7) ?_
   refine WL.store (vs := [zI (r_1 + 1)]) (cs' := [st r_0, zI (r_1 + 1)]) 1 rfl rfl rfl rfl i8 (Nat.le_of_ble_eq_true rfl) rfl rfl rfl ?_
   refine WL.nil ?_
   refine kg (hK_8' [(0, zP b), (2, zP b_1')] _ ?_)
   refine a6 (fun _ hK_9' => ?_)
   refine a4 ?_
   refine wm ?_
   obtain ⟨o_4', h⟩ := h
   refine WL.pick (H' := [HA.blk b (.cells [st r_0, zI (r_1 + 1)].toArray 222 (0, 0)), HA.blk b_1' (.cells (wl cs0).toArray 84 (0, 0))]) [1, 0] rfl rfl ?_
   refine WL.callS alz rfl (ai5 b te fre r_0 (r_1 + 1) o_4') rfl ⟨.inr (List.mem_of_getElem? (i := 0) rfl), trivial⟩ rfl rfl (fun r H' hS => ?_) (fun c H' hS => ?_)
   ·rcases hS with ⟨r_1', at0, hc, ho⟩ | ⟨e, at0_1', hc, ho⟩ <;> cases ho
    replace h := h.1 r_1' at0 hc
    refine WL.storeW (vs := wl r_1') 1 rfl rfl rfl rfl rfl q8 rfl rfl rfl ?_
    refine WL.nil ?_
    refine kg (hK_9' [(2, zP b_1')] _ ?_)
    refine c7 ?_
    exact hE.ret [0] rfl rfl (.inl ⟨_, _, _, h, rfl⟩) (e9.of1 rfl (RV.row rfl (At.own 1 rfl) o6))
   ·rcases hS with ⟨r_1', at0, hc, ho⟩ | ⟨e, at0_1', hc, ho⟩ <;> cases ho
    replace h := h.2 e at0_1' hc
    exact hE.pan [0] rfl rfl (.inr ⟨_, _, _, h, rfl⟩)
  ·replace h := l0 h hb
   refine d4 ?_
   refine kg (hK_1' [(0, zP b), (2, zP b_1')] _ ?_)
   refine a6 (fun _ hK_10' => ?_)
   refine a4 ?_
   refine wm ?_
   obtain ⟨o_5', h⟩ := h
   refine WL.pick (H' := [HA.blk b (.cells [st r_0, zI r_1].toArray 222 (0, 0)), HA.blk b_1' (.cells (wl cs0).toArray 84 (0, 0))]) [1, 0] rfl rfl ?_
   refine WL.callS adr rfl (agd b te fre r_0 r_1 ([40, 41, 91, 93, 123, 125, 124, 38, 45, 42, 43, 63, 46, 92, 47, 94] : List UInt8) o_5') rfl ⟨.inr (List.mem_of_getElem? (i := 0) rfl), trivial⟩ rfl rfl (fun r H' hS => ?_) (fun c H' hS => ?_)
   ·rcases hS with ⟨r_2', at0_2', hc, ho⟩ | ⟨e_1', at0_3', hc, ho⟩ <;> cases ho
    replace h := h.1 r_2' at0_2' hc
    refine wa ?_
    refine WL.nil ?_
    refine kg (hK_10' [(2, zP b_1'), (4, zU r_2')] _ ?_)
    refine a6 (fun _ hK_11' => ?_)
    refine a4 ?_
    refine wm ?_
    refine wm ?_
    obtain ⟨o_6', h⟩ := h
    refine WL.call (A := []) ags rfl (ah0 r_2' r_2' o_6') rfl trivial rfl rfl ?_
    refine WL.storeW (vs := wl (aaf (r_2').toNat (r_2').toNat)) 1 rfl rfl rfl rfl rfl q8 rfl rfl rfl ?_
    refine WL.nil ?_
    refine kg (hK_11' [(2, zP b_1')] _ ?_)
    refine c7 ?_
    exact hE.ret [0] rfl rfl (.inl ⟨_, _, _, h, rfl⟩) (e9.of1 rfl (RV.row rfl (At.own 1 rfl) o6))
   ·rcases hS with ⟨r_2', at0_2', hc, ho⟩ | ⟨e_1', at0_3', hc, ho⟩ <;> cases ho
    replace h := h.2 e_1' at0_3' hc
    exact hE.pan [0] rfl rfl (.inr ⟨_, _, _, h, rfl⟩)
def aao (t : List UInt8) (a : Int) : Except Int (CS × Int) :=
 if a7 t a = 46 then .ok (~~~ ofS [10], a + 1)
 else if a7 t a = 91 then afq t (a + 1)
 else match aca t a spL with
  | .ok (b, q) => .ok (aaf b.toNat b.toNat, q)
  | .error e => .error e
theorem anm (b : Nat) (te : TypeId) (fre : Nat × Nat) (t : List UInt8) (a : Int) (h : 0 ≤ a ∧ a < t.length ∧ t.length ≤ 9223372036854775807) : c9 Tryd.prog 170 [.pointer (some ⟨b, 0, none⟩)] (o8 te fre) [aek b t a] (apy b t (aao t a)) := by
 refine (aqm b te fre t a (fun r t' q => t' = t ∧ aao t a = .ok (r, q)) (fun v t' _ => t' = t ∧ ∃ e, aao t a = .error e ∧ v = j4 10 e) ?_).weak ?_
 ·have hp : a7 t a = ((t.getD a.toNat 0).toNat : Int) := by unfold a7; rw [if_pos h.2.1]
  unfold aix
  rw [← hp]
  have hI : I64 (a + 1) := ⟨by omega, by omega⟩
  refine ⟨⟨h.1, h.2.1⟩, ?_⟩
  by_cases h1 : a7 t a = 46
  ·rw [if_pos (by simpa using h1)]
   exact ⟨hI, by decide, rfl, by unfold aao; rw [if_pos h1]⟩
  ·rw [if_neg (by simpa using h1)]
   by_cases h2 : a7 t a = 91
   ·rw [if_pos (by simpa using h2)]
    have hM : aao t a = afq t (a + 1) := by unfold aao; rw [if_neg h1, if_pos h2]
    rw [hM]
    exact ⟨hI, ⟨by omega, by omega, h.2.2⟩, fun r q hr => ⟨rfl, hr⟩, fun e q he => ⟨rfl, e, he, rfl⟩⟩
   ·rw [if_neg (by simpa using h2)]
    refine ⟨⟨h.1, by omega, h.2.2⟩, fun r q hr => ?_, fun e q he => ?_⟩
    ·have b1 := aba hr
     refine ⟨⟨⟨b1.1, b1.2.1⟩, b1.1, b1.2.1⟩, rfl, ?_⟩
     unfold aao; rw [if_neg h1, if_neg h2, show spL = [40, 41, 91, 93, 123, 125, 124, 38, 45, 42, 43, 63, 46, 92, 47, 94] from rfl, hr]
    ·refine ⟨rfl, e, ?_, rfl⟩
     unfold aao; rw [if_neg h1, if_neg h2, show spL = [40, 41, 91, 93, 123, 125, 124, 38, 45, 42, 43, 63, 46, 92, 47, 94] from rfl, he]
 ·rintro o (⟨r, t', q, ⟨rfl, hm⟩, rfl⟩ | ⟨v, t', q, ⟨rfl, e, hm, rfl⟩, rfl⟩)
  ·exact .inl ⟨r, q, hm, rfl⟩
  ·exact .inr ⟨e, q, hm, rfl⟩
end Go.Proofs.YtohnchdnkbadaaaDoor
namespace Go.Proofs.YtohnchdnkbadaaaDoor
open Go Go.RowKit
variable {P : Program} {ops : Array Oper} {Q : Exit → Act → World → Prop} {C : Cx} {L : Sl} {H : List HA} {rest : List Oper} {o : Oper}
def abr (P : Program) (f : FuncId) (args : List Value) (u u' : FrameMode) (R : List (Nat × Obj)) (A : List HA) (S : Out → Prop) : Prop :=
 ∀ w M, Own w A M → M.Nodup → (∀ k ∈ M, k < w.heap.size) → (∀ p ∈ R, w.heap[p.1]? = some p.2 ∧ p.1 ∉ M) → CallsD P f args.toArray u w (fun e u'' w' => u'' = u' ∧ ∃ H', aeq S e H' ∧ Hp ⟨0, [], w, M, R⟩ H' w')
def ap4 (u : FrameMode) (v : Value) (u' : FrameMode) : Prop :=
 (u = .returning ∧ v = .nilIface ∧ u' = .returning) ∨ (∃ x, u = .panicking [{ v := x, recovered := false }] ∧ v = x ∧ u' = .panicking [{ v := x, recovered := true }])
theorem ac1 {f : FuncId} {fn : Func} {y : Code} {args : List Value} {R : List (Nat × Obj)} {A : List HA} {S : Out → Prop} {L0 : Sl} {n id d d2 : Nat} {ats : Array TypeId} {t1 t2 : TypeId} {p1 p2 : String} {e1 e2 : Array Edge} {u u' : FrameMode} {v : Value}
  (hf : P.funcs[f]? = some fn) (hb : fn.body = some (.seq (.region id [⟨some d, .call ⟨.builtin .recover, #[], ats⟩, t1, p1, e1, none⟩, ⟨some d2, .assign (.tmp d), t2, p2, e2, none⟩].toArray false) y)) (hnt : fn.ntmps = n) (hl : Nat.ble args.length n = true)
  (hL : (List.range args.length).zip args = L0) (hd : Nat.blt d n = true) (hd2 : Nat.blt d2 n = true) (hu : ap4 u v u')
  (h : ∀ w0 M Q, Ends P fn ⟨n, [], w0, M, R⟩ S Q → WC P y Q ⟨n, [], w0, M, R⟩ ((d2, v) :: (d, v) :: L0) A) : abr P f args u u' R A S := by
 intro w M hO hn hlt hR
 subst hnt
 have hle : args.length ≤ fn.ntmps := Nat.le_of_ble_eq_true hl
 refine callsD_of_wpS hf hb fun c₀ cs hc => ?_
 refine wpS_seq (wpS_region ?_)
 have hd' : d < fn.ntmps := Nat.blt_eq ▸ hd
 have hfr : Fr ⟨fn.ntmps, [], w, M, R⟩ L0 ⟨args.toArray ++ Array.replicate (fn.ntmps - args.toArray.size) undef, []⟩ := by
  refine ⟨rfl, by simp; omega, ?_⟩
  intro i x hg
  subst hL
  have hm := Sl.get_mem hg
  obtain ⟨j, hj⟩ := List.mem_iff_getElem?.1 hm
  rw [List.getElem?_zip_eq_some] at hj
  obtain ⟨h1, h2⟩ := hj
  have hij : j = i := by
   have h3 := (List.getElem?_eq_some_iff.1 h1)
   obtain ⟨h4, h5⟩ := h3
   simp at h5; exact h5
  subst hij
  have hjl : j < args.length := (List.getElem?_eq_some_iff.1 h2).1
  simp only [List.size_toArray]
  rw [Array.getElem?_append_left (by simpa using hjl)]
  simpa using h2
 generalize (⟨args.toArray ++ Array.replicate (fn.ntmps - args.toArray.size) undef, []⟩ : Act) = a0 at hfr ⊢
 have hfr2 := (hfr.put hd v).put hd2 v
 have hp := Hp.start fn.ntmps [] w hO hn hlt hR
 have hrun : (execOp a0.eval ⟨some d, .call ⟨.builtin .recover, #[], ats⟩, t1, p1, e1, none⟩).run P w = .ok .recover w := by
  simp [execOp, resolve, invoke, builtin]
 have hev : (a0.put (some d) v).eval (.tmp d) = v := (hfr.put hd v).ev (x := .tmp d) (by simp [ev, Sl.get])
 have hrun2 : (execOp (a0.put (some d) v).eval ⟨some d2, .assign (.tmp d), t2, p2, e2, none⟩).run P w = .ok (.value v) w := by
  simp only [execOp, hev, Sem.run_pure]
 have key : ∀ cs', (match recoverD (c₀ :: cs) with | some (x, c') => x = v ∧ c' = cs' | none => .nilIface = v ∧ (c₀ :: cs) = cs') → cs' = { c₀ with mode := u' } :: cs →
   wpOpsS P [⟨some d, .call ⟨.builtin .recover, #[], ats⟩, t1, p1, e1, none⟩, ⟨some d2, .assign (.tmp d), t2, p2, e2, none⟩].toArray (Exit.thenS (y.wpS P (bodyPostS P fn c₀ cs fun e u'' w' => u'' = u' ∧ ∃ H', aeq S e H' ∧ Hp ⟨0, [], w, M, R⟩ H' w')) (bodyPostS P fn c₀ cs fun e u'' w' => u'' = u' ∧ ∃ H', aeq S e H' ∧ Hp ⟨0, [], w, M, R⟩ H' w')) [0, 1] a0 (c₀ :: cs) w := by
  intro cs' hrec hcs'
  have hy : y.wpS P (bodyPostS P fn c₀ cs fun e u'' w' => u'' = u' ∧ ∃ H', aeq S e H' ∧ Hp ⟨0, [], w, M, R⟩ H' w') ((a0.put (some d) v).put (some d2) v) cs' w := by
   subst hcs'
   refine wpS_of_wp ?_
   refine h w M _ ?_ _ _ hfr2 hp
   refine ⟨fun idx hi he hS hr a w' hfr hp => ?_, fun idx hi he hS hr a w' hfr hp => ?_, fun idx hi he hS a w' hfr hp => ?_⟩
   ·exact ⟨hfr.defers, u', rfl, _, hr a w' hfr hp, rfl, _, .inl ⟨_, rfl, hS⟩, he ▸ (hp.pick idx hi).ctx⟩
   ·exact ⟨hfr.defers, u', rfl, _, hr a w' hfr hp, rfl, _, .inl ⟨_, rfl, hS⟩, he ▸ (hp.pick idx hi).ctx⟩
   ·exact ⟨hfr.defers, u', rfl, rfl, _, .inr ⟨_, rfl, hS⟩, he ▸ (hp.pick idx hi).ctx⟩
  have hy2 : wpOpsS P [⟨some d, .call ⟨.builtin .recover, #[], ats⟩, t1, p1, e1, none⟩, ⟨some d2, .assign (.tmp d), t2, p2, e2, none⟩].toArray (Exit.thenS (y.wpS P (bodyPostS P fn c₀ cs fun e u'' w' => u'' = u' ∧ ∃ H', aeq S e H' ∧ Hp ⟨0, [], w, M, R⟩ H' w')) (bodyPostS P fn c₀ cs fun e u'' w' => u'' = u' ∧ ∃ H', aeq S e H' ∧ Hp ⟨0, [], w, M, R⟩ H' w')) [1] (a0.put (some d) v) cs' w := by
   simp only [wpOpsS, List.getElem?_toArray, List.getElem?_cons_succ, List.getElem?_cons_zero, Region.wanted, if_true, hrun2, Oper.upon]
   exact hy
  unfold wpOpsS
  simp only [List.getElem?_toArray, List.getElem?_cons_zero, Region.wanted, if_true, hrun]
  cases hr : recoverD (c₀ :: cs) with
  | none => rw [hr] at hrec; obtain ⟨rfl, rfl⟩ := hrec; exact hy2
  | some q => rw [hr] at hrec; obtain ⟨x, c'⟩ := q; obtain ⟨rfl, rfl⟩ := hrec; exact hy2
 have hrange : List.range ([⟨some d, .call ⟨.builtin .recover, #[], ats⟩, t1, p1, e1, none⟩, ⟨some d2, .assign (.tmp d), t2, p2, e2, none⟩] : List Oper).toArray.size = [0, 1] := rfl
 rw [hrange]
 rcases hu with ⟨rfl, rfl, rfl⟩ | ⟨x, rfl, rfl, rfl⟩
 ·refine key _ ?_ rfl
  have : recoverD (c₀ :: cs) = none := by simp [recoverD, hc]
  rw [this]
  exact ⟨rfl, by cases c₀; simp_all⟩
 ·refine key _ ?_ rfl
  have : recoverD (c₀ :: cs) = some (v, { c₀ with mode := .panicking [{ v, recovered := true }] } :: cs) := by simp [recoverD, hc]
  rw [this]
  exact ⟨rfl, rfl⟩
theorem anf {x y : Code} (h : ∀ K : Act → World → Prop, (∀ C L H, WC P y Q C L H → KX K C L H) → WC P x (Exit.then K Q) C L H) : WC P (.seq x y) Q C L H :=
 fun a w hf hp => wp_seq (h _ (fun _ _ _ hy => hy) a w hf hp)
theorem OV.makeFunc {f : FuncId} {xs : List Operand} {vs : List Value} {ty : TypeId} {d : Option Tmp} {p : String} {e : Array Edge} {g : Option (Nat × Bool)} (hx : evs L xs = some vs) : OV P C L H ⟨d, .makeFunc (.func f) #[] xs.toArray, ty, p, e, g⟩ (.func (.func f) #[] vs.toArray) := fun a w hf _ => by
 simp [execOp, Instr.makeFunc, acj hf hx]
theorem WL.defer {x : Operand} {ats : Array TypeId} {ty : TypeId} {p : String} {e : Array Edge} {d : Option Tmp} {f : FuncId} {vs : List Value} (hx : ev L x = some (.func (.func f) #[] vs.toArray)) (hd : d = none)
  (h : WL P ops Q { C with D := ⟨.fn (.func f) vs.toArray, #[]⟩ :: C.D } L H rest) : WL P ops Q C L H (⟨d, .defer ⟨.value x, #[], ats⟩, ty, p, e, none⟩ :: rest) := by
 intro a w hf hp
 subst hd
 refine r5 (by simp [Region.wanted]) ?_
 unfold Oper.wp
 have : (execOp a.eval ⟨none, .defer ⟨.value x, #[], ats⟩, ty, p, e, none⟩).run P w = .ok (.defer ⟨.fn (.func f) vs.toArray, #[]⟩) w := by
  simp [execOp, resolve, hf.ev hx, Deferred.ofValue]
 rw [this]
 simp only [Oper.upon, Act.put]
 exact h _ _ ⟨by simp [hf.defers], hf.size, hf.get⟩ hp.ctx
structure EndsD (P : Program) (fn : Func) (n : Nat) (w0 : World) (M : List Nat) (R : List (Nat × Obj)) (S : Out → Prop) (Q : Exit → Act → World → Prop) : Prop where
 ret : ∀ {D : List Deferred} {L : Sl} {H : List HA}, (∀ a w, Fr ⟨n, D, w0, M, R⟩ L a → Hp ⟨n, D, w0, M, R⟩ H w → Leaves P fn a.tmps (fun e w' => ∃ H', aeq S e H' ∧ Hp ⟨0, [], w0, M, R⟩ H' w') D .returning w) → QX Q .ret ⟨n, D, w0, M, R⟩ L H
 norm : ∀ {D : List Deferred} {L : Sl} {H : List HA}, (∀ a w, Fr ⟨n, D, w0, M, R⟩ L a → Hp ⟨n, D, w0, M, R⟩ H w → Leaves P fn a.tmps (fun e w' => ∃ H', aeq S e H' ∧ Hp ⟨0, [], w0, M, R⟩ H' w') D .returning w) → QX Q .normal ⟨n, D, w0, M, R⟩ L H
 pan : ∀ {D : List Deferred} {L : Sl} {H : List HA} {c : List PanicEntry}, (∀ a w, Fr ⟨n, D, w0, M, R⟩ L a → Hp ⟨n, D, w0, M, R⟩ H w → Leaves P fn a.tmps (fun e w' => ∃ H', aeq S e H' ∧ Hp ⟨0, [], w0, M, R⟩ H' w') D (.panicking c) w) → QX Q (.panic c) ⟨n, D, w0, M, R⟩ L H
theorem afe {f : FuncId} {fn : Func} {c : Code} {args : List Value} {R : List (Nat × Obj)} {A : List HA} {S : Out → Prop} {L0 : Sl} {n : Nat} (hf : P.funcs[f]? = some fn) (hb : fn.body = some c) (hnt : fn.ntmps = n) (hl : Nat.ble args.length n = true)
  (hL : (List.range args.length).zip args = L0)
  (h : ∀ w0 M Q, EndsD P fn n w0 M R S Q → WC P c Q ⟨n, [], w0, M, R⟩ L0 A) : c9 P f args R A S := by
 intro w M hO hn hlt hR
 subst hnt
 have hle : args.length ≤ fn.ntmps := Nat.le_of_ble_eq_true hl
 refine calls_of_wp_defers hf hb ?_
 refine h w M _ ?_ _ _ ⟨rfl, ?_, ?_⟩ (Hp.start _ _ w hO hn hlt hR)
 ·refine ⟨fun hh a w' hfr hp => ?_, fun hh a w' hfr hp => ?_, fun hh a w' hfr hp => ?_⟩
  all_goals
   have := hh a w' hfr hp
   have hd := hfr.defers
   simp only at hd
   rw [← hd] at this
   exact this
 ·simp; omega
 ·intro i v hg
  subst hL
  have hm := Sl.get_mem hg
  obtain ⟨j, hj⟩ := List.mem_iff_getElem?.1 hm
  rw [List.getElem?_zip_eq_some] at hj
  obtain ⟨h1, h2⟩ := hj
  have hij : j = i := by
   have h3 := (List.getElem?_eq_some_iff.1 h1)
   obtain ⟨h4, h5⟩ := h3
   simp at h5; exact h5
  subst hij
  have hjl : j < args.length := (List.getElem?_eq_some_iff.1 h2).1
  simp only [List.size_toArray]
  rw [Array.getElem?_append_left (by simpa using hjl)]
  simpa using h2
theorem anb {fn : Func} {n : Nat} {w0 : World} {M : List Nat} {R : List (Nat × Obj)} {S : Out → Prop} {H' : List HA} {v : Value} (idx : List Nat) (hi : n9 idx = true) (he : sel H idx = H') (hS : S (.ret v H')) (hr : e9 P fn ⟨n, [], w0, M, R⟩ L H v) :
  ∀ a w, Fr ⟨n, [], w0, M, R⟩ L a → Hp ⟨n, [], w0, M, R⟩ H w → Leaves P fn a.tmps (fun e w' => ∃ H', aeq S e H' ∧ Hp ⟨0, [], w0, M, R⟩ H' w') [] .returning w :=
 fun a w hf hp => ⟨v, hr a w hf hp, _, .inl ⟨_, rfl, hS⟩, he ▸ (hp.pick idx hi).ctx⟩
theorem acw {fn : Func} {n : Nat} {w0 : World} {M : List Nat} {R R' : List (Nat × Obj)} {S : Out → Prop} {H' A A' Rest : List HA} {v vc : Value} {f : FuncId} {vs : List Value} {u u' : FrameMode} {H : List HA} (idx0 : List Nat) (hi0 : n9 idx0 = true) (hH : sel H idx0 = A ++ Rest)
  (hent : n5 P f = true) (hc : abr P f vs u u' R' A (Ret vc A')) (hrun : u ≠ .run) (hset : settle u' = .returning) (hR : ROk ⟨n, [⟨.fn (.func f) vs.toArray, #[]⟩], w0, M, R⟩ Rest R')
  (idx : List Nat) (hi : n9 idx = true) (he : sel (A' ++ Rest) idx = H') (hS : S (.ret v H')) (hr : e9 P fn ⟨n, [⟨.fn (.func f) vs.toArray, #[]⟩], w0, M, R⟩ L (A' ++ Rest) v) :
  ∀ a w, Fr ⟨n, [⟨.fn (.func f) vs.toArray, #[]⟩], w0, M, R⟩ L a → Hp ⟨n, [⟨.fn (.func f) vs.toArray, #[]⟩], w0, M, R⟩ H w → Leaves P fn a.tmps (fun e w' => ∃ H', aeq S e H' ∧ Hp ⟨0, [], w0, M, R⟩ H' w') [⟨.fn (.func f) vs.toArray, #[]⟩] u w := by
 intro a w hf hp
 have hp := hH ▸ hp.pick idx0 hi0
 refine ⟨hrun, .func f, vs.toArray, f, vs.toArray, rfl, by simp [invoke, ac2 hent], ?_⟩
 obtain ⟨F, h1, h2, h3⟩ := hp.own
 obtain ⟨F1, F2, rfl, hA, hB⟩ := h1.split
 have hnd := List.nodup_append.1 h2
 refine (hc w F1 hA hnd.1 (fun k hk => (h3 k (List.mem_append.2 (.inl hk))).1) ?_).mono ?_
 ·intro q hq
  rcases hR.all q hq with ⟨i, hi⟩ | hm
  ·refine ⟨hp.blk (i := A.length + i) (by rw [List.getElem?_append_right (by omega)]; simpa using hi), fun hm => ?_⟩
   exact hnd.2.2 q.1 hm q.1 (hB.mem_blk hi) rfl
  ·refine ⟨hp.old hm, fun hk => ?_⟩
   have hro := hp.ro q hm
   have hlt := d7 hro.1
   rcases (h3 q.1 (List.mem_append.2 (.inl hk))).2 with h4 | h4
   ·omega
   ·exact hro.2 h4
 ·rintro en u'' w' ⟨rfl, H'', hS', hh⟩
  rcases hS' with ⟨r, rfl, hS'⟩ | ⟨c, rfl, hS'⟩
  ·cases hS'
   have hp' := hp.call hB h2 h3 hh
   show Leaves P fn a.tmps _ [] (settle u'') w'
   rw [hset]
   exact ⟨v, hr a w' hf hp', _, .inl ⟨_, rfl, hS⟩, he ▸ (hp'.pick idx hi).ctx⟩
  ·cases hS'
theorem OV.assertIs {x : Operand} {t t' ty : TypeId} {d : Option Tmp} {p : String} {e : Array Edge} {g : Option (Nat × Bool)} {v : Value} {dd : TypeDesc} (hx : ev L x = some (.iface t' v)) (hu : P.underlying t' = some dd) (hn : (match dd with | .interface _ => false | _ => true) = true) : OV P C L H ⟨d, .typeAssert x t t' false, ty, p, e, g⟩ v := fun a w hf _ => by
 have : (Instr.typeAssert (.iface t' v) t t' false).run P w = .ok v w := by
  unfold Instr.typeAssert
  rw [Sem.run_bind, l6 hu]
  cases dd <;> simp_all
 simp [execOp, hf.ev hx, this]
theorem OV.neqNil {x y : Operand} {t t' ty tv : TypeId} {d : Option Tmp} {p : String} {e : Array Edge} {g : Option (Nat × Bool)} {v : Value} {ms : Array (String × TypeId)} (hx : ev L x = some (.iface tv v)) (hy : ev L y = some .nilIface) (hu : P.underlying t = some (.interface ms)) : OV P C L H ⟨d, .binOp .neq t x y t', ty, p, e, g⟩ (.bool true) := fun a w hf _ => by
 have h : binOp .neq t (.iface tv v) .nilIface = (do pure (.bool (!(← Op.equal t (.iface tv v) .nilIface)))) := rfl
 have h2 : (Op.equal t (.iface tv v) .nilIface).run P w = .ok false w := by
  unfold Op.equal Op.maxDepth Op.equalIn
  rw [Sem.run_bind, l6 hu]; rfl
 simp only [execOp, hf.ev hx, hf.ev hy, eqGuard_at_iface, h, Sem.run_bind, Sem.run_pure, Result.andThen_ok, h2]
 rfl
theorem OV.neqNil0 {x : Operand} {t t' ty : TypeId} {d : Option Tmp} {p : String} {e : Array Edge} {g : Option (Nat × Bool)} {ms : Array (String × TypeId)} (hx : ev L x = some .nilIface) (hu : P.underlying t = some (.interface ms)) : OV P C L H ⟨d, .binOp .neq t x (.const .nilIface) t', ty, p, e, g⟩ (.bool false) := fun a w hf _ => by
 have h : binOp .neq t .nilIface .nilIface = (do pure (.bool (!(← Op.equal t .nilIface .nilIface)))) := rfl
 have h2 : (Op.equal t .nilIface .nilIface).run P w = .ok true w := by
  unfold Op.equal Op.maxDepth Op.equalIn
  rw [Sem.run_bind, l6 hu]; rfl
 have hc : a.eval (.const .nilIface) = .nilIface := rfl
 simp only [execOp, hf.ev hx, hc, eqGuard_nil_constR, h, Sem.run_bind, Sem.run_pure, Result.andThen_ok, h2]
 rfl
theorem abr.weak {f : FuncId} {args : List Value} {u u' : FrameMode} {R : List (Nat × Obj)} {A : List HA} {S S' : Out → Prop} (h : abr P f args u u' R A S) (hs : ∀ o, S o → S' o) : abr P f args u u' R A S' := fun w M hO hn hl hr => (h w M hO hn hl hr).mono fun en u'' w' ⟨hu, H', hS, hh⟩ => ⟨hu, H', by
  rcases hS with ⟨r, e1, hS⟩ | ⟨c, e1, hS⟩
  ·exact .inl ⟨r, e1, hs _ hS⟩
  ·exact .inr ⟨c, e1, hs _ hS⟩, hh⟩
end Go.Proofs.YtohnchdnkbadaaaDoor
