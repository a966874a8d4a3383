/-
  The contract of class.Show.
-/
import Derived.Test.YtkjnhjhkaaampaaDoorText
namespace Go.Proofs.YtkjnhjhkaaampaaDoor
open Go Go.RowKit

theorem wpList_get_row_g {ops : Array Oper} {rest : List Oper} {a : Act} {w : World} {Q : Exit → Act → World → Prop} {d : Tmp} {ty t1 : TypeId} {x : Operand} {p1 : String} {e1 : Array Edge} {gd : Option (Nat × Bool)}
    (g : Nat) (t : TypeId) {cs : Array Value} {fr : Nat × Nat} (hg : w.heap[g]? = some (.cells cs t fr)) (ht : RowT Tryd.prog ty cs.size)
    (hw : Region.wanted ⟨some d, .load ty x, t1, p1, e1, gd⟩ (yielded ops a.tmps) = true)
    (hx : a.eval x = .pointer (some ⟨g, 0, none⟩)) (h : wpList Tryd.prog ops Q rest (a.put (some d) (.agg cs)) w) :
    wpList Tryd.prog ops Q (⟨some d, .load ty x, t1, p1, e1, gd⟩ :: rest) a w := by
  simp only [wpList, hw, if_true]
  left
  rcases ht.desc with ⟨fs, hu⟩ | ⟨n, e, hu⟩
  · exact wp_load_row ty x rfl g hx t cs fr _ hg hu rfl ht.size h
  · exact wp_load_row ty x rfl g hx t cs fr _ hg hu rfl ht.size h

def spB : ByteArray := ⟨#[40, 41, 91, 93, 123, 125, 124, 38, 45, 42, 43, 63, 46, 92, 47, 94]⟩
def inB : ByteArray := ⟨#[92, 93, 91, 45, 94, 47]⟩
def spL : List UInt8 := [40, 41, 91, 93, 123, 125, 124, 38, 45, 42, 43, 63, 46, 92, 47, 94]
def inL : List UInt8 := [92, 93, 91, 45, 94, 47]

theorem singleL_len (b : Nat) (l : List UInt8) : (singleL b l).length ≤ 4 := by
  unfold singleL
  cases escOf b with
  | some c => simp
  | none =>
    simp only
    by_cases h : b < 32 ∨ 126 < b
    · rw [if_pos h]; simp
    · rw [if_neg h]; cases l.contains b.toUInt8 <;> simp

/-- Where the run that begins at a byte ends. -/
def runEnd (s : CS) : Nat → Nat → Nat
  | 0, e => e
  | n + 1, e => if e < 255 ∧ s.getLsbD (e + 1) = true then runEnd s n (e + 1) else e
def runEndS (s : CS) (b : Nat) : Nat := runEnd s 256 b
theorem runEnd_spec (s : CS) : ∀ (n e : Nat), e ≤ 255 → 255 ≤ e + n → e ≤ runEnd s n e ∧ runEnd s n e ≤ 255 ∧ (∀ i, e < i → i ≤ runEnd s n e → s.getLsbD i = true) ∧ (runEnd s n e < 255 → s.getLsbD (runEnd s n e + 1) = false)
  | 0, e, h, hn => ⟨Nat.le_refl _, h, fun i h1 h2 => by simp only [runEnd] at h2; omega, fun h1 => by simp only [runEnd] at h1; omega⟩
  | n + 1, e, h, hn => by
    simp only [runEnd]
    by_cases hc : e < 255 ∧ s.getLsbD (e + 1) = true
    · rw [if_pos hc]
      obtain ⟨h1, h2, h3, h4⟩ := runEnd_spec s n (e + 1) (by omega) (by omega)
      refine ⟨by omega, h2, fun i hi1 hi2 => ?_, h4⟩
      by_cases he : i = e + 1
      · subst he; exact hc.2
      · exact h3 i (by omega) hi2
    · rw [if_neg hc]
      refine ⟨Nat.le_refl _, h, fun i h1 h2 => by omega, fun h1 => ?_⟩
      cases hb : s.getLsbD (e + 1)
      · rfl
      · exact absurd ⟨h1, hb⟩ hc
theorem runEndS_eq {s : CS} {k e : Nat} (h1 : k ≤ e) (h2 : e ≤ 255) (h3 : ∀ i, k < i → i ≤ e → s.getLsbD i = true) (h4 : e < 255 → s.getLsbD (e + 1) = false) : runEndS s k = e := by
  obtain ⟨r1, r2, r3, r4⟩ := runEnd_spec s 256 k (by omega) (by omega)
  unfold runEndS
  rcases Nat.lt_trichotomy (runEnd s 256 k) e with h | h | h
  · have := r4 (by omega)
    rw [h3 _ (by omega) (by omega)] at this; cases this
  · exact h
  · have := h4 (by omega)
    rw [r3 _ (by omega) (by omega)] at this; cases this

def pieceL (b e : Nat) : List UInt8 := singleL b inL ++ (if b + 1 < e then [45] else []) ++ (if b < e then singleL e inL else [])
def startP (s : CS) (c : Nat) : List UInt8 := if s.getLsbD c && (c == 0 || !s.getLsbD (c - 1)) then pieceL c (runEndS s c) else []
/-- The text of the runs that begin ahead of a byte. -/
def textTo (s : CS) : Nat → List UInt8
  | 0 => []
  | k + 1 => textTo s k ++ startP s k
theorem textTo_off {s : CS} {k : Nat} (h : s.getLsbD k = false) : textTo s (k + 1) = textTo s k := by simp [textTo, startP, h]
theorem textTo_in {s : CS} {k : Nat} : ∀ (n : Nat), (∀ i, k ≤ i → i < k + n → s.getLsbD i = true ∧ 0 < i ∧ s.getLsbD (i - 1) = true) → textTo s (k + n) = textTo s k
  | 0, _ => rfl
  | n + 1, h => by
    have ih := textTo_in n fun i h1 h2 => h i h1 (by omega)
    obtain ⟨a, b, c⟩ := h (k + n) (by omega) (by omega)
    have hz : ((k + n) == 0) = false := by simpa using (show ¬ (k + n) = 0 by omega)
    rw [← Nat.add_assoc, textTo, ih, startP, c, hz]
    simp
theorem textTo_run (s : CS) (k e : Nat) (hb : s.getLsbD k = true) (hst : k = 0 ∨ s.getLsbD (k - 1) = false) (he : runEndS s k = e) (hke : k ≤ e) (hr : ∀ i, k < i → i ≤ e → s.getLsbD i = true) : textTo s (e + 1) = textTo s k ++ pieceL k e := by
  have h1 : textTo s (k + 1 + (e - k)) = textTo s (k + 1) := textTo_in (e - k) fun i hi1 hi2 => by
    refine ⟨hr i (by omega) (by omega), by omega, ?_⟩
    by_cases h : i = k + 1
    · subst h; exact hb
    · exact hr (i - 1) (by omega) (by omega)
  rw [show k + 1 + (e - k) = e + 1 by omega] at h1
  rw [h1, textTo, startP, he, hb]
  rcases hst with h | h
  · subst h; simp
  · simp [h]
theorem pieceL_len (b e : Nat) : (pieceL b e).length ≤ 9 := by
  have h1 := singleL_len b inL
  have h2 := singleL_len e inL
  unfold pieceL
  by_cases c1 : b + 1 < e <;> by_cases c2 : b < e <;> simp [c1, c2] <;> omega
theorem textTo_len (s : CS) (k : Nat) : (textTo s k).length ≤ 9 * k := by
  induction k with
  | zero => simp [textTo]
  | succ k ih =>
    have : (startP s k).length ≤ 9 := by
      unfold startP; split
      · exact pieceL_len _ _
      · simp
    simp only [textTo, List.length_append]; omega

/-- The text of a set. -/
def showL (s : CS) : List UInt8 :=
  if countS s = 1 then singleL ((nextS s 0).getD 0) spL
  else if 128 < countS s then [91, 94] ++ textTo (~~~ s) 256 ++ [93] else [91] ++ textTo s 256 ++ [93]

theorem nextV_getD (s : CS) (h : countS s = 1) : nextV s 0 = .tuple #[.int .u8 ((nextS s 0).getD 0 : Nat), .bool true] := by
  cases hn : nextS s 0 with
  | none =>
    have : countS s = 0 := by
      unfold countS
      rw [List.countP_eq_zero]
      intro i hi
      have := nextS_none hn i (by omega) (List.mem_range.1 hi)
      simp [this]
    omega
  | some c => rw [nextV, hn]; rfl

set_option maxRecDepth 100000 in
set_option maxHeartbeats 1000000 in
theorem show_one (s : CS) (h1 : countS s = 1) : PureE 8 #[.agg (words s)] (.string (bs (showL s))) := by
  intro w hE
  have HS := Lib.hid (show showL s = singleL ((nextS s 0).getD 0) spB.data.toList by unfold showL; rw [if_pos h1]; rfl)
  have c1 := count_pure s
  rw [h1] at c1
  have C1 := Lib.hid c1
  have c2 := next_pure s 0 (by omega) (by omega)
  rw [show (0 : Int).toNat = 0 from rfl, nextV_getD s h1] at c2
  have C2 := Lib.hid c2
  have hlt : (nextS s 0).getD 0 < 256 := by
    cases hn : nextS s 0 with
    | none => simp
    | some c => exact (nextS_some hn).2.1
  have C3 := Lib.hid (single_pure ((nextS s 0).getD 0) hlt spB)
  clear c1 c2 h1
  generalize (nextS s 0).getD 0 = n at *
  have H1 := Lib.hid (heap_alloc_new w (.cells (words s) 26))
  have hb1 : Below w.heap.size w (w.alloc (.cells (words s) 26)) := (Below.refl _ _).alloc (Nat.le_refl _) _
  have hE1 := hE.alloc (.cells (words s) 26)
  go_enter Tryd.func8, Tryd.ntmps8
  go_wp2_with (first | (with_reducible refine stop_dst (d := 9) ?_) | fail)
  unfold Hid
  generalize w.alloc (.cells (words s) 26) = W1 at H1 hb1 hE1 ⊢
  have hl1 : w.heap.size < W1.heap.size := lt_of_blk H1.out
  refine wpList_get_row (d := 9) w.heap.size 26 H1.out (setT _) rfl ?_
  simp only [Act.put, List.setIfInBounds_toArray, List.set_cons_zero, List.set_cons_succ]
  go_wp2_with fail
  refine (C1.out W1).mono ?_
  rintro e W2 ⟨rfl, hv⟩
  have H2 := Lib.hid (blk hv H1.out hl1)
  have hb2 := hb1.trans (hv.mono hb1.size)
  have hE2 := hE1.below hv
  have hl2 : w.heap.size < W2.heap.size := lt_of_blk H2.out
  clear hv hb1 H1 hE1
  go_wp2_with (first | (with_reducible refine stop_dst (d := 14) ?_) | fail)
  unfold Hid
  refine wpList_get_row (d := 14) w.heap.size 26 H2.out (setT _) rfl ?_
  simp only [Act.put, List.setIfInBounds_toArray, List.set_cons_zero, List.set_cons_succ]
  go_wp2_with fail
  refine (C2.out W2).mono ?_
  rintro e W3 ⟨rfl, hv⟩
  have hb3 := hb2.trans (hv.mono hb2.size)
  have hE3 := hE2.below hv
  go_wp2_with fail
  refine (C3.out W3 hE3).mono ?_
  rintro e W4 ⟨rfl, hv4⟩
  go_wp2
  go_ret
  exact ⟨by rw [HS.out]; rfl, hb3.trans (hv4.mono hb3.size)⟩

set_option maxRecDepth 100000 in
set_option maxHeartbeats 2000000 in
theorem show_many (s : CS) (h1 : countS s ≠ 1) : PureE 8 #[.agg (words s)] (.string (bs (showL s))) := by
  intro w hE
  have C1 := Lib.hid (count_pure s)
  have C2 := Lib.hid (not_pure s)
  have hcb : countS s ≤ 256 := by
    have := List.countP_le_length (p := fun i => s.getLsbD i) (l := List.range 256)
    simpa [countS] using this
  have HS0 := Lib.hid (show showL s = if 128 < countS s then [91, 94] ++ textTo (~~~ s) 256 ++ [93] else [91] ++ textTo s 256 ++ [93] by unfold showL; rw [if_neg h1])
  have hn1 : ((countS s : Int) == 1) = false := by simpa using (show ¬ ((countS s : Int) = 1) by omega)
  clear h1
  generalize countS s = n at *
  have H1 := Lib.hid (heap_alloc_new w (.cells (words s) 26))
  have hb1 : Below w.heap.size w (w.alloc (.cells (words s) 26)) := (Below.refl _ _).alloc (Nat.le_refl _) _
  have hE1 := hE.alloc (.cells (words s) 26)
  go_enter Tryd.func8, Tryd.ntmps8
  go_wp2_with (first | (with_reducible refine stop_dst (d := 9) ?_) | fail)
  unfold Hid
  generalize w.alloc (.cells (words s) 26) = W1 at H1 hb1 hE1 ⊢
  have hl1 : w.heap.size < W1.heap.size := lt_of_blk H1.out
  refine wpList_get_row (d := 9) w.heap.size 26 H1.out (setT _) rfl ?_
  simp only [Act.put, List.setIfInBounds_toArray, List.set_cons_zero, List.set_cons_succ]
  go_wp2_with fail
  refine (C1.out W1).mono ?_
  rintro e0 W2 ⟨rfl, hv⟩
  have H2 := Lib.hid (blk hv H1.out hl1)
  have hb2 := hb1.trans (hv.mono hb1.size)
  have hE2 := hE1.below hv
  have hl2 : w.heap.size < W2.heap.size := lt_of_blk H2.out
  clear hv hb1 H1 hE1 C1
  by_cases h128 : 128 < n
  · have HS := Lib.hid (HS0.out.trans (if_pos h128))
    clear HS0
    go_wp2_with (first | (with_reducible refine stop_dst (d := 22) ?_) | fail)
    unfold Hid
    refine wpList_get_row (d := 22) w.heap.size 26 H2.out (setT _) rfl ?_
    simp only [Act.put, List.setIfInBounds_toArray, List.set_cons_zero, List.set_cons_succ]
    go_wp2_with fail
    refine (C2.out W2).mono ?_
    rintro e0 W3 ⟨rfl, hv⟩
    have H3 := Lib.hid (blk hv H2.out hl2)
    have hb3 := hb2.trans (hv.mono hb2.size)
    have hE3 := hE2.below hv
    have H4 := Lib.hid (heap_setRow_same (cs := words (~~~ s)) H3.out)
    have hb4 := below_setRow hb3 (Nat.le_refl _) (words (~~~ s))
    have hE4 : Esc (W3.setRow w.heap.size (words (~~~ s))) := by
      obtain ⟨te, fre, hx⟩ := hE3
      obtain ⟨te', fre', hx'⟩ := hE
      exact ⟨te, fre, heap_setRow_other hx (by have := lt_of_blk hx'; omega)⟩
    clear H2 hb2 hE2 hl2 hb3 hE3 hv C2
    go_wp2_with (first | ((with_reducible refine wpList_put_row (x := .tmp 1) (y := .tmp 23) (cs := words (~~~ s)) w.heap.size 26 H3.out (words_sz _ _) (setT _) (words_cells _) ?_ ?_ ?_); rfl; rfl) | fail)
    generalize W3.setRow w.heap.size (words (~~~ s)) = W4 at H4 hb4 hE4 ⊢
    clear H3
    generalize ~~~ s = S at *
    have h0 : (⟨#[91, 94]⟩ : ByteArray) = bs [91, 94] := rfl
    rw [h0]
    clear h0
    have hpre : ([91, 94] : List UInt8).length ≤ 2 := by decide
    generalize ([91, 94] : List UInt8) = pre at *
    go_loopw [6, 7] (fun out i wr => ∃ k : Nat, i = .int .i64 k ∧ k ≤ 256 ∧ out = .string (bs (pre ++ textTo S k)) ∧ wr.heap[w.heap.size]? = some (.cells (words S) 26 (0, 0)) ∧ Esc wr ∧ Below w.heap.size w wr ∧ (k = 0 ∨ k = 256 ∨ S.getLsbD (k - 1) = false ∨ S.getLsbD k = false))
      (fun _ i _ => 256 - (intOf i).toNat)
    case atStart => exact ⟨0, rfl, by omega, by simp [textTo], H4.out, hE4, hb4, .inl rfl⟩
    case round =>
      obtain ⟨k, rfl, hk, rfl, hblk0, hEr, hbr, hst⟩ := hrel
      have H5 := Lib.hid hblk0; clear hblk0
      have hlr : w.heap.size < wr.heap.size := lt_of_blk H5.out
      clear H4 hb4 hE4
      by_cases hk6 : k < 256
      · have CH := Lib.hid (has_pure S (k : Int) (by omega) (by omega))
        go_wp2_with (first | (with_reducible refine stop_dst (d := 28) ?_) | fail)
        unfold Hid
        refine wpList_get_row (d := 28) w.heap.size 26 H5.out (setT _) rfl ?_
        simp only [Act.put, List.setIfInBounds_toArray, List.set_cons_zero, List.set_cons_succ]
        go_wp2_with fail
        refine (CH.out wr).mono ?_
        rintro e0 V1 ⟨rfl, hv⟩
        have H6 := Lib.hid (blk hv H5.out hlr)
        have hb6 := hbr.trans (hv.mono hbr.size)
        have hE6 := hEr.below hv
        have hl6 : w.heap.size < V1.heap.size := lt_of_blk H6.out
        clear hv hbr H5 hEr hlr CH
        rw [Int.toNat_natCast]
        by_cases hbit : S.getLsbD k = true
        · rw [hbit]
          have hst' : k = 0 ∨ S.getLsbD (k - 1) = false := by
            rcases hst with h | h | h | h
            · exact .inl h
            · omega
            · exact .inr h
            · rw [h] at hbit; cases hbit
          go_wp2_with fail
          go_loopw [8] (fun i wr => ∃ e : Nat, i = .int .i64 e ∧ k ≤ e ∧ e ≤ 255 ∧ (∀ i, k < i → i ≤ e → S.getLsbD i = true) ∧ wr.heap[w.heap.size]? = some (.cells (words S) 26 (0, 0)) ∧ Esc wr ∧ Below w.heap.size w wr)
            (fun i _ => 255 - (intOf i).toNat)
          case atStart => exact ⟨k, rfl, Nat.le_refl _, by omega, fun i h1 h2 => by omega, H6.out, hE6, hb6⟩
          case round =>
            obtain ⟨e, rfl, hke, he, hrun, hblk1, hE7, hb7⟩ := hrel
            have H7 := Lib.hid hblk1; clear hblk1
            clear H6 hE6 hb6 hl6
            have hl7 : w.heap.size < wr.heap.size := lt_of_blk H7.out
            by_cases he5 : e < 255
            · have CH := Lib.hid (has_pure S ((e : Int) + 1) (by omega) (by omega))
              rw [show ((e : Int) + 1).toNat = e + 1 by omega] at CH
              have hde : decide ((e : Int) < 255) = true := decide_eq_true (by omega)
              go_wp2_with (first | (with_reducible refine stop_dst (d := 37) ?_) | fail)
              unfold Hid
              refine wpList_get_row_g (d := 37) w.heap.size 26 H7.out (setT _) ?_ ?_ ?_
              rfl
              rfl
              simp only [Act.put, List.setIfInBounds_toArray, List.set_cons_zero, List.set_cons_succ]
              go_wp2_with fail
              refine (CH.out wr).mono ?_
              rintro e0 V2 ⟨rfl, hv⟩
              have H10 := Lib.hid (blk hv H7.out hl7)
              have hb10 := hb7.trans (hv.mono hb7.size)
              have hE10 := hE7.below hv
              have hl10 : w.heap.size < V2.heap.size := lt_of_blk H10.out
              clear hv hb7 H7 hE7 hl7 CH
              by_cases hb2 : S.getLsbD (e + 1) = true
              · rw [hb2]
                go_wp2
                go_roundw
                case rel =>
                  refine ⟨e + 1, by go_num, by omega, by omega, fun i h1 h2 => ?_, H10.out, hE10, hb10⟩
                  by_cases hx : i = e + 1
                  · rw [hx]; exact hb2
                  · exact hrun i h1 (by omega)
                case measure => simp [intOf] <;> omega
              · have hb2' : S.getLsbD (e + 1) = false := by simpa using hb2
                rw [hb2']
                have hend : e < 255 → S.getLsbD (e + 1) = false := fun _ => hb2'
                have H7 := H10
                have hb7 := hb10
                have hE7 := hE10
                have hl7 := hl10
                clear H10 hb10 hE10 hl10
                generalize V2 = wr at *
                have hre := runEndS_eq hke he hrun hend
                have hrunT := textTo_run S k e hbit hst' hre hke hrun
                have CS1 := Lib.hid (single_pure k (by omega) inB)
                rw [show inB.data.toList = inL from rfl] at CS1
                have hq1 := singleL_len k inL
                have CS2 := Lib.hid (single_pure e (by omega) inB)
                rw [show inB.data.toList = inL from rfl] at CS2
                have hq2 := singleL_len e inL
                have hol : (pre ++ textTo S k).length ≤ 2 + 9 * k := by have := textTo_len S k; rw [List.length_append]; omega
                have hn' : e + 1 = 256 ∨ S.getLsbD (e + 1) = false := by
                  by_cases h : e < 255
                  · exact .inr (hend h)
                  · exact .inl (by omega)
                have HN := Lib.hid hn'
                clear hn' hend hrun hre hst' hst
                have hT := (show pre ++ textTo S (e + 1) = pre ++ textTo S k ++ pieceL k e by rw [hrunT, List.append_assoc])
                clear hrunT
                have HB := Lib.hid bs_append
                generalize pre ++ textTo S k = o at hol hT ⊢
                unfold pieceL at hT
                generalize hq : singleL k inL = q1 at hq1 CS1 hT
                clear hq
                generalize hq : singleL e inL = q2 at hq2 CS2 hT
                clear hq
                have z1 : (bs o).size ≤ 2 + 9 * 256 := by rw [bs_size]; omega
                have z2 : (bs q1).size ≤ 4 := by rw [bs_size]; omega
                have z3 : (bs q2).size ≤ 4 := by rw [bs_size]; omega
                have z4 : (bs o ++ bs q1).size ≤ 2 + 9 * 256 + 4 := by rw [bs_append, bs_size, List.length_append]; omega
                clear hol hq1 hq2
                by_cases c1 : k + 1 < e
                · have c2 : k < e := by omega
                  rw [if_pos c1, if_pos c2] at hT
                  have HT := Lib.hid hT; clear hT
                  have z5 : (bs o ++ bs q1 ++ (⟨#[45]⟩ : ByteArray)).size ≤ 2 + 9 * 256 + 5 := by rw [show (⟨#[45]⟩ : ByteArray) = bs [45] from rfl, bs_append, bs_append, bs_size]; rw [bs_append, bs_size] at z4; simp only [List.length_append, List.length_cons, List.length_nil] at z4 ⊢; omega
                  go_wp2_with fail
                  refine (CS1.out wr hE7).mono ?_
                  rintro e0 V3 ⟨rfl, hv⟩
                  have H8 := Lib.hid (blk hv H7.out hl7)
                  have hb8 := hb7.trans (hv.mono hb7.size)
                  have hE8 := hE7.below hv
                  have hl8 : w.heap.size < V3.heap.size := lt_of_blk H8.out
                  clear hv hb7 hE7 H7 hl7 CS1
                  go_wp2_with fail
                  refine (CS2.out V3 hE8).mono ?_
                  rintro e0 V4 ⟨rfl, hv⟩
                  have H9 := Lib.hid (blk hv H8.out hl8)
                  have hb9 := hb8.trans (hv.mono hb8.size)
                  have hE9 := hE8.below hv
                  clear hv hb8 hE8 H8 hl8 CS2
                  go_wp2
                  go_roundw
                  case rel => exact ⟨e + 1, by go_num, by omega, by rw [HT.out]; show Value.string (bs o ++ bs q1 ++ bs [45] ++ bs q2) = _; simp only [HB.out, List.append_assoc], H9.out, hE9, hb9, .inr (HN.out.elim .inl (fun x => .inr (.inr x)))⟩
                  case measure => simp [intOf] <;> omega
                · by_cases c2 : k < e
                  · rw [if_neg c1, if_pos c2, List.append_nil] at hT
                    have HT := Lib.hid hT; clear hT
                    go_wp2_with fail
                    refine (CS1.out wr hE7).mono ?_
                    rintro e0 V3 ⟨rfl, hv⟩
                    have H8 := Lib.hid (blk hv H7.out hl7)
                    have hb8 := hb7.trans (hv.mono hb7.size)
                    have hE8 := hE7.below hv
                    have hl8 : w.heap.size < V3.heap.size := lt_of_blk H8.out
                    clear hv hb7 hE7 H7 hl7 CS1
                    go_wp2_with fail
                    refine (CS2.out V3 hE8).mono ?_
                    rintro e0 V4 ⟨rfl, hv⟩
                    have H9 := Lib.hid (blk hv H8.out hl8)
                    have hb9 := hb8.trans (hv.mono hb8.size)
                    have hE9 := hE8.below hv
                    clear hv hb8 hE8 H8 hl8 CS2
                    go_wp2
                    go_roundw
                    case rel => exact ⟨e + 1, by go_num, by omega, by rw [HT.out]; show Value.string (bs o ++ bs q1 ++ bs q2) = _; simp only [HB.out, List.append_assoc], H9.out, hE9, hb9, .inr (HN.out.elim .inl (fun x => .inr (.inr x)))⟩
                    case measure => simp [intOf] <;> omega
                  · rw [if_neg c1, if_neg c2, List.append_nil, List.append_nil] at hT
                    have HT := Lib.hid hT; clear hT
                    clear CS2
                    go_wp2_with fail
                    refine (CS1.out wr hE7).mono ?_
                    rintro e0 V3 ⟨rfl, hv⟩
                    have H8 := Lib.hid (blk hv H7.out hl7)
                    have hb8 := hb7.trans (hv.mono hb7.size)
                    have hE8 := hE7.below hv
                    have hl8 : w.heap.size < V3.heap.size := lt_of_blk H8.out
                    clear hv hb7 hE7 H7 hl7 CS1
                    go_wp2
                    go_roundw
                    case rel => exact ⟨e + 1, by go_num, by omega, by rw [HT.out]; show Value.string (bs o ++ bs q1) = _; simp only [HB.out], H8.out, hE8, hb8, .inr (HN.out.elim .inl (fun x => .inr (.inr x)))⟩
                    case measure => simp [intOf] <;> omega
            · have hend : e < 255 → S.getLsbD (e + 1) = false := fun h => absurd h he5
              have hre := runEndS_eq hke he hrun hend
              have hrunT := textTo_run S k e hbit hst' hre hke hrun
              have CS1 := Lib.hid (single_pure k (by omega) inB)
              rw [show inB.data.toList = inL from rfl] at CS1
              have hq1 := singleL_len k inL
              have CS2 := Lib.hid (single_pure e (by omega) inB)
              rw [show inB.data.toList = inL from rfl] at CS2
              have hq2 := singleL_len e inL
              have hol : (pre ++ textTo S k).length ≤ 2 + 9 * k := by have := textTo_len S k; rw [List.length_append]; omega
              have hn' : e + 1 = 256 ∨ S.getLsbD (e + 1) = false := by
                by_cases h : e < 255
                · exact .inr (hend h)
                · exact .inl (by omega)
              have HN := Lib.hid hn'
              clear hn' hend hrun hre hst' hst
              have hT := (show pre ++ textTo S (e + 1) = pre ++ textTo S k ++ pieceL k e by rw [hrunT, List.append_assoc])
              clear hrunT
              have HB := Lib.hid bs_append
              generalize pre ++ textTo S k = o at hol hT ⊢
              unfold pieceL at hT
              generalize hq : singleL k inL = q1 at hq1 CS1 hT
              clear hq
              generalize hq : singleL e inL = q2 at hq2 CS2 hT
              clear hq
              have z1 : (bs o).size ≤ 2 + 9 * 256 := by rw [bs_size]; omega
              have z2 : (bs q1).size ≤ 4 := by rw [bs_size]; omega
              have z3 : (bs q2).size ≤ 4 := by rw [bs_size]; omega
              have z4 : (bs o ++ bs q1).size ≤ 2 + 9 * 256 + 4 := by rw [bs_append, bs_size, List.length_append]; omega
              clear hol hq1 hq2
              by_cases c1 : k + 1 < e
              · have c2 : k < e := by omega
                rw [if_pos c1, if_pos c2] at hT
                have HT := Lib.hid hT; clear hT
                have z5 : (bs o ++ bs q1 ++ (⟨#[45]⟩ : ByteArray)).size ≤ 2 + 9 * 256 + 5 := by rw [show (⟨#[45]⟩ : ByteArray) = bs [45] from rfl, bs_append, bs_append, bs_size]; rw [bs_append, bs_size] at z4; simp only [List.length_append, List.length_cons, List.length_nil] at z4 ⊢; omega
                go_wp2_with fail
                refine (CS1.out wr hE7).mono ?_
                rintro e0 V3 ⟨rfl, hv⟩
                have H8 := Lib.hid (blk hv H7.out hl7)
                have hb8 := hb7.trans (hv.mono hb7.size)
                have hE8 := hE7.below hv
                have hl8 : w.heap.size < V3.heap.size := lt_of_blk H8.out
                clear hv hb7 hE7 H7 hl7 CS1
                go_wp2_with fail
                refine (CS2.out V3 hE8).mono ?_
                rintro e0 V4 ⟨rfl, hv⟩
                have H9 := Lib.hid (blk hv H8.out hl8)
                have hb9 := hb8.trans (hv.mono hb8.size)
                have hE9 := hE8.below hv
                clear hv hb8 hE8 H8 hl8 CS2
                go_wp2
                go_roundw
                case rel => exact ⟨e + 1, by go_num, by omega, by rw [HT.out]; show Value.string (bs o ++ bs q1 ++ bs [45] ++ bs q2) = _; simp only [HB.out, List.append_assoc], H9.out, hE9, hb9, .inr (HN.out.elim .inl (fun x => .inr (.inr x)))⟩
                case measure => simp [intOf] <;> omega
              · by_cases c2 : k < e
                · rw [if_neg c1, if_pos c2, List.append_nil] at hT
                  have HT := Lib.hid hT; clear hT
                  go_wp2_with fail
                  refine (CS1.out wr hE7).mono ?_
                  rintro e0 V3 ⟨rfl, hv⟩
                  have H8 := Lib.hid (blk hv H7.out hl7)
                  have hb8 := hb7.trans (hv.mono hb7.size)
                  have hE8 := hE7.below hv
                  have hl8 : w.heap.size < V3.heap.size := lt_of_blk H8.out
                  clear hv hb7 hE7 H7 hl7 CS1
                  go_wp2_with fail
                  refine (CS2.out V3 hE8).mono ?_
                  rintro e0 V4 ⟨rfl, hv⟩
                  have H9 := Lib.hid (blk hv H8.out hl8)
                  have hb9 := hb8.trans (hv.mono hb8.size)
                  have hE9 := hE8.below hv
                  clear hv hb8 hE8 H8 hl8 CS2
                  go_wp2
                  go_roundw
                  case rel => exact ⟨e + 1, by go_num, by omega, by rw [HT.out]; show Value.string (bs o ++ bs q1 ++ bs q2) = _; simp only [HB.out, List.append_assoc], H9.out, hE9, hb9, .inr (HN.out.elim .inl (fun x => .inr (.inr x)))⟩
                  case measure => simp [intOf] <;> omega
                · rw [if_neg c1, if_neg c2, List.append_nil, List.append_nil] at hT
                  have HT := Lib.hid hT; clear hT
                  clear CS2
                  go_wp2_with fail
                  refine (CS1.out wr hE7).mono ?_
                  rintro e0 V3 ⟨rfl, hv⟩
                  have H8 := Lib.hid (blk hv H7.out hl7)
                  have hb8 := hb7.trans (hv.mono hb7.size)
                  have hE8 := hE7.below hv
                  have hl8 : w.heap.size < V3.heap.size := lt_of_blk H8.out
                  clear hv hb7 hE7 H7 hl7 CS1
                  go_wp2
                  go_roundw
                  case rel => exact ⟨e + 1, by go_num, by omega, by rw [HT.out]; show Value.string (bs o ++ bs q1) = _; simp only [HB.out], H8.out, hE8, hb8, .inr (HN.out.elim .inl (fun x => .inr (.inr x)))⟩
                  case measure => simp [intOf] <;> omega
        · have hbit' : S.getLsbD k = false := by simpa using hbit
          rw [hbit']
          go_wp2
          go_roundw
          case rel => exact ⟨k + 1, by go_num, by omega, by rw [textTo_off hbit'], H6.out, hE6, hb6, .inr (.inr (.inl (by rw [Nat.add_sub_cancel]; exact hbit')))⟩
          case measure => simp [intOf] <;> omega
      · have hk0 : k = 256 := by omega
        subst hk0
        have hol : (pre ++ textTo S 256).length ≤ 2 + 9 * 256 := by have := textTo_len S 256; rw [List.length_append]; omega
        have HB := Lib.hid bs_append
        generalize pre ++ textTo S 256 = o at hol HS ⊢
        have z1 : (bs o).size ≤ 2 + 9 * 256 := by rw [bs_size]; omega
        go_wp2
        go_ret
        exact ⟨by rw [HS.out, ← HB.out]; rfl, hbr⟩
  · have HS := Lib.hid (HS0.out.trans (if_neg h128))
    clear HS0
    go_wp2_with fail
    have h0 : (⟨#[91]⟩ : ByteArray) = bs [91] := rfl
    rw [h0]
    clear h0
    have hpre : ([91] : List UInt8).length ≤ 2 := by decide
    generalize ([91] : List UInt8) = pre at *
    clear C2
    obtain ⟨S, hSs⟩ : ∃ S, S = s := ⟨s, rfl⟩
    rw [show textTo s 256 = textTo S 256 by rw [hSs]] at HS
    rw [← hSs] at H2
    clear hSs
    have H4 := H2
    have hb4 := hb2
    have hE4 := hE2
    clear H2 hb2 hE2
    generalize W2 = W4 at *
    go_loopw [6, 7] (fun out i wr => ∃ k : Nat, i = .int .i64 k ∧ k ≤ 256 ∧ out = .string (bs (pre ++ textTo S k)) ∧ wr.heap[w.heap.size]? = some (.cells (words S) 26 (0, 0)) ∧ Esc wr ∧ Below w.heap.size w wr ∧ (k = 0 ∨ k = 256 ∨ S.getLsbD (k - 1) = false ∨ S.getLsbD k = false))
      (fun _ i _ => 256 - (intOf i).toNat)
    case atStart => exact ⟨0, rfl, by omega, by simp [textTo], H4.out, hE4, hb4, .inl rfl⟩
    case round =>
      obtain ⟨k, rfl, hk, rfl, hblk0, hEr, hbr, hst⟩ := hrel
      have H5 := Lib.hid hblk0; clear hblk0
      have hlr : w.heap.size < wr.heap.size := lt_of_blk H5.out
      clear H4 hb4 hE4
      by_cases hk6 : k < 256
      · have CH := Lib.hid (has_pure S (k : Int) (by omega) (by omega))
        go_wp2_with (first | (with_reducible refine stop_dst (d := 28) ?_) | fail)
        unfold Hid
        refine wpList_get_row (d := 28) w.heap.size 26 H5.out (setT _) rfl ?_
        simp only [Act.put, List.setIfInBounds_toArray, List.set_cons_zero, List.set_cons_succ]
        go_wp2_with fail
        refine (CH.out wr).mono ?_
        rintro e0 V1 ⟨rfl, hv⟩
        have H6 := Lib.hid (blk hv H5.out hlr)
        have hb6 := hbr.trans (hv.mono hbr.size)
        have hE6 := hEr.below hv
        have hl6 : w.heap.size < V1.heap.size := lt_of_blk H6.out
        clear hv hbr H5 hEr hlr CH
        rw [Int.toNat_natCast]
        by_cases hbit : S.getLsbD k = true
        · rw [hbit]
          have hst' : k = 0 ∨ S.getLsbD (k - 1) = false := by
            rcases hst with h | h | h | h
            · exact .inl h
            · omega
            · exact .inr h
            · rw [h] at hbit; cases hbit
          go_wp2_with fail
          go_loopw [8] (fun i wr => ∃ e : Nat, i = .int .i64 e ∧ k ≤ e ∧ e ≤ 255 ∧ (∀ i, k < i → i ≤ e → S.getLsbD i = true) ∧ wr.heap[w.heap.size]? = some (.cells (words S) 26 (0, 0)) ∧ Esc wr ∧ Below w.heap.size w wr)
            (fun i _ => 255 - (intOf i).toNat)
          case atStart => exact ⟨k, rfl, Nat.le_refl _, by omega, fun i h1 h2 => by omega, H6.out, hE6, hb6⟩
          case round =>
            obtain ⟨e, rfl, hke, he, hrun, hblk1, hE7, hb7⟩ := hrel
            have H7 := Lib.hid hblk1; clear hblk1
            clear H6 hE6 hb6 hl6
            have hl7 : w.heap.size < wr.heap.size := lt_of_blk H7.out
            by_cases he5 : e < 255
            · have CH := Lib.hid (has_pure S ((e : Int) + 1) (by omega) (by omega))
              rw [show ((e : Int) + 1).toNat = e + 1 by omega] at CH
              have hde : decide ((e : Int) < 255) = true := decide_eq_true (by omega)
              go_wp2_with (first | (with_reducible refine stop_dst (d := 37) ?_) | fail)
              unfold Hid
              refine wpList_get_row_g (d := 37) w.heap.size 26 H7.out (setT _) ?_ ?_ ?_
              rfl
              rfl
              simp only [Act.put, List.setIfInBounds_toArray, List.set_cons_zero, List.set_cons_succ]
              go_wp2_with fail
              refine (CH.out wr).mono ?_
              rintro e0 V2 ⟨rfl, hv⟩
              have H10 := Lib.hid (blk hv H7.out hl7)
              have hb10 := hb7.trans (hv.mono hb7.size)
              have hE10 := hE7.below hv
              have hl10 : w.heap.size < V2.heap.size := lt_of_blk H10.out
              clear hv hb7 H7 hE7 hl7 CH
              by_cases hb2 : S.getLsbD (e + 1) = true
              · rw [hb2]
                go_wp2
                go_roundw
                case rel =>
                  refine ⟨e + 1, by go_num, by omega, by omega, fun i h1 h2 => ?_, H10.out, hE10, hb10⟩
                  by_cases hx : i = e + 1
                  · rw [hx]; exact hb2
                  · exact hrun i h1 (by omega)
                case measure => simp [intOf] <;> omega
              · have hb2' : S.getLsbD (e + 1) = false := by simpa using hb2
                rw [hb2']
                have hend : e < 255 → S.getLsbD (e + 1) = false := fun _ => hb2'
                have H7 := H10
                have hb7 := hb10
                have hE7 := hE10
                have hl7 := hl10
                clear H10 hb10 hE10 hl10
                generalize V2 = wr at *
                have hre := runEndS_eq hke he hrun hend
                have hrunT := textTo_run S k e hbit hst' hre hke hrun
                have CS1 := Lib.hid (single_pure k (by omega) inB)
                rw [show inB.data.toList = inL from rfl] at CS1
                have hq1 := singleL_len k inL
                have CS2 := Lib.hid (single_pure e (by omega) inB)
                rw [show inB.data.toList = inL from rfl] at CS2
                have hq2 := singleL_len e inL
                have hol : (pre ++ textTo S k).length ≤ 2 + 9 * k := by have := textTo_len S k; rw [List.length_append]; omega
                have hn' : e + 1 = 256 ∨ S.getLsbD (e + 1) = false := by
                  by_cases h : e < 255
                  · exact .inr (hend h)
                  · exact .inl (by omega)
                have HN := Lib.hid hn'
                clear hn' hend hrun hre hst' hst
                have hT := (show pre ++ textTo S (e + 1) = pre ++ textTo S k ++ pieceL k e by rw [hrunT, List.append_assoc])
                clear hrunT
                have HB := Lib.hid bs_append
                generalize pre ++ textTo S k = o at hol hT ⊢
                unfold pieceL at hT
                generalize hq : singleL k inL = q1 at hq1 CS1 hT
                clear hq
                generalize hq : singleL e inL = q2 at hq2 CS2 hT
                clear hq
                have z1 : (bs o).size ≤ 2 + 9 * 256 := by rw [bs_size]; omega
                have z2 : (bs q1).size ≤ 4 := by rw [bs_size]; omega
                have z3 : (bs q2).size ≤ 4 := by rw [bs_size]; omega
                have z4 : (bs o ++ bs q1).size ≤ 2 + 9 * 256 + 4 := by rw [bs_append, bs_size, List.length_append]; omega
                clear hol hq1 hq2
                by_cases c1 : k + 1 < e
                · have c2 : k < e := by omega
                  rw [if_pos c1, if_pos c2] at hT
                  have HT := Lib.hid hT; clear hT
                  have z5 : (bs o ++ bs q1 ++ (⟨#[45]⟩ : ByteArray)).size ≤ 2 + 9 * 256 + 5 := by rw [show (⟨#[45]⟩ : ByteArray) = bs [45] from rfl, bs_append, bs_append, bs_size]; rw [bs_append, bs_size] at z4; simp only [List.length_append, List.length_cons, List.length_nil] at z4 ⊢; omega
                  go_wp2_with fail
                  refine (CS1.out wr hE7).mono ?_
                  rintro e0 V3 ⟨rfl, hv⟩
                  have H8 := Lib.hid (blk hv H7.out hl7)
                  have hb8 := hb7.trans (hv.mono hb7.size)
                  have hE8 := hE7.below hv
                  have hl8 : w.heap.size < V3.heap.size := lt_of_blk H8.out
                  clear hv hb7 hE7 H7 hl7 CS1
                  go_wp2_with fail
                  refine (CS2.out V3 hE8).mono ?_
                  rintro e0 V4 ⟨rfl, hv⟩
                  have H9 := Lib.hid (blk hv H8.out hl8)
                  have hb9 := hb8.trans (hv.mono hb8.size)
                  have hE9 := hE8.below hv
                  clear hv hb8 hE8 H8 hl8 CS2
                  go_wp2
                  go_roundw
                  case rel => exact ⟨e + 1, by go_num, by omega, by rw [HT.out]; show Value.string (bs o ++ bs q1 ++ bs [45] ++ bs q2) = _; simp only [HB.out, List.append_assoc], H9.out, hE9, hb9, .inr (HN.out.elim .inl (fun x => .inr (.inr x)))⟩
                  case measure => simp [intOf] <;> omega
                · by_cases c2 : k < e
                  · rw [if_neg c1, if_pos c2, List.append_nil] at hT
                    have HT := Lib.hid hT; clear hT
                    go_wp2_with fail
                    refine (CS1.out wr hE7).mono ?_
                    rintro e0 V3 ⟨rfl, hv⟩
                    have H8 := Lib.hid (blk hv H7.out hl7)
                    have hb8 := hb7.trans (hv.mono hb7.size)
                    have hE8 := hE7.below hv
                    have hl8 : w.heap.size < V3.heap.size := lt_of_blk H8.out
                    clear hv hb7 hE7 H7 hl7 CS1
                    go_wp2_with fail
                    refine (CS2.out V3 hE8).mono ?_
                    rintro e0 V4 ⟨rfl, hv⟩
                    have H9 := Lib.hid (blk hv H8.out hl8)
                    have hb9 := hb8.trans (hv.mono hb8.size)
                    have hE9 := hE8.below hv
                    clear hv hb8 hE8 H8 hl8 CS2
                    go_wp2
                    go_roundw
                    case rel => exact ⟨e + 1, by go_num, by omega, by rw [HT.out]; show Value.string (bs o ++ bs q1 ++ bs q2) = _; simp only [HB.out, List.append_assoc], H9.out, hE9, hb9, .inr (HN.out.elim .inl (fun x => .inr (.inr x)))⟩
                    case measure => simp [intOf] <;> omega
                  · rw [if_neg c1, if_neg c2, List.append_nil, List.append_nil] at hT
                    have HT := Lib.hid hT; clear hT
                    clear CS2
                    go_wp2_with fail
                    refine (CS1.out wr hE7).mono ?_
                    rintro e0 V3 ⟨rfl, hv⟩
                    have H8 := Lib.hid (blk hv H7.out hl7)
                    have hb8 := hb7.trans (hv.mono hb7.size)
                    have hE8 := hE7.below hv
                    have hl8 : w.heap.size < V3.heap.size := lt_of_blk H8.out
                    clear hv hb7 hE7 H7 hl7 CS1
                    go_wp2
                    go_roundw
                    case rel => exact ⟨e + 1, by go_num, by omega, by rw [HT.out]; show Value.string (bs o ++ bs q1) = _; simp only [HB.out], H8.out, hE8, hb8, .inr (HN.out.elim .inl (fun x => .inr (.inr x)))⟩
                    case measure => simp [intOf] <;> omega
            · have hend : e < 255 → S.getLsbD (e + 1) = false := fun h => absurd h he5
              have hre := runEndS_eq hke he hrun hend
              have hrunT := textTo_run S k e hbit hst' hre hke hrun
              have CS1 := Lib.hid (single_pure k (by omega) inB)
              rw [show inB.data.toList = inL from rfl] at CS1
              have hq1 := singleL_len k inL
              have CS2 := Lib.hid (single_pure e (by omega) inB)
              rw [show inB.data.toList = inL from rfl] at CS2
              have hq2 := singleL_len e inL
              have hol : (pre ++ textTo S k).length ≤ 2 + 9 * k := by have := textTo_len S k; rw [List.length_append]; omega
              have hn' : e + 1 = 256 ∨ S.getLsbD (e + 1) = false := by
                by_cases h : e < 255
                · exact .inr (hend h)
                · exact .inl (by omega)
              have HN := Lib.hid hn'
              clear hn' hend hrun hre hst' hst
              have hT := (show pre ++ textTo S (e + 1) = pre ++ textTo S k ++ pieceL k e by rw [hrunT, List.append_assoc])
              clear hrunT
              have HB := Lib.hid bs_append
              generalize pre ++ textTo S k = o at hol hT ⊢
              unfold pieceL at hT
              generalize hq : singleL k inL = q1 at hq1 CS1 hT
              clear hq
              generalize hq : singleL e inL = q2 at hq2 CS2 hT
              clear hq
              have z1 : (bs o).size ≤ 2 + 9 * 256 := by rw [bs_size]; omega
              have z2 : (bs q1).size ≤ 4 := by rw [bs_size]; omega
              have z3 : (bs q2).size ≤ 4 := by rw [bs_size]; omega
              have z4 : (bs o ++ bs q1).size ≤ 2 + 9 * 256 + 4 := by rw [bs_append, bs_size, List.length_append]; omega
              clear hol hq1 hq2
              by_cases c1 : k + 1 < e
              · have c2 : k < e := by omega
                rw [if_pos c1, if_pos c2] at hT
                have HT := Lib.hid hT; clear hT
                have z5 : (bs o ++ bs q1 ++ (⟨#[45]⟩ : ByteArray)).size ≤ 2 + 9 * 256 + 5 := by rw [show (⟨#[45]⟩ : ByteArray) = bs [45] from rfl, bs_append, bs_append, bs_size]; rw [bs_append, bs_size] at z4; simp only [List.length_append, List.length_cons, List.length_nil] at z4 ⊢; omega
                go_wp2_with fail
                refine (CS1.out wr hE7).mono ?_
                rintro e0 V3 ⟨rfl, hv⟩
                have H8 := Lib.hid (blk hv H7.out hl7)
                have hb8 := hb7.trans (hv.mono hb7.size)
                have hE8 := hE7.below hv
                have hl8 : w.heap.size < V3.heap.size := lt_of_blk H8.out
                clear hv hb7 hE7 H7 hl7 CS1
                go_wp2_with fail
                refine (CS2.out V3 hE8).mono ?_
                rintro e0 V4 ⟨rfl, hv⟩
                have H9 := Lib.hid (blk hv H8.out hl8)
                have hb9 := hb8.trans (hv.mono hb8.size)
                have hE9 := hE8.below hv
                clear hv hb8 hE8 H8 hl8 CS2
                go_wp2
                go_roundw
                case rel => exact ⟨e + 1, by go_num, by omega, by rw [HT.out]; show Value.string (bs o ++ bs q1 ++ bs [45] ++ bs q2) = _; simp only [HB.out, List.append_assoc], H9.out, hE9, hb9, .inr (HN.out.elim .inl (fun x => .inr (.inr x)))⟩
                case measure => simp [intOf] <;> omega
              · by_cases c2 : k < e
                · rw [if_neg c1, if_pos c2, List.append_nil] at hT
                  have HT := Lib.hid hT; clear hT
                  go_wp2_with fail
                  refine (CS1.out wr hE7).mono ?_
                  rintro e0 V3 ⟨rfl, hv⟩
                  have H8 := Lib.hid (blk hv H7.out hl7)
                  have hb8 := hb7.trans (hv.mono hb7.size)
                  have hE8 := hE7.below hv
                  have hl8 : w.heap.size < V3.heap.size := lt_of_blk H8.out
                  clear hv hb7 hE7 H7 hl7 CS1
                  go_wp2_with fail
                  refine (CS2.out V3 hE8).mono ?_
                  rintro e0 V4 ⟨rfl, hv⟩
                  have H9 := Lib.hid (blk hv H8.out hl8)
                  have hb9 := hb8.trans (hv.mono hb8.size)
                  have hE9 := hE8.below hv
                  clear hv hb8 hE8 H8 hl8 CS2
                  go_wp2
                  go_roundw
                  case rel => exact ⟨e + 1, by go_num, by omega, by rw [HT.out]; show Value.string (bs o ++ bs q1 ++ bs q2) = _; simp only [HB.out, List.append_assoc], H9.out, hE9, hb9, .inr (HN.out.elim .inl (fun x => .inr (.inr x)))⟩
                  case measure => simp [intOf] <;> omega
                · rw [if_neg c1, if_neg c2, List.append_nil, List.append_nil] at hT
                  have HT := Lib.hid hT; clear hT
                  clear CS2
                  go_wp2_with fail
                  refine (CS1.out wr hE7).mono ?_
                  rintro e0 V3 ⟨rfl, hv⟩
                  have H8 := Lib.hid (blk hv H7.out hl7)
                  have hb8 := hb7.trans (hv.mono hb7.size)
                  have hE8 := hE7.below hv
                  have hl8 : w.heap.size < V3.heap.size := lt_of_blk H8.out
                  clear hv hb7 hE7 H7 hl7 CS1
                  go_wp2
                  go_roundw
                  case rel => exact ⟨e + 1, by go_num, by omega, by rw [HT.out]; show Value.string (bs o ++ bs q1) = _; simp only [HB.out], H8.out, hE8, hb8, .inr (HN.out.elim .inl (fun x => .inr (.inr x)))⟩
                  case measure => simp [intOf] <;> omega
        · have hbit' : S.getLsbD k = false := by simpa using hbit
          rw [hbit']
          go_wp2
          go_roundw
          case rel => exact ⟨k + 1, by go_num, by omega, by rw [textTo_off hbit'], H6.out, hE6, hb6, .inr (.inr (.inl (by rw [Nat.add_sub_cancel]; exact hbit')))⟩
          case measure => simp [intOf] <;> omega
      · have hk0 : k = 256 := by omega
        subst hk0
        have hol : (pre ++ textTo S 256).length ≤ 2 + 9 * 256 := by have := textTo_len S 256; rw [List.length_append]; omega
        have HB := Lib.hid bs_append
        generalize pre ++ textTo S 256 = o at hol HS ⊢
        have z1 : (bs o).size ≤ 2 + 9 * 256 := by rw [bs_size]; omega
        go_wp2
        go_ret
        exact ⟨by rw [HS.out, ← HB.out]; rfl, hbr⟩
end Go.Proofs.YtkjnhjhkaaampaaDoor
