/-
  The law ClassNexts: its walk.
-/
import Derived.Test.YtkjnhjhkaaampaaClass2
namespace Go.Proofs.Ytkjnhjhkaaampaa
open Go Go.RowKit

def optI (o : Option Nat) : Int := match o with | some c => (c : Int) | none => 0

theorem nextV_eq (s : CS) (b : Nat) : nextV s b = .tuple #[.int .u8 (optI (nextS s b)), .bool (nextS s b).isSome] := by
  unfold nextV optI; cases nextS s b <;> rfl

theorem nextS_lt {s : CS} {b c : Nat} (h : nextS s b = some c) : c < 256 := (nextS_some h).2.1
theorem optI_bd (s : CS) (b : Nat) : 0 ≤ optI (nextS s b) ∧ optI (nextS s b) < 256 := by
  cases h : nextS s b with
  | none => simp [optI]
  | some c => have := nextS_lt h; simp only [optI]; omega

/-- One step down: the least byte from k on and from f on. -/
theorem nextS_down (s : CS) (f k : Nat) (hk : k < 256) : nextS s (max k f) = if s.getLsbD k && decide (f ≤ k) then some k else nextS s (max (k + 1) f) := by
  by_cases hf : f ≤ k
  · rw [Nat.max_eq_left hf, Nat.max_eq_left (by omega), nextS_step hk]
    simp [hf]
  · rw [Nat.max_eq_right (by omega), Nat.max_eq_right (by omega)]
    simp [hf]

theorem lit1 : words (mkS fun i => i == 1) = #[Value.int .u64 2, .int .u64 0, .int .u64 0, .int .u64 0] := by kernel_rfl
theorem next1 : nextV (mkS fun i => i == 1) 0 = .tuple #[.int .u8 1, .bool true] := by kernel_rfl

set_option maxRecDepth 100000 in
set_option maxHeartbeats 1000000 in
theorem nexts_walk (s : CS) (from_ : Int) (hf0 : -9223372036854775808 ≤ from_) (hf1 : from_ ≤ 9223372036854775807) (w : World) :
    Calls Try.prog 3 #[.agg (words s), .int .i64 from_] w fun e w' => e = .returned (.bool true) ∧ Below w.heap.size w w' := by
  have c1 : Pure Try.prog 9 #[.agg (words (mkS fun i => i == 1)), .int .i64 (-5)] (nextV (mkS fun i => i == 1) 0) := next_pure (mkS fun i => i == 1) (-5) (by omega) (by omega)
  rw [lit1, next1] at c1
  have C1 := Lib.hid c1; clear c1
  have h0 := heap_alloc_new w (.cells (words s) 23)
  have hb0 : Below w.heap.size w (w.alloc (.cells (words s) 23)) := (Below.refl _ _).alloc (Nat.le_refl _) _
  have H0 := Lib.hid h0; clear h0
  go_enter Try.func3, Try.ntmps3
  go_wp2_with fail
  generalize w.alloc (.cells (words s) 23) = W0 at H0 hb0 ⊢
  have hlt0 : w.heap.size < W0.heap.size := lt_of_blk H0.out
  refine (C1.out _).mono ?_
  clear C1
  rintro e W1 ⟨rfl, hb⟩
  have H1 := Lib.hid (blk hb H0.out hlt0)
  have hb1 := hb0.trans (hb.mono (Nat.le_of_lt hlt0))
  clear hb H0 hb0
  have hlt1 : w.heap.size < W1.heap.size := lt_of_blk H1.out
  have H1a : Hid ((W1.alloc (.cells (words s) 26)).heap[w.heap.size]? = some (.cells (words s) 23)) := by
    have := H1.out
    show _ = _
    rw [heap_alloc_old _ _ (h := hlt1)]; exact this
  go_wp2_with (first | ((with_reducible refine wpList_get_row (d := 30) (ty := 23) (x := .tmp 2) _ _ H1.out (wordT _) ?_ ?_); rfl) | ((with_reducible refine wpList_get_row (d := 31) (ty := 23) (x := .tmp 2) _ _ H1a.out (wordT _) ?_ ?_); rfl) | ((with_reducible refine wpList_var_row (d := 7) (ty := 26) (y := .tmp 30) (cs := words s) setT_zero (words_sz _ _) (setT _) (words_cells _) ?_ ?_ ?_); rfl; (intro _; rfl)) | fail)
  clear H1a
  have h7 := heap_alloc_new W1 (.cells (words s) 26)
  have H7 := Lib.hid h7; clear h7
  have hb2 : Below w.heap.size w (W1.alloc (.cells (words s) 26)) := hb1.alloc (Nat.le_of_lt hlt1) _
  have hl7 : W1.heap.size < (W1.alloc (.cells (words s) 26)).heap.size := lt_of_blk H7.out
  generalize hW1 : W1.heap.size = b7 at hl7 hlt1 H7 ⊢
  clear hW1
  generalize W1.alloc (.cells (words s) 26) = W2 at H7 hb2 hl7 ⊢
  clear H1 hb1 W1
  refine (from_pure s _).mono ?_
  rintro e W3 ⟨rfl, hb⟩
  have H7a := Lib.hid (blk hb H7.out hl7)
  have hb3 := hb2.trans (hb.mono (by omega))
  have hl3 : b7 < W3.heap.size := lt_of_blk H7a.out
  clear hb H7 hb2 hl7
  go_wp2_with (first | ((with_reducible refine wpList_var_row (d := 8) (ty := 28) (y := .tmp 32) (cs := boolsF s.getLsbD) boolT_zero (boolsF_sz _ _) (boolT _) (boolsF_cells _) ?_ ?_ ?_); rfl; (intro _; rfl)) | fail)
  have h8 := heap_alloc_new W3 (.cells (boolsF s.getLsbD) 28)
  have H8 := Lib.hid h8; clear h8
  have h7 : (W3.alloc (.cells (boolsF s.getLsbD) 28)).heap[b7]? = some (.cells (words s) 26) := by
    rw [heap_alloc_old _ _ (h := hl3)]; exact H7a.out
  have H7 := Lib.hid h7; clear h7 H7a
  have hb4 : Below w.heap.size w (W3.alloc (.cells (boolsF s.getLsbD) 28)) := hb3.alloc (by omega) _
  clear hb3
  generalize hW3 : W3.heap.size = b8 at hl3 H8 ⊢
  clear hW3
  generalize W3.alloc (.cells (boolsF s.getLsbD) 28) = W4 at H7 H8 hb4 ⊢
  clear W3 W2
  have hl8 : b8 < W4.heap.size := lt_of_blk H8.out
  have C2 := Lib.hid (next_pure s from_ hf0 hf1)
  go_loop [9, 10, 11] (fun want there i => ∃ k : Nat, k ≤ 256 ∧ i = .int .i64 ((k : Int) - 1) ∧ want = .int .i64 (optI (nextS s (max k from_.toNat))) ∧ there = .bool (nextS s (max k from_.toNat)).isSome)
    (fun _ _ i => (intOf i + 1).toNat)
  case atStart =>
    refine ⟨256, by omega, rfl, ?_, ?_⟩
    · rw [nextS_end (by omega)]; rfl
    · rw [nextS_end (by omega)]; rfl
  case round =>
    obtain ⟨k, hk, rfl, rfl, rfl⟩ := hrel
    by_cases hpos : 1 ≤ k
    · obtain ⟨j, rfl⟩ : ∃ j, k = j + 1 := ⟨k - 1, by omega⟩
      have hj : j < 256 := by omega
      have HD := Lib.hid (nextS_down s from_.toNat j hj)
      generalize nextS s (max (j + 1) from_.toNat) = o at HD ⊢
      have hc : ∀ i, W4.cell? ⟨b8, i, none⟩ = _ := fun i => cell_of_row _ _ i _ _ _ H8.out
      have q := boolsF_at s.getLsbD j hj
      have e1 : (((j + 1 : Nat) : Int) - 1) = j := by omega
      have e1' : ((j : Int) + 1 - 1) = j := by omega
      simp only [e1]
      clear e1
      cases hbit : s.getLsbD j
      · rw [hbit] at q HD
        clear hbit
        go_wp2
        go_round
        case rel =>
          refine ⟨j, by omega, by go_num, ?_, ?_⟩ <;> (rw [HD.out]; simp)
        case measure => simp [intOf] <;> omega
      · rw [hbit] at q HD
        clear hbit
        by_cases hfj : from_ ≤ j
        · go_wp2
          go_round
          case rel =>
            have : decide (from_.toNat ≤ j) = true := by simp; omega
            refine ⟨j, by omega, by go_num, ?_, ?_⟩ <;> (rw [HD.out, this]; simp [optI])
          case measure => simp [intOf] <;> omega
        · go_wp2
          go_round
          case rel =>
            have : decide (from_.toNat ≤ j) = false := by simp; omega
            refine ⟨j, by omega, by go_num, ?_, ?_⟩ <;> (rw [HD.out, this]; simp)
          case measure => simp [intOf] <;> omega
    · obtain rfl : k = 0 := by omega
      rw [Nat.zero_max]
      rw [nextV_eq] at C2
      have HO := Lib.hid (optI_bd s from_.toNat)
      generalize nextS s from_.toNat = o at C2 HO ⊢
      go_wp2_with (first | ((with_reducible refine wpList_get_row (d := 47) (ty := 26) (x := .tmp 7) _ _ H7.out (setT _) ?_ ?_); rfl) | fail)
      have hob : 0 ≤ optI o ∧ optI o < 256 := HO.out
      clear HO
      refine (C2.out _).mono ?_
      clear C2
      rintro e W5 ⟨rfl, hb⟩
      have H7a := Lib.hid (blk hb H7.out (by omega))
      have H8a := Lib.hid (blk hb H8.out (by omega))
      have hb5 := hb4.trans (hb.mono (by omega))
      have hl85 : b8 < W5.heap.size := lt_of_blk H8a.out
      clear hb H7 H8 hb4 hl8
      have e2 : wrap64 (optI o) = optI o := IntWalk.wrap64_in _ ⟨by omega, by omega⟩
      have e3 : (optI o != optI o) = false := by simp
      have e4 : (o.isSome != o.isSome) = false := by simp
      go_wp2_with (first | ((with_reducible refine wpList_alloc_row rfl 28 ?_ _ _ boolT_zero ?_); rfl) | fail)
      clear e2 e3 e4
      have h14 := heap_alloc_new W5 (.cells (boolsF fun x => false) 28)
      have h7 : (W5.alloc (.cells (boolsF fun x => false) 28)).heap[b7]? = some (.cells (words s) 26) := by
        rw [heap_alloc_old _ _ (h := by omega)]; exact H7a.out
      have h8 : (W5.alloc (.cells (boolsF fun x => false) 28)).heap[b8]? = some (.cells (boolsF s.getLsbD) 28) := by
        rw [heap_alloc_old _ _ (h := by omega)]; exact H8a.out
      have hb6 : Below w.heap.size w (W5.alloc (.cells (boolsF fun x => false) 28)) := hb5.alloc (by omega) _
      clear H7a H8a hb5
      generalize hW5 : W5.heap.size = b14 at h14 hl85 ⊢
      clear hW5
      generalize W5.alloc (.cells (boolsF fun x => false) 28) = W6 at h7 h8 h14 hb6 ⊢
      clear W5
      go_loopw [15, 16] (fun at_ i wr => ∃ (k a : Nat), k ≤ a ∧ a ≤ 256 ∧ i = .int .i64 k ∧ at_ = .int .i64 a ∧ wr.heap[b7]? = some (.cells (words s) 26 (0, 0)) ∧ wr.heap[b8]? = some (.cells (boolsF s.getLsbD) 28 (0, 0)) ∧ wr.heap[b14]? = some (.cells (boolsF fun x => decide (x < a) && s.getLsbD x) 28 (0, 0)) ∧ Below w.heap.size w wr)
        (fun _ i _ => 257 - (intOf i).toNat)
      case atStart => exact ⟨0, 0, by omega, by omega, rfl, rfl, h7, h8, by simpa using h14, hb6⟩
      case round =>
        clear h7 h8 h14 hb6
        obtain ⟨k, a, hka, ha, rfl, rfl, hr7, hr8, hr14, hbel⟩ := hrel
        have H7 := Lib.hid hr7
        have H8 := Lib.hid hr8
        have H14 := Lib.hid hr14
        clear hr7 hr8 hr14
        have hlw : b14 < wr.heap.size := lt_of_blk H14.out
        have C := next_pure s a (by omega) (by omega)
        rw [Int.toNat_natCast] at C
        cases hn : nextS s a with
        | none =>
          have hv : nextV s a = .tuple #[.int .u8 0, .bool false] := by rw [nextV, hn]
          rw [hv] at C
          have C3 := Lib.hid C; clear C hv
          have hE := eql_bools Try.underlying28 (fun x => decide (x < a) && s.getLsbD x) s.getLsbD
          have hq : eqF (fun x => decide (x < a) && s.getLsbD x) s.getLsbD = true := eqF_true fun i hi => by
            by_cases h : i < a
            · simp [h]
            · rw [nextS_none hn i (by omega) hi]; simp
          rw [hq] at hE
          clear hq hn
          go_wp2_with (first | ((with_reducible refine wpList_get_row (d := 66) (ty := 26) (x := .tmp 7) _ _ H7.out (setT _) ?_ ?_); rfl) | fail)
          refine (C3.out _).mono ?_
          rintro e W7 ⟨rfl, hb⟩
          have H8a := Lib.hid (blk hb H8.out (by omega))
          have H14a := Lib.hid (blk hb H14.out (by omega))
          go_wp2_with (first | ((with_reducible refine wpList_get_row (d := 73) (ty := 28) (x := .tmp 14) _ _ H14a.out (boolT _) ?_ ?_); rfl) | ((with_reducible refine wpList_get_row (d := 74) (ty := 28) (x := .tmp 8) _ _ H8a.out (boolT _) ?_ ?_); rfl) | fail)
          go_ret
          exact ⟨rfl, hbel.trans (hb.mono (by have := hbel.size; omega))⟩
        | some c =>
          have hv : nextV s a = .tuple #[.int .u8 (c : Nat), .bool true] := by rw [nextV, hn]
          rw [hv] at C
          have C3 := Lib.hid C; clear C hv
          obtain ⟨hc1, hc2, hc3, hc4⟩ := nextS_some hn
          have HC4 := Lib.hid hc4
          have HC3 := Lib.hid hc3
          clear hn hc4 hc3
          go_wp2_with (first | ((with_reducible refine wpList_get_row (d := 66) (ty := 26) (x := .tmp 7) _ _ H7.out (setT _) ?_ ?_); rfl) | fail)
          refine (C3.out _).mono ?_
          clear C3
          rintro e W7 ⟨rfl, hb⟩
          have H7a := Lib.hid (blk hb H7.out (by omega))
          have H8a := Lib.hid (blk hb H8.out (by omega))
          have H14a := Lib.hid (blk hb H14.out (by omega))
          have hb7 := hbel.trans (hb.mono (by have := hbel.size; omega))
          clear hb H7 H8 H14 hbel
          have hlw : b14 < W7.heap.size := lt_of_blk H14a.out
          have hcell : ∀ i, W7.cell? ⟨b14, i, none⟩ = _ := fun i => cell_of_row _ _ i _ _ _ H14a.out
          have hf : ∀ i, W7.frozen? ⟨b14, i, none⟩ = false := fun i => frozen_of_row _ _ i _ _ H14a.out
          have q := boolsF_at (fun x => decide (x < a) && s.getLsbD x) c hc2
          go_wp2
          clear hcell hf q
          go_roundw
          case rel =>
            have h14' := heap_setCell_same _ _ c _ _ (.bool true) H14a.out
            rw [boolsF_set] at h14'
            refine ⟨k + 1, c + 1, by omega, by omega, by go_num, by go_num, ?_, ?_, ?_, hb7.setCell (by simp; omega) _⟩
            · rw [heap_setCell_other _ _ _ _ (by simp; omega)]; exact H7a.out
            · rw [heap_setCell_other _ _ _ _ (by simp; omega)]; exact H8a.out
            · rw [h14']
              congr 2
              refine boolsF_congr fun i hi => ?_
              unfold upd
              by_cases e : i = c
              · subst e; simp [HC3.out]
              · by_cases h1 : i < a
                · have : i < c + 1 := by omega
                  simp [e, h1, this]
                · by_cases h2 : i < c
                  · simp [e, h1, HC4.out i (by omega) h2]
                  · have : ¬ i < c + 1 := by omega
                    simp [e, h1, this]
          case measure => simp [intOf] <;> omega
end Go.Proofs.Ytkjnhjhkaaampaa
