/-
  The law ClassMakes: its walk.
-/
import Derived.Test.YtkjnhjhkaaampaaClass2
namespace Go.Proofs.Ytkjnhjhkaaampaa
open Go Go.RowKit

set_option maxRecDepth 100000 in
set_option maxHeartbeats 1000000 in
theorem makes_walk (s : ByteArray) (hs : s.size ≤ maxLen) (lo hi : Nat) (hlo : lo < 256) (hhi : hi < 256) (w : World) :
    Calls Try.prog 4 #[.string s, .int .u8 lo, .int .u8 hi] w fun e w' => e = .returned (.bool true) ∧ Below w.heap.size w w' := by
  have C1 := Lib.hid (of_pure s hs)
  have C2 := Lib.hid (span_pure lo hi hlo hhi)
  unfold maxLen at hs
  go_enter Try.func4, Try.ntmps4
  go_wp2_with fail
  refine (C1.out w).mono ?_
  rintro e W1 ⟨rfl, hb1⟩
  go_wp2_with fail
  refine (C2.out W1).mono ?_
  rintro e W2 ⟨rfl, hb⟩
  have hb2 := hb1.trans (hb.mono hb1.size)
  clear hb1 hb C1 C2
  have h7 : ((W2.alloc (.cells (words cs0) 26)).alloc (.cells (words cs0) 26)).heap[W2.heap.size]? = some (.cells (words cs0) 26) := heap_alloc2_old _ _ _
  have h8 : ((W2.alloc (.cells (words cs0) 26)).alloc (.cells (words cs0) 26)).heap[W2.heap.size + 1]? = some (.cells (words cs0) 26) := heap_alloc2_new _ _ _
  go_wp2_with (first | ((with_reducible refine wpList_alloc_row (o := ⟨some 7, _, _, _, _, _⟩) rfl 26 ?_ _ _ setT_zero ?_); rfl) | ((with_reducible refine wpList_alloc_row (o := ⟨some 8, _, _, _, _, _⟩) rfl 26 ?_ _ _ setT_zero ?_); rfl) | (with_reducible refine stop_store (x := 7) ?_) | fail)
  unfold Hid
  have hb3 : Below w.heap.size w ((W2.alloc (.cells (words cs0) 26)).alloc (.cells (words cs0) 26)) := (hb2.alloc hb2.size _).alloc (by have := hb2.size; simp; omega) _
  have hs2 := hb2.size
  clear hb2
  have hsz : (W2.alloc (.cells (words cs0) 26)).heap.size = W2.heap.size + 1 := World.size_alloc _ _
  have hsz2 : ((W2.alloc (.cells (words cs0) 26)).alloc (.cells (words cs0) 26)).heap.size = W2.heap.size + 1 + 1 := by rw [World.size_alloc, hsz]
  generalize hW2 : W2.heap.size = b at h7 h8 hs2 hsz2 ⊢
  clear hW2 hsz
  generalize (W2.alloc (.cells (words cs0) 26)).alloc (.cells (words cs0) 26) = W3 at h7 h8 hb3 hsz2 ⊢
  refine wpList_put_row b 26 h7 (words_sz _ _) (setT _) (words_cells _) rfl rfl ?_
  refine wpList_put_row (b + 1) 26 (heap_setRow_other h8 (by omega)) (words_sz _ _) (setT _) (words_cells _) rfl rfl ?_
  have h7' : ((W3.setRow b (words (ofS s.data.toList))).setRow (b + 1) (words (spanS lo hi))).heap[b]? = some (.cells (words (ofS s.data.toList)) 26) := heap_setRow_other (heap_setRow_same h7) (by omega)
  have h8' : ((W3.setRow b (words (ofS s.data.toList))).setRow (b + 1) (words (spanS lo hi))).heap[b + 1]? = some (.cells (words (spanS lo hi)) 26) := heap_setRow_same (heap_setRow_other h8 (by omega))
  have hb4 : Below w.heap.size w ((W3.setRow b (words (ofS s.data.toList))).setRow (b + 1) (words (spanS lo hi))) := below_setRow (below_setRow hb3 hs2 _) (by omega) _
  clear h7 h8 hb3
  generalize (W3.setRow b (words (ofS s.data.toList))).setRow (b + 1) (words (spanS lo hi)) = W4 at h7' h8' hb4 ⊢
  have H7 := Lib.hid h7'; have H8 := Lib.hid h8'; clear h7' h8'
  have hl8 : b + 1 < W4.heap.size := lt_of_blk H8.out
  go_wp2_with (first | ((with_reducible refine wpList_alloc_row (o := ⟨some 9, _, _, _, _, _⟩) rfl 28 ?_ _ _ boolT_zero ?_); rfl) | fail)
  have h9 := heap_alloc_new W4 (.cells (boolsF fun x => false) 28)
  have H7a := Lib.hid (heap_alloc_keep (o' := .cells (boolsF fun x => false) 28) H7.out)
  have H8a := Lib.hid (heap_alloc_keep (o' := .cells (boolsF fun x => false) 28) H8.out)
  have H9a := Lib.hid h9
  have hb5 : Below w.heap.size w (W4.alloc (.cells (boolsF fun x => false) 28)) := hb4.alloc (by omega) _
  clear h9 H7 H8 hb4
  generalize hW4 : W4.heap.size = c at hl8 H9a ⊢
  clear hW4
  generalize W4.alloc (.cells (boolsF fun x => false) 28) = W5 at H7a H8a H9a hb5 ⊢
  go_loopw [10] (fun i wr => ∃ k : Nat, i = .int .i64 k ∧ k ≤ s.size ∧ wr.heap[b]? = some (.cells (words (ofS s.data.toList)) 26 (0, 0)) ∧ wr.heap[b + 1]? = some (.cells (words (spanS lo hi)) 26 (0, 0)) ∧ wr.heap[c]? = some (.cells (boolsF (ofS (s.data.toList.take k)).getLsbD) 28 (0, 0)) ∧ Below w.heap.size w wr)
    (fun i _ => s.size - (intOf i).toNat)
  case atStart =>
    refine ⟨0, rfl, Nat.zero_le _, H7a.out, H8a.out, ?_, hb5⟩
    rw [show boolsF (ofS (s.data.toList.take 0)).getLsbD = boolsF fun x => false from boolsF_congr fun i hi => by rw [ofS, mkS_bit _ _ hi]; simp]
    exact H9a.out
  case round =>
    clear H7a H8a H9a hb5
    obtain ⟨k, rfl, hk1, h7, h8, h9, hbel⟩ := hrel
    have H7 := Lib.hid h7; have H8 := Lib.hid h8; have H9 := Lib.hid h9; clear h7 h8 h9
    have hl9 : c < wr.heap.size := lt_of_blk H9.out
    by_cases hlt : k < s.size
    · have hts := take_snoc s k hlt
      have hsn := ofS_snoc (s.data.toList.take k) s[k]
      rw [← hts] at hsn
      have HS := Lib.hid hsn; clear hsn hts
      generalize ofS (s.data.toList.take k) = t at H9 HS
      have hcl : s[k].toNat < 256 := s[k].toNat_lt
      have hcell : ∀ i, wr.cell? ⟨c, i, none⟩ = _ := fun i => cell_of_row _ _ i _ _ _ H9.out
      have hf : ∀ i, wr.frozen? ⟨c, i, none⟩ = false := fun i => frozen_of_row _ _ i _ _ H9.out
      have q := boolsF_at t.getLsbD s[k].toNat hcl
      go_wp2
      clear hcell hf q
      go_roundw
      case rel =>
        have h9' := heap_setCell_same _ _ s[k].toNat _ _ (.bool true) H9.out
        rw [boolsF_set] at h9'
        refine ⟨k + 1, by go_num, by omega, heap_setCell_keep H7.out (by simp; omega), heap_setCell_keep H8.out (by simp; omega), ?_, hbel.setCell (by simp; omega) _⟩
        rw [h9', HS.out]
        congr 2
        refine boolsF_congr fun i hi => ?_
        rw [addB_bit _ _ _ hcl]
        unfold upd
        by_cases e : i = s[k].toNat
        · simp [e]
        · have e' : ¬ s[k].toNat = i := fun h => e h.symm
          simp [e, e']
      case measure => simp [intOf] <;> omega
    · have hk : k = s.size := by omega
      subst hk
      rw [List.take_of_length_le (by simp)] at H9
      go_wp2_with fail
      clear hlt hk1
      have hspan : ∀ k, k < 256 → (spanS lo hi).getLsbD k = (decide (lo ≤ k) && decide (k ≤ hi)) := fun k hk => by rw [spanS, mkS_bit _ _ hk]
      have HSP := Lib.hid hspan; clear hspan
      generalize ofS s.data.toList = S1 at H7 H9
      generalize spanS lo hi = S2 at H8 HSP
      go_loopw [11] (fun i wr => ∃ k : Nat, i = .int .i64 k ∧ k ≤ 256 ∧ wr.heap[b]? = some (.cells (words S1) 26 (0, 0)) ∧ wr.heap[b + 1]? = some (.cells (words S2) 26 (0, 0)) ∧ wr.heap[c]? = some (.cells (boolsF S1.getLsbD) 28 (0, 0)) ∧ Below w.heap.size w wr)
        (fun i _ => 256 - (intOf i).toNat)
      case atStart => exact ⟨0, rfl, by omega, H7.out, H8.out, H9.out, hbel⟩
      case round =>
        clear H7 H8 H9 hbel hl9
        obtain ⟨k, rfl, hk, h7, h8, h9, hbel⟩ := hrel
        have hl9 : c < wr.heap.size := lt_of_blk h9
        by_cases hlt : k < 256
        · have H7 := Lib.hid h7; have H8 := Lib.hid h8; have H9 := Lib.hid h9; clear h7 h8 h9
          have P1 := Lib.hid (has_pure S1 (k : Int) (by omega) (by omega))
          have P2 := has_pure S2 (k : Int) (by omega) (by omega)
          have q := boolsF_at S1.getLsbD k hlt
          rw [Int.toNat_natCast] at P2
          have P1 := P1.out
          rw [Int.toNat_natCast] at P1
          rw [HSP.out k hlt] at P2
          have P1 := Lib.hid P1
          generalize S1.getLsbD k = x1 at q P1
          have hcell : ∀ i, wr.drew.cell? ⟨c, i, none⟩ = _ := fun i => cell_of_row _ _ i _ _ _ H9.out
          have hgo : ∀ (W' : World), Below wr.heap.size wr.drew W' → (∃ k' : Nat, Value.int .i64 ((k : Int) + 1) = .int .i64 k' ∧ k' ≤ 256 ∧ W'.heap[b]? = some (.cells (words S1) 26 (0, 0)) ∧ W'.heap[b + 1]? = some (.cells (words S2) 26 (0, 0)) ∧ W'.heap[c]? = some (.cells (boolsF S1.getLsbD) 28 (0, 0)) ∧ Below w.heap.size w W') := fun W' hS =>
            ⟨k + 1, by go_num, by omega, blk hS H7.out (by omega), blk hS H8.out (by omega), blk hS H9.out hl9, hbel.drew.trans (hS.mono hbel.size)⟩
          have HGO := Lib.hid hgo; clear hgo
          by_cases hd : lo ≤ k
          · have eP : (decide (lo ≤ k) && decide (k ≤ hi)) = decide ((k : Int) ≤ (hi : Int)) := by rw [Bool.eq_iff_iff]; simp; omega
            rw [eP] at P2
            have P2 := Lib.hid P2
            clear eP
            have hd1 : decide ((lo : Int) ≤ (k : Int)) = true := by simp; omega
            go_wp2
            refine wp_region_flow (Below wr.heap.size wr.drew) (by kernel_rfl) (by kernel_rfl) (Below.refl _ _) ?_
            refine wpFlow_load_row b 26 (fun w' hS => blk hS H7.out (by omega)) (setT _) rfl rfl ?_
            simp only [Act.put, List.setIfInBounds_toArray, List.set_cons_zero, List.set_cons_succ]
            repeat
              refine wpFlow_step ?_ rfl (fun w' hS => ?_) ?_
              rotate_left
              · have hcc := (bcell hS).1
                go_simp
                try go_bits
                exact gives_value (P := Try.prog) hS
              simp only [Act.put, List.setIfInBounds_toArray, List.set_cons_zero, List.set_cons_succ]
            refine wpFlow_call _ (by kernel_rfl) P1.out (Nat.le_refl _) rfl rfl ?_
            simp only [Act.put, List.setIfInBounds_toArray, List.set_cons_zero, List.set_cons_succ]
            repeat
              refine wpFlow_step ?_ rfl (fun w' hS => ?_) ?_
              rotate_left
              · have hcc := (bcell hS).1
                go_simp
                try go_bits
                exact gives_value (P := Try.prog) hS
              simp only [Act.put, List.setIfInBounds_toArray, List.set_cons_zero, List.set_cons_succ]
            refine wpFlow_load_row (b + 1) 26 (fun w' hS => blk hS H8.out (by omega)) (setT _) rfl rfl ?_
            simp only [Act.put, List.setIfInBounds_toArray, List.set_cons_zero, List.set_cons_succ]
            repeat
              refine wpFlow_step ?_ rfl (fun w' hS => ?_) ?_
              rotate_left
              · have hcc := (bcell hS).1
                go_simp
                try go_bits
                exact gives_value (P := Try.prog) hS
              simp only [Act.put, List.setIfInBounds_toArray, List.set_cons_zero, List.set_cons_succ]
            refine wpFlow_call _ (by kernel_rfl) P2.out (Nat.le_refl _) rfl rfl ?_
            simp only [Act.put, List.setIfInBounds_toArray, List.set_cons_zero, List.set_cons_succ]
            repeat
              refine wpFlow_step ?_ rfl (fun w' hS => ?_) ?_
              rotate_left
              · have hcc := (bcell hS).1
                go_simp
                try go_bits
                exact gives_value (P := Try.prog) hS
              simp only [Act.put, List.setIfInBounds_toArray, List.set_cons_zero, List.set_cons_succ]
            refine wpFlow_nil ?_
            intro w' hS
            go_wp2
            go_roundw
            case rel => exact HGO.out w' hS
            case measure => simp [intOf] <;> omega
          · have eP : (decide (lo ≤ k) && decide (k ≤ hi)) = false := by simp [hd]
            rw [eP] at P2
            have P2 := Lib.hid P2
            clear eP
            have hd1 : decide ((lo : Int) ≤ (k : Int)) = false := by simp; omega
            go_wp2
            refine wp_region_flow (Below wr.heap.size wr.drew) (by kernel_rfl) (by kernel_rfl) (Below.refl _ _) ?_
            refine wpFlow_load_row b 26 (fun w' hS => blk hS H7.out (by omega)) (setT _) rfl rfl ?_
            simp only [Act.put, List.setIfInBounds_toArray, List.set_cons_zero, List.set_cons_succ]
            repeat
              refine wpFlow_step ?_ rfl (fun w' hS => ?_) ?_
              rotate_left
              · have hcc := (bcell hS).1
                go_simp
                try go_bits
                exact gives_value (P := Try.prog) hS
              simp only [Act.put, List.setIfInBounds_toArray, List.set_cons_zero, List.set_cons_succ]
            refine wpFlow_call _ (by kernel_rfl) P1.out (Nat.le_refl _) rfl rfl ?_
            simp only [Act.put, List.setIfInBounds_toArray, List.set_cons_zero, List.set_cons_succ]
            repeat
              refine wpFlow_step ?_ rfl (fun w' hS => ?_) ?_
              rotate_left
              · have hcc := (bcell hS).1
                go_simp
                try go_bits
                exact gives_value (P := Try.prog) hS
              simp only [Act.put, List.setIfInBounds_toArray, List.set_cons_zero, List.set_cons_succ]
            refine wpFlow_load_row (b + 1) 26 (fun w' hS => blk hS H8.out (by omega)) (setT _) rfl rfl ?_
            simp only [Act.put, List.setIfInBounds_toArray, List.set_cons_zero, List.set_cons_succ]
            repeat
              refine wpFlow_step ?_ rfl (fun w' hS => ?_) ?_
              rotate_left
              · have hcc := (bcell hS).1
                go_simp
                try go_bits
                exact gives_value (P := Try.prog) hS
              simp only [Act.put, List.setIfInBounds_toArray, List.set_cons_zero, List.set_cons_succ]
            refine wpFlow_call _ (by kernel_rfl) P2.out (Nat.le_refl _) rfl rfl ?_
            simp only [Act.put, List.setIfInBounds_toArray, List.set_cons_zero, List.set_cons_succ]
            repeat
              refine wpFlow_step ?_ rfl (fun w' hS => ?_) ?_
              rotate_left
              · have hcc := (bcell hS).1
                go_simp
                try go_bits
                exact gives_value (P := Try.prog) hS
              simp only [Act.put, List.setIfInBounds_toArray, List.set_cons_zero, List.set_cons_succ]
            refine wpFlow_skip rfl ?_
            simp only [Act.put, List.setIfInBounds_toArray, List.set_cons_zero, List.set_cons_succ]
            refine wpFlow_skip rfl ?_
            simp only [Act.put, List.setIfInBounds_toArray, List.set_cons_zero, List.set_cons_succ]
            refine wpFlow_skip rfl ?_
            simp only [Act.put, List.setIfInBounds_toArray, List.set_cons_zero, List.set_cons_succ]
            repeat
              refine wpFlow_step ?_ rfl (fun w' hS => ?_) ?_
              rotate_left
              · have hcc := (bcell hS).1
                go_simp
                try go_bits
                exact gives_value (P := Try.prog) hS
              simp only [Act.put, List.setIfInBounds_toArray, List.set_cons_zero, List.set_cons_succ]
            refine wpFlow_nil ?_
            intro w' hS
            go_wp2
            go_roundw
            case rel => exact HGO.out w' hS
            case measure => simp [intOf] <;> omega
        · have C3 := Lib.hid (span_pure 7 7 (by omega) (by omega))
          have C4 := has_pure (spanS 7 7) 7 (by omega) (by omega)
          have hb7 : (spanS 7 7).getLsbD (7 : Int).toNat = true := by rw [spanS]; exact mkS_bit _ 7 (by omega)
          rw [hb7] at C4
          have C4 := Lib.hid C4
          clear hb7 h7 h8 h9
          go_wp2_with fail
          refine (C3.out wr).mono ?_
          rintro e V1 ⟨rfl, hv1⟩
          go_wp2_with fail
          refine (C4.out V1).mono ?_
          rintro e V2 ⟨rfl, hv2⟩
          go_wp2
          go_ret
          exact ⟨rfl, (hbel.trans (hv1.mono hbel.size)).trans (hv2.mono (Nat.le_trans hbel.size hv1.size))⟩
end Go.Proofs.Ytkjnhjhkaaampaa
