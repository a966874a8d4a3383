/-
  Quote.
-/
import Derived.Test.YtlfolgbaageknaaDoorTkJn
import Derived.Test.YtlfolgbaageknaaDoorGwt
namespace Go.Proofs.YtlfolgbaageknaaDoor
open Go Go.RowKit

theorem tf_byte_5 : byteT Tryd.prog 5 := by unfold byteT; kernel_rfl

def quote_vc (s : List UInt8) (K : (List UInt8) → Prop) : Prop :=
  ∃ (Inv : Int → (List UInt8) → Prop) (mu : Int → (List UInt8) → Nat),
    Inv 0 [34] ∧ ∀ (t9_1' : Int) (l_3' : List UInt8), Inv t9_1' l_3' →
      (if (decide (t9_1' < (s.length : Int))) = true then
        ∃ (J0_2' : (List UInt8) → Prop),
          (∀ (l_4' : List UInt8), J0_2' l_4' →
            (I64 (t9_1' + 1)) ∧
            Inv (t9_1' + 1) l_4' ∧ mu (t9_1' + 1) l_4' < mu t9_1' l_3') ∧
          (0 ≤ t9_1' ∧ t9_1' < s.length) ∧
          (if ((decide (((s.getD t9_1'.toNat 0).toNat : Int) = 34)) || (decide (((s.getD t9_1'.toNat 0).toNat : Int) = 92))) = true then
            (((l_3'.length + 2) + (l_3'.length + 2) / 4 + 192) * 1 ≤ 281474976710656 ∧ l_3'.length + 2 ≤ 9223372036854775807) ∧
            J0_2' (l_3' ++ [92, (s.getD t9_1'.toNat 0)])
          else
            (if ((decide (32 ≤ ((s.getD t9_1'.toNat 0).toNat : Int))) && (decide (((s.getD t9_1'.toNat 0).toNat : Int) ≤ 126))) = true then
              (((l_3'.length + 1) + (l_3'.length + 1) / 4 + 192) * 1 ≤ 281474976710656 ∧ l_3'.length + 1 ≤ 9223372036854775807) ∧
              J0_2' (l_3' ++ [(s.getD t9_1'.toNat 0)])
            else
              (if (decide (((s.getD t9_1'.toNat 0).toNat : Int) = 10)) = true then
                (l_3'.length + ([92, 110] : List UInt8).length ≤ 140737488355328) ∧
                J0_2' (l_3' ++ ([92, 110] : List UInt8))
              else
                (if (decide (((s.getD t9_1'.toNat 0).toNat : Int) = 13)) = true then
                  (l_3'.length + ([92, 114] : List UInt8).length ≤ 140737488355328) ∧
                  J0_2' (l_3' ++ ([92, 114] : List UInt8))
                else
                  (if (decide (((s.getD t9_1'.toNat 0).toNat : Int) = 9)) = true then
                    (l_3'.length + ([92, 116] : List UInt8).length ≤ 140737488355328) ∧
                    J0_2' (l_3' ++ ([92, 116] : List UInt8))
                  else
                    (0 ≤ (((s.getD t9_1'.toNat 0).toNat : Int) / 2 ^ (4 : Int).toNat) ∧ (((s.getD t9_1'.toNat 0).toNat : Int) / 2 ^ (4 : Int).toNat) < ([48, 49, 50, 51, 52, 53, 54, 55, 56, 57, 97, 98, 99, 100, 101, 102] : List UInt8).length) ∧
                    (0 ≤ (bits .and .u8 ((s.getD t9_1'.toNat 0).toNat : Int) 15) ∧ (bits .and .u8 ((s.getD t9_1'.toNat 0).toNat : Int) 15) < ([48, 49, 50, 51, 52, 53, 54, 55, 56, 57, 97, 98, 99, 100, 101, 102] : List UInt8).length) ∧
                    (((l_3'.length + 4) + (l_3'.length + 4) / 4 + 192) * 1 ≤ 281474976710656 ∧ l_3'.length + 4 ≤ 9223372036854775807) ∧
                    J0_2' (l_3' ++ [92, 120, (([48, 49, 50, 51, 52, 53, 54, 55, 56, 57, 97, 98, 99, 100, 101, 102] : List UInt8).getD (((s.getD t9_1'.toNat 0).toNat : Int) / 2 ^ (4 : Int).toNat).toNat 0), (([48, 49, 50, 51, 52, 53, 54, 55, 56, 57, 97, 98, 99, 100, 101, 102] : List UInt8).getD (bits .and .u8 ((s.getD t9_1'.toNat 0).toNat : Int) 15).toNat 0)]))))))
      else
        (((l_3'.length + 1) + (l_3'.length + 1) / 4 + 192) * 1 ≤ 281474976710656 ∧ l_3'.length + 1 ≤ 9223372036854775807) ∧
        K (l_3' ++ [34]))
set_option maxRecDepth 100000 in
theorem quote_wp  (s : List UInt8) (K : (List UInt8) → Prop) (h : quote_vc s K) :
    Does Tryd.prog 12 [st s] [] [] (fun o => (∃ (v : List UInt8), K v ∧ o = .ret (st v) []) ∨ (False)) := by
  unfold quote_vc at h
  refine does_of_wc (n := 66) (L0 := [(0, st s)]) Tryd.func12 rfl rfl rfl rfl (fun w0 M Q hE => ?_)
  refine wc_seq (fun K0 hK => ?_)
  refine wc_region ?_
  refine WL.val (OV.assign rfl) rfl rfl rfl ?_
  refine WL.nil ?_
  refine KX.go (hK [(0, st s)] _ ?_) ⟨rfl, trivial⟩
  refine wc_seq (fun K0_1' hK_1' => ?_)
  refine wc_region ?_
  refine WL.make (MV.buildSlice (cs := [Value.int .u8 34]) rfl tf_sl_49 (by kernel_rfl)) rfl rfl rfl (fun b => ?_)
  refine WL.asRow (f := byteC) (ms := [34]) 0 rfl rfl rfl byteC_len rfl ?_
  refine WL.val (OV.assign rfl) rfl rfl rfl ?_
  refine WL.nil ?_
  refine KX.go (hK_1' [(0, st s), (3, Value.slice (some ⟨b, 0, none⟩) 1 1)] _ ?_) ⟨rfl, rfl, trivial⟩
  refine wc_seq (fun K0_2' hK_2' => ?_)
  refine wc_seq (fun K0_3' hK_3' => ?_)
  refine wc_region ?_
  refine WL.val (OV.move rfl) rfl rfl rfl ?_
  refine WL.val (OV.len rfl tf_str_9) rfl rfl rfl ?_
  refine WL.val (OV.move rfl) rfl rfl rfl ?_
  refine WL.nil ?_
  refine KX.go (hK_3' [(0, st s), (3, Value.slice (some ⟨b, 0, none⟩) 1 1), (8, Value.int .i64 (s.length : Int)), (9, Value.int .i64 0)] _ ?_) ⟨rfl, rfl, rfl, rfl, trivial⟩
  refine wc_block ?_
  obtain ⟨Inv, mu, h0, hr⟩ := h
  refine wc_loop (S := Int × Value × (List UInt8)) (fun σ => Inv σ.1 σ.2.2) (fun σ => mu σ.1 σ.2.2) (fun σ => [(0, st s), (3, σ.2.1), (8, Value.int .i64 (s.length : Int)), (9, Value.int .i64 σ.1)]) (fun σ => [HA.row σ.2.1 5 1 σ.2.2.length (σ.2.2.flatMap byteC)]) (0, Value.slice (some ⟨b, 0, none⟩) 1 1, [34]) h0 ⟨rfl, rfl, rfl, rfl, trivial⟩ rfl ?_
  rintro ⟨t9_1', w_27', l_3'⟩ hi K0_46' hK_46'
  have h := hr t9_1' l_3' hi
  show WC _ _ _ _ [(0, st s), (3, w_27'), (8, Value.int .i64 (s.length : Int)), (9, Value.int .i64 t9_1')] [HA.row w_27' 5 1 l_3'.length (l_3'.flatMap byteC)]
  refine wc_seq (fun K0_47' hK_47' => ?_)
  refine wc_region ?_
  refine WL.val (OV.lss rfl rfl) rfl rfl rfl ?_
  refine WL.nil ?_
  refine KX.go (hK_47' [(0, st s), (3, w_27'), (8, Value.int .i64 (s.length : Int)), (9, Value.int .i64 t9_1'), (10, Value.bool (decide (t9_1' < (s.length : Int))))] _ ?_) ⟨rfl, rfl, rfl, rfl, rfl, trivial⟩
  refine wc_seq (fun K0_48' hK_48' => ?_)
  refine wc_cond (b := decide (t9_1' < (s.length : Int))) rfl (fun hb => ?_) (fun hb => ?_)
  · replace h := if_T h hb
    refine wc_skip ?_
    refine KX.go (hK_48' [(0, st s), (3, w_27'), (8, Value.int .i64 (s.length : Int)), (9, Value.int .i64 t9_1')] _ ?_) ⟨rfl, rfl, rfl, rfl, trivial⟩
    obtain ⟨J0_2', hJ_2', h⟩ := h
    refine wc_seqJ (X := Value × (List UInt8)) (fun σ => J0_2' σ.2) (fun σ => [(0, st s), (3, σ.1), (8, Value.int .i64 (s.length : Int)), (9, Value.int .i64 t9_1')]) (fun σ => [HA.row σ.1 5 1 σ.2.length (σ.2.flatMap byteC)]) ?_ (fun K0_58' hK_58' => ?_)
    · rintro ⟨w_34', l_4'⟩ hj
      replace h := hJ_2' l_4' hj
      show WC _ _ _ _ [(0, st s), (3, w_34'), (8, Value.int .i64 (s.length : Int)), (9, Value.int .i64 t9_1')] [HA.row w_34' 5 1 l_4'.length (l_4'.flatMap byteC)]
      refine wc_region ?_
      obtain ⟨o_56', h⟩ := h
      refine WL.val (OV.add rfl rfl o_56') rfl rfl rfl ?_
      refine WL.val (OV.move rfl) rfl rfl rfl ?_
      refine WL.nil ?_
      exact KX.goH (hK_46' (t9_1' + 1, w_34', l_4') h.1 h.2) ⟨rfl, rfl, rfl, rfl, trivial⟩ [0] rfl rfl
    · skip
      refine wc_block ?_
      refine wc_seq (fun K0_59' hK_59' => ?_)
      refine wc_region ?_
      refine WL.val (OV.move rfl) rfl rfl rfl ?_
      refine WL.val (OV.assign rfl) rfl rfl rfl ?_
      refine WL.nil ?_
      refine KX.go (hK_59' [(0, st s), (3, w_27'), (4, Value.int .i64 t9_1'), (8, Value.int .i64 (s.length : Int)), (9, Value.int .i64 t9_1')] _ ?_) ⟨rfl, rfl, rfl, rfl, rfl, trivial⟩
      refine wc_seq (fun K0_60' hK_60' => ?_)
      refine wc_region ?_
      refine WL.val (OV.move rfl) rfl rfl rfl ?_
      refine WL.val (OV.move rfl) rfl rfl rfl ?_
      obtain ⟨o_57', h⟩ := h
      refine WL.val (OV.index rfl rfl tf_str_9 o_57') rfl rfl rfl ?_
      refine WL.val (OV.assign rfl) rfl rfl rfl ?_
      refine WL.nil ?_
      refine KX.go (hK_60' [(0, st s), (3, w_27'), (5, Value.int .u8 ((s.getD t9_1'.toNat 0).toNat : Int)), (8, Value.int .i64 (s.length : Int)), (9, Value.int .i64 t9_1')] _ ?_) ⟨rfl, rfl, rfl, rfl, rfl, trivial⟩
      refine wc_block ?_
      refine wc_seq (fun K0_61' hK_61' => ?_)
      refine wc_region ?_
      refine WL.val (OV.move rfl) rfl rfl rfl ?_
      refine WL.val (OV.eql rfl rfl) rfl rfl rfl ?_
      refine WL.val (OV.move rfl) rfl rfl rfl ?_
      refine WL.cut 3 [(0, st s), (3, w_27'), (5, Value.int .u8 ((s.getD t9_1'.toNat 0).toNat : Int)), (8, Value.int .i64 (s.length : Int)), (9, Value.int .i64 t9_1'), (30, Value.bool ((decide (((s.getD t9_1'.toNat 0).toNat : Int) = 34)) || (decide (((s.getD t9_1'.toNat 0).toNat : Int) = 92))))] ?_ (fun K0_62' hK_62' => ?_)
      rotate_left
      · refine WL.split (decide (((s.getD t9_1'.toNat 0).toNat : Int) = 34)) (fun hb => ?_) (fun hb => ?_)
        · refine WL.set 27 rfl (congrArg Value.bool hb) ?_
          refine WL.skip rfl rfl rfl ?_
          refine WL.skip rfl rfl rfl ?_
          refine WL.val (OV.pickT rfl rfl) rfl rfl rfl ?_
          refine WL.set 30 rfl (oT (v := decide (((s.getD t9_1'.toNat 0).toNat : Int) = 92)) hb) ?_
          exact WL.end_ (KX.go hK_62' ⟨rfl, rfl, rfl, rfl, rfl, rfl, trivial⟩)
        · refine WL.set 27 rfl (congrArg Value.bool hb) ?_
          refine WL.val (OV.move rfl) rfl rfl rfl ?_
          refine WL.val (OV.eql rfl rfl) rfl rfl rfl ?_
          refine WL.val (OV.pickF rfl rfl) rfl rfl rfl ?_
          refine WL.set 30 rfl (oF (v := decide (((s.getD t9_1'.toNat 0).toNat : Int) = 92)) hb) ?_
          exact WL.end_ (KX.go hK_62' ⟨rfl, rfl, rfl, rfl, rfl, rfl, trivial⟩)
      refine WL.val (OV.assign rfl) rfl rfl rfl ?_
      refine WL.nil ?_
      refine KX.go (hK_61' [(0, st s), (3, w_27'), (5, Value.int .u8 ((s.getD t9_1'.toNat 0).toNat : Int)), (8, Value.int .i64 (s.length : Int)), (9, Value.int .i64 t9_1'), (24, Value.bool ((decide (((s.getD t9_1'.toNat 0).toNat : Int) = 34)) || (decide (((s.getD t9_1'.toNat 0).toNat : Int) = 92))))] _ ?_) ⟨rfl, rfl, rfl, rfl, rfl, rfl, trivial⟩
      refine wc_cond (b := (decide (((s.getD t9_1'.toNat 0).toNat : Int) = 34)) || (decide (((s.getD t9_1'.toNat 0).toNat : Int) = 92))) rfl (fun hb => ?_) (fun hb => ?_)
      · replace h := if_T h hb
        refine wc_region ?_
        refine WL.val (OV.move rfl) rfl rfl rfl ?_
        refine WL.val (OV.move rfl) rfl rfl rfl ?_
        refine WL.make (MV.buildSlice (cs := [Value.int .u8 92, Value.int .u8 ((s.getD t9_1'.toNat 0).toNat : Int)]) rfl tf_sl_49 (by kernel_rfl)) rfl rfl rfl (fun b_16' => ?_)
        obtain ⟨o_59', h⟩ := h
        refine WL.append (f := byteC) (ms := [92, (s.getD t9_1'.toNat 0)]) 1 0 rfl rfl rfl rfl rfl rfl byteC_len (by decide) rfl tf_sl_49 tf_info_5 rfl o_59' rfl rfl (fun w_35' => ?_)
        refine WL.val (OV.assign rfl) rfl rfl rfl ?_
        refine WL.nil ?_
        exact KX.goH (hK_58' (w_35', l_3' ++ [92, (s.getD t9_1'.toNat 0)]) h) ⟨rfl, rfl, rfl, rfl, trivial⟩ [1] rfl rfl
      · replace h := if_F h hb
        refine wc_seq (fun K0_63' hK_63' => ?_)
        refine wc_region ?_
        refine WL.val (OV.move rfl) rfl rfl rfl ?_
        refine WL.val (OV.geq rfl rfl) rfl rfl rfl ?_
        refine WL.val (OV.move rfl) rfl rfl rfl ?_
        refine WL.cut 3 [(0, st s), (3, w_27'), (5, Value.int .u8 ((s.getD t9_1'.toNat 0).toNat : Int)), (8, Value.int .i64 (s.length : Int)), (9, Value.int .i64 t9_1'), (41, Value.bool ((decide (32 ≤ ((s.getD t9_1'.toNat 0).toNat : Int))) && (decide (((s.getD t9_1'.toNat 0).toNat : Int) ≤ 126))))] ?_ (fun K0_64' hK_64' => ?_)
        rotate_left
        · refine WL.split (decide (32 ≤ ((s.getD t9_1'.toNat 0).toNat : Int))) (fun hb => ?_) (fun hb => ?_)
          · refine WL.set 38 rfl (congrArg Value.bool hb) ?_
            refine WL.val (OV.move rfl) rfl rfl rfl ?_
            refine WL.val (OV.leq rfl rfl) rfl rfl rfl ?_
            refine WL.val (OV.pickT rfl rfl) rfl rfl rfl ?_
            refine WL.set 41 rfl (bT (v := decide (((s.getD t9_1'.toNat 0).toNat : Int) ≤ 126)) hb) ?_
            exact WL.end_ (KX.go hK_64' ⟨rfl, rfl, rfl, rfl, rfl, rfl, trivial⟩)
          · refine WL.set 38 rfl (congrArg Value.bool hb) ?_
            refine WL.skip rfl rfl rfl ?_
            refine WL.skip rfl rfl rfl ?_
            refine WL.val (OV.pickF rfl rfl) rfl rfl rfl ?_
            refine WL.set 41 rfl (bF (v := decide (((s.getD t9_1'.toNat 0).toNat : Int) ≤ 126)) hb) ?_
            exact WL.end_ (KX.go hK_64' ⟨rfl, rfl, rfl, rfl, rfl, rfl, trivial⟩)
        refine WL.val (OV.assign rfl) rfl rfl rfl ?_
        refine WL.nil ?_
        refine KX.go (hK_63' [(0, st s), (3, w_27'), (5, Value.int .u8 ((s.getD t9_1'.toNat 0).toNat : Int)), (8, Value.int .i64 (s.length : Int)), (9, Value.int .i64 t9_1'), (35, Value.bool ((decide (32 ≤ ((s.getD t9_1'.toNat 0).toNat : Int))) && (decide (((s.getD t9_1'.toNat 0).toNat : Int) ≤ 126))))] _ ?_) ⟨rfl, rfl, rfl, rfl, rfl, rfl, trivial⟩
        refine wc_cond (b := (decide (32 ≤ ((s.getD t9_1'.toNat 0).toNat : Int))) && (decide (((s.getD t9_1'.toNat 0).toNat : Int) ≤ 126))) rfl (fun hb => ?_) (fun hb => ?_)
        · replace h := if_T h hb
          refine wc_region ?_
          refine WL.val (OV.move rfl) rfl rfl rfl ?_
          refine WL.val (OV.move rfl) rfl rfl rfl ?_
          refine WL.make (MV.buildSlice (cs := [Value.int .u8 ((s.getD t9_1'.toNat 0).toNat : Int)]) rfl tf_sl_49 (by kernel_rfl)) rfl rfl rfl (fun b_17' => ?_)
          obtain ⟨o_61', h⟩ := h
          refine WL.append (f := byteC) (ms := [(s.getD t9_1'.toNat 0)]) 1 0 rfl rfl rfl rfl rfl rfl byteC_len (by decide) rfl tf_sl_49 tf_info_5 rfl o_61' rfl rfl (fun w_36' => ?_)
          refine WL.val (OV.assign rfl) rfl rfl rfl ?_
          refine WL.nil ?_
          exact KX.goH (hK_58' (w_36', l_3' ++ [(s.getD t9_1'.toNat 0)]) h) ⟨rfl, rfl, rfl, rfl, trivial⟩ [1] rfl rfl
        · replace h := if_F h hb
          refine wc_seq (fun K0_65' hK_65' => ?_)
          refine wc_region ?_
          refine WL.val (OV.move rfl) rfl rfl rfl ?_
          refine WL.val (OV.eql rfl rfl) rfl rfl rfl ?_
          refine WL.val (OV.assign rfl) rfl rfl rfl ?_
          refine WL.nil ?_
          refine KX.go (hK_65' [(0, st s), (3, w_27'), (5, Value.int .u8 ((s.getD t9_1'.toNat 0).toNat : Int)), (8, Value.int .i64 (s.length : Int)), (9, Value.int .i64 t9_1'), (46, Value.bool (decide (((s.getD t9_1'.toNat 0).toNat : Int) = 10)))] _ ?_) ⟨rfl, rfl, rfl, rfl, rfl, rfl, trivial⟩
          refine wc_cond (b := decide (((s.getD t9_1'.toNat 0).toNat : Int) = 10)) rfl (fun hb => ?_) (fun hb => ?_)
          · replace h := if_T h hb
            refine wc_region ?_
            refine WL.val (OV.move rfl) rfl rfl rfl ?_
            obtain ⟨o_62', h⟩ := h
            refine WL.appendS (m := ([92, 110] : List UInt8)) 0 rfl rfl rfl tf_sl_49 tf_str_9 tf_byte_5 o_62' rfl rfl (fun w_37' => ?_)
            refine WL.val (OV.assign rfl) rfl rfl rfl ?_
            refine WL.nil ?_
            exact KX.goH (hK_58' (w_37', l_3' ++ ([92, 110] : List UInt8)) h) ⟨rfl, rfl, rfl, rfl, trivial⟩ [0] rfl rfl
          · replace h := if_F h hb
            refine wc_seq (fun K0_66' hK_66' => ?_)
            refine wc_region ?_
            refine WL.val (OV.move rfl) rfl rfl rfl ?_
            refine WL.val (OV.eql rfl rfl) rfl rfl rfl ?_
            refine WL.val (OV.assign rfl) rfl rfl rfl ?_
            refine WL.nil ?_
            refine KX.go (hK_66' [(0, st s), (3, w_27'), (5, Value.int .u8 ((s.getD t9_1'.toNat 0).toNat : Int)), (8, Value.int .i64 (s.length : Int)), (9, Value.int .i64 t9_1'), (51, Value.bool (decide (((s.getD t9_1'.toNat 0).toNat : Int) = 13)))] _ ?_) ⟨rfl, rfl, rfl, rfl, rfl, rfl, trivial⟩
            refine wc_cond (b := decide (((s.getD t9_1'.toNat 0).toNat : Int) = 13)) rfl (fun hb => ?_) (fun hb => ?_)
            · replace h := if_T h hb
              refine wc_region ?_
              refine WL.val (OV.move rfl) rfl rfl rfl ?_
              obtain ⟨o_63', h⟩ := h
              refine WL.appendS (m := ([92, 114] : List UInt8)) 0 rfl rfl rfl tf_sl_49 tf_str_9 tf_byte_5 o_63' rfl rfl (fun w_38' => ?_)
              refine WL.val (OV.assign rfl) rfl rfl rfl ?_
              refine WL.nil ?_
              exact KX.goH (hK_58' (w_38', l_3' ++ ([92, 114] : List UInt8)) h) ⟨rfl, rfl, rfl, rfl, trivial⟩ [0] rfl rfl
            · replace h := if_F h hb
              refine wc_seq (fun K0_67' hK_67' => ?_)
              refine wc_region ?_
              refine WL.val (OV.move rfl) rfl rfl rfl ?_
              refine WL.val (OV.eql rfl rfl) rfl rfl rfl ?_
              refine WL.val (OV.assign rfl) rfl rfl rfl ?_
              refine WL.nil ?_
              refine KX.go (hK_67' [(0, st s), (3, w_27'), (5, Value.int .u8 ((s.getD t9_1'.toNat 0).toNat : Int)), (8, Value.int .i64 (s.length : Int)), (9, Value.int .i64 t9_1'), (56, Value.bool (decide (((s.getD t9_1'.toNat 0).toNat : Int) = 9)))] _ ?_) ⟨rfl, rfl, rfl, rfl, rfl, rfl, trivial⟩
              refine wc_cond (b := decide (((s.getD t9_1'.toNat 0).toNat : Int) = 9)) rfl (fun hb => ?_) (fun hb => ?_)
              · replace h := if_T h hb
                refine wc_region ?_
                refine WL.val (OV.move rfl) rfl rfl rfl ?_
                obtain ⟨o_64', h⟩ := h
                refine WL.appendS (m := ([92, 116] : List UInt8)) 0 rfl rfl rfl tf_sl_49 tf_str_9 tf_byte_5 o_64' rfl rfl (fun w_39' => ?_)
                refine WL.val (OV.assign rfl) rfl rfl rfl ?_
                refine WL.nil ?_
                exact KX.goH (hK_58' (w_39', l_3' ++ ([92, 116] : List UInt8)) h) ⟨rfl, rfl, rfl, rfl, trivial⟩ [0] rfl rfl
              · replace h := if_F h hb
                refine wc_draw 8 [(7, .cells [Value.int .u8 92, Value.int .u8 120, Value.int .u8 ((([48, 49, 50, 51, 52, 53, 54, 55, 56, 57, 97, 98, 99, 100, 101, 102] : List UInt8).getD (((s.getD t9_1'.toNat 0).toNat : Int) / 2 ^ (4 : Int).toNat).toNat 0).toNat : Int), Value.int .u8 ((([48, 49, 50, 51, 52, 53, 54, 55, 56, 57, 97, 98, 99, 100, 101, 102] : List UInt8).getD (bits .and .u8 ((s.getD t9_1'.toNat 0).toNat : Int) 15).toNat 0).toNat : Int)].toArray 5 (0, 0))] tf_mixed (by kernel_rfl) rfl (fun T_5' hT_5' => ?_)
                refine FL.val (fun _ => OV.move rfl) rfl (fun _ => rfl) rfl rfl ?_
                refine FL.val (fun _ => OV.move rfl) rfl (fun _ => rfl) rfl rfl ?_
                refine FL.val (fun _ => OV.shr rfl rfl ⟨by decide, by decide⟩) rfl (fun _ => rfl) rfl rfl ?_
                obtain ⟨o_65', h⟩ := h
                refine FL.val (fun _ => OV.index rfl rfl tf_str_9 o_65') rfl (fun _ => rfl) rfl rfl ?_
                refine FL.val (fun _ => OV.move rfl) rfl (fun _ => rfl) rfl rfl ?_
                refine FL.val (fun _ => OV.bits_and rfl rfl) rfl (fun _ => rfl) rfl rfl ?_
                obtain ⟨o_66', h⟩ := h
                refine FL.val (fun _ => OV.index rfl rfl tf_str_9 o_66') rfl (fun _ => rfl) rfl rfl ?_
                refine FL.make (fun _ => MV.buildSlice (cs := [Value.int .u8 92, Value.int .u8 120, Value.int .u8 ((([48, 49, 50, 51, 52, 53, 54, 55, 56, 57, 97, 98, 99, 100, 101, 102] : List UInt8).getD (((s.getD t9_1'.toNat 0).toNat : Int) / 2 ^ (4 : Int).toNat).toNat 0).toNat : Int), Value.int .u8 ((([48, 49, 50, 51, 52, 53, 54, 55, 56, 57, 97, 98, 99, 100, 101, 102] : List UInt8).getD (bits .and .u8 ((s.getD t9_1'.toNat 0).toNat : Int) 15).toNat 0).toNat : Int)]) rfl tf_sl_49 (by kernel_rfl)) rfl (fun _ => rfl) rfl rfl ?_
                refine FL.weak (L' := fun γ => [(0, st s), (3, w_27'), (8, Value.int .i64 (s.length : Int)), (9, Value.int .i64 t9_1'), (15, w_27'), (22, Value.slice (some ⟨(γ 7), 0, none⟩) 4 4)]) (fun γ => ⟨rfl, rfl, rfl, rfl, rfl, rfl, trivial⟩) (FL.nil (hT_5' (fun γ => [(0, st s), (3, w_27'), (8, Value.int .i64 (s.length : Int)), (9, Value.int .i64 t9_1'), (15, w_27'), (22, Value.slice (some ⟨(γ 7), 0, none⟩) 4 4)]) (fun γ => ?_)))
                show WL _ _ _ _ [(0, st s), (3, w_27'), (8, Value.int .i64 (s.length : Int)), (9, Value.int .i64 t9_1'), (15, w_27'), (22, Value.slice (some ⟨(γ 7), 0, none⟩) 4 4)] [HA.blk (γ 7) (.cells [Value.int .u8 92, Value.int .u8 120, Value.int .u8 ((([48, 49, 50, 51, 52, 53, 54, 55, 56, 57, 97, 98, 99, 100, 101, 102] : List UInt8).getD (((s.getD t9_1'.toNat 0).toNat : Int) / 2 ^ (4 : Int).toNat).toNat 0).toNat : Int), Value.int .u8 ((([48, 49, 50, 51, 52, 53, 54, 55, 56, 57, 97, 98, 99, 100, 101, 102] : List UInt8).getD (bits .and .u8 ((s.getD t9_1'.toNat 0).toNat : Int) 15).toNat 0).toNat : Int)].toArray 5 (0, 0)), HA.row w_27' 5 1 l_3'.length (l_3'.flatMap byteC)] _
                generalize γ 7 = b_18'
                obtain ⟨o_67', h⟩ := h
                refine WL.append (f := byteC) (ms := [92, 120, (([48, 49, 50, 51, 52, 53, 54, 55, 56, 57, 97, 98, 99, 100, 101, 102] : List UInt8).getD (((s.getD t9_1'.toNat 0).toNat : Int) / 2 ^ (4 : Int).toNat).toNat 0), (([48, 49, 50, 51, 52, 53, 54, 55, 56, 57, 97, 98, 99, 100, 101, 102] : List UInt8).getD (bits .and .u8 ((s.getD t9_1'.toNat 0).toNat : Int) 15).toNat 0)]) 1 0 rfl rfl rfl rfl rfl rfl byteC_len (by decide) rfl tf_sl_49 tf_info_5 rfl o_67' rfl rfl (fun w_40' => ?_)
                refine WL.val (OV.assign rfl) rfl rfl rfl ?_
                refine WL.nil ?_
                exact KX.goH (hK_58' (w_40', l_3' ++ [92, 120, (([48, 49, 50, 51, 52, 53, 54, 55, 56, 57, 97, 98, 99, 100, 101, 102] : List UInt8).getD (((s.getD t9_1'.toNat 0).toNat : Int) / 2 ^ (4 : Int).toNat).toNat 0), (([48, 49, 50, 51, 52, 53, 54, 55, 56, 57, 97, 98, 99, 100, 101, 102] : List UInt8).getD (bits .and .u8 ((s.getD t9_1'.toNat 0).toNat : Int) 15).toNat 0)]) h) ⟨rfl, rfl, rfl, rfl, trivial⟩ [1] rfl rfl
  · replace h := if_F h hb
    refine wc_exit ?_
    refine KX.go (hK_2' [(3, w_27')] _ ?_) ⟨rfl, trivial⟩
    refine wc_seq (fun K0_68' hK_68' => ?_)
    refine wc_region ?_
    refine WL.val (OV.move rfl) rfl rfl rfl ?_
    refine WL.make (MV.buildSlice (cs := [Value.int .u8 34]) rfl tf_sl_49 (by kernel_rfl)) rfl rfl rfl (fun b_19' => ?_)
    obtain ⟨o_68', h⟩ := h
    refine WL.append (f := byteC) (ms := [34]) 1 0 rfl rfl rfl rfl rfl rfl byteC_len (by decide) rfl tf_sl_49 tf_info_5 rfl o_68' rfl rfl (fun w_41' => ?_)
    refine WL.val (OV.bytesRow (l := l_3' ++ [34]) 1 rfl rfl tf_sl_49 Tryd.underlying5 tf_str_9) rfl rfl rfl ?_
    refine WL.val (OV.assign rfl) rfl rfl rfl ?_
    refine WL.nil ?_
    refine KX.go (hK_68' [(2, st (l_3' ++ [34]))] _ ?_) ⟨rfl, trivial⟩
    refine wc_ret ?_
    exact hE.ret [] rfl rfl (.inl ⟨_, h, rfl⟩) (ResV.of1 rfl (RV.tmp rfl))

def hx (n : Nat) : UInt8 := ([48, 49, 50, 51, 52, 53, 54, 55, 56, 57, 97, 98, 99, 100, 101, 102] : List UInt8).getD n 0
/-- A byte within quotes. -/
def qb (c : UInt8) : List UInt8 :=
  if c = 34 ∨ c = 92 then [92, c] else if 32 ≤ c.toNat ∧ c.toNat ≤ 126 then [c] else if c = 10 then [92, 110] else if c = 13 then [92, 114] else if c = 9 then [92, 116] else [92, 120, hx (c.toNat / 16), hx (c.toNat % 16)]
def quoteL (s : List UInt8) : List UInt8 := [34] ++ s.flatMap qb ++ [34]
theorem qb_len (c : UInt8) : (qb c).length ≤ 4 := by unfold qb; repeat' split
                                                     all_goals simp
theorem qbs_len : ∀ s : List UInt8, (s.flatMap qb).length ≤ 4 * s.length
  | [] => by simp
  | c :: s => by
    have h1 := qb_len c
    have h2 := qbs_len s
    rw [List.flatMap_cons, List.length_append, List.length_cons]; omega
theorem take_qb {s : List UInt8} {i : Int} (h : 0 ≤ i ∧ i < s.length) : (s.take (i + 1).toNat).flatMap qb = (s.take i.toNat).flatMap qb ++ qb (s.getD i.toNat 0) := by
  have hlt : i.toNat < s.length := by omega
  rw [show (i + 1).toNat = i.toNat + 1 by omega, List.take_add_one, List.flatMap_append, List.getElem?_eq_getElem hlt, List.getD_eq_getElem?_getD, List.getElem?_eq_getElem hlt]
  simp
theorem eq_bt {c : UInt8} (n : UInt8) : ((c.toNat : Int) = (n.toNat : Int)) ↔ c = n := ⟨fun h => UInt8.toNat_inj.1 (by omega), fun h => by rw [h]⟩
theorem and15 : ∀ n : Nat, n < 256 → bits .and .u8 (n : Int) 15 = ((n % 16 : Nat) : Int) := by decide +kernel
theorem quote_does (s : List UInt8) (h : s.length ≤ 1048576) : Does Tryd.prog 12 [st s] [] [] (Ret (st (quoteL s)) []) := by
  refine (quote_wp s (fun r => r = quoteL s) ?_).weak (by rintro o (⟨v, rfl, rfl⟩ | h) <;> first | rfl | exact h.elim)
  unfold quote_vc
  refine ⟨fun i out => 0 ≤ i ∧ i ≤ s.length ∧ out = [34] ++ (s.take i.toNat).flatMap qb, fun i _ => (s.length - i).toNat, ⟨by omega, by omega, by simp⟩, ?_⟩
  rintro i out ⟨h0, h1, rfl⟩
  have hl0 := qbs_len (s.take i.toNat)
  rw [List.length_take] at hl0
  have hl : ([34] ++ (s.take i.toNat).flatMap qb).length ≤ 4194305 := by rw [List.length_append]; simp only [List.length_cons, List.length_nil]; omega
  by_cases hi : i < s.length
  · rw [if_pos (by simpa using hi)]
    have ht := take_qb ⟨h0, hi⟩
    have key : ∀ X, qb (s.getD i.toNat 0) = X → ([34] ++ (s.take i.toNat).flatMap qb) ++ X = [34] ++ (s.take (i + 1).toNat).flatMap qb := fun X hX => by rw [ht, ← hX, List.append_assoc]
    refine ⟨fun l => l = [34] ++ (s.take (i + 1).toNat).flatMap qb, fun l hl2 => ⟨⟨by omega, by omega⟩, ⟨by omega, by omega, hl2⟩, by show (s.length - (i + 1)).toNat < (s.length - i).toNat; omega⟩, ⟨h0, hi⟩, ?_⟩
    generalize s.getD i.toNat 0 = c at key ⊢
    generalize ([34] ++ (s.take i.toNat).flatMap qb) = out at hl key ⊢
    have hc := c.toNat_lt
    have n34 := eq_bt (c := c) 34
    have n92 := eq_bt (c := c) 92
    have n10 := eq_bt (c := c) 10
    have n13 := eq_bt (c := c) 13
    have n9 := eq_bt (c := c) 9
    have v34 : ((34 : UInt8).toNat : Int) = 34 := rfl
    have v92 : ((92 : UInt8).toNat : Int) = 92 := rfl
    have v10 : ((10 : UInt8).toNat : Int) = 10 := rfl
    have v13 : ((13 : UInt8).toNat : Int) = 13 := rfl
    have v9 : ((9 : UInt8).toNat : Int) = 9 := rfl
    rw [v34] at n34
    rw [v92] at n92
    rw [v10] at n10
    rw [v13] at n13
    rw [v9] at n9
    simp only [n34, n92, n10, n13, n9]
    unfold qb at key
    by_cases e1 : c = 34 ∨ c = 92
    · rw [if_pos (by simpa using e1)]
      exact ⟨⟨by omega, by omega⟩, key _ (by rw [if_pos e1])⟩
    · rw [if_neg (by simpa using e1)]
      rw [if_neg e1] at key
      by_cases e2 : 32 ≤ c.toNat ∧ c.toNat ≤ 126
      · rw [if_pos (by simp; omega)]
        exact ⟨⟨by omega, by omega⟩, key _ (by rw [if_pos e2])⟩
      · rw [if_neg (by simp; omega)]
        rw [if_neg e2] at key
        by_cases e3 : c = 10
        · rw [if_pos (by simpa using e3)]
          exact ⟨by simp only [List.length_cons, List.length_nil]; omega, key _ (by rw [if_pos e3])⟩
        · rw [if_neg (by simpa using e3)]
          rw [if_neg e3] at key
          by_cases e4 : c = 13
          · rw [if_pos (by simpa using e4)]
            exact ⟨by simp only [List.length_cons, List.length_nil]; omega, key _ (by rw [if_pos e4])⟩
          · rw [if_neg (by simpa using e4)]
            rw [if_neg e4] at key
            by_cases e5 : c = 9
            · rw [if_pos (by simpa using e5)]
              exact ⟨by simp only [List.length_cons, List.length_nil]; omega, key _ (by rw [if_pos e5])⟩
            · rw [if_neg (by simpa using e5)]
              rw [if_neg e5] at key
              have hd : ((c.toNat : Int) / 2 ^ (4 : Int).toNat) = ((c.toNat / 16 : Nat) : Int) := by rw [show (2 : Int) ^ (4 : Int).toNat = 16 from rfl]; omega
              rw [hd, and15 _ hc]
              refine ⟨⟨by omega, by simp only [List.length_cons, List.length_nil]; omega⟩, ⟨by omega, by simp only [List.length_cons, List.length_nil]; omega⟩, ⟨by omega, by omega⟩, key _ rfl⟩
  · rw [if_neg (by simpa using hi)]
    refine ⟨⟨by omega, by omega⟩, ?_⟩
    rw [List.take_of_length_le (by omega)]; rfl

theorem at_bt {t : List UInt8} {p : Nat} {c : UInt8} {v : List UInt8} (h : t.drop p = c :: v) : (p : Int) < t.length ∧ bt t p = c.toNat ∧ t.drop (p + 1) = v := by
  have hl : p < t.length := by
    have := congrArg List.length h
    rw [List.length_drop, List.length_cons] at this; omega
  have hg : t[p]? = some c := by
    have := congrArg (fun l => l[0]?) h
    simpa using this
  refine ⟨by omega, ?_, ?_⟩
  · unfold bt
    rw [Int.toNat_natCast, List.getD_eq_getElem?_getD, hg]; rfl
  · rw [← List.drop_drop, h]; rfl
theorem hx_back : ∀ n, n < 16 → refHex ((hx n).toNat : Nat) = n := by decide +kernel
theorem printB_of {n : Int} (h : 32 ≤ n ∧ n ≤ 126) : printB n = true := by unfold printB; simp [h.1, h.2]
theorem quotedF_back {t : List UInt8} {fr : Int} {r : List UInt8} : ∀ (s : List UInt8) (n p : Nat) (out : List UInt8), t.drop p = s.flatMap qb ++ 34 :: r → s.length < n → quotedF t fr n out (p : Int) = .ok (out ++ s, ((p + (s.flatMap qb).length + 1 : Nat) : Int))
  | [], n, p, out, h, hn => by
    obtain ⟨n, rfl⟩ : ∃ m, n = m + 1 := ⟨n - 1, by omega⟩
    obtain ⟨h1, h2, _⟩ := at_bt (v := r) h
    rw [quotedF, if_pos h1, if_pos (by rw [h2]; rfl)]; simp
  | c :: s, n, p, out, h, hn => by
    obtain ⟨n, rfl⟩ : ∃ m, n = m + 1 := ⟨n - 1, by omega⟩
    rw [List.flatMap_cons, List.append_assoc] at h
    have hn' : s.length < n := by simp only [List.length_cons] at hn; omega
    have hc := c.toNat_lt
    have ih := fun (q : Nat) (hq : t.drop q = s.flatMap qb ++ 34 :: r) => quotedF_back (fr := fr) s n q (out ++ [c]) hq hn'
    have step : ∀ (w : List UInt8) (b : Int), qb c = 92 :: w → b.toNat.toUInt8 = c → escM t (p : Int) = (b, true, ((p + (qb c).length - 1 : Nat) : Int)) → ((p + (qb c).length - 1 : Nat) : Int) < t.length → t.drop (p + (qb c).length) = s.flatMap qb ++ 34 :: r →
        quotedF t fr (n + 1) out (p : Int) = .ok (out ++ c :: s, ((p + ((c :: s).flatMap qb).length + 1 : Nat) : Int)) := fun w b hw hb he hlt hd => by
      rw [hw] at h
      obtain ⟨h1, h2, _⟩ := at_bt (v := w ++ (s.flatMap qb ++ 34 :: r)) h
      have hp : 1 ≤ (qb c).length := by rw [hw]; simp
      rw [quotedF, if_pos h1, if_neg (by rw [h2]; decide), if_neg (by rw [h2]; decide), if_neg (by rw [h2]; decide), he]
      simp only
      rw [if_neg (by omega), if_neg (by simp), hb, show ((p + (qb c).length - 1 : Nat) : Int) + 1 = ((p + (qb c).length : Nat) : Int) by omega, ih _ hd]
      simp [List.flatMap_cons, Nat.add_assoc]
    by_cases e1 : c = 34 ∨ c = 92
    · have hq : qb c = [92, c] := by unfold qb; rw [if_pos e1]
      have h' := h
      rw [hq] at h'
      obtain ⟨a1, a2, a3⟩ := at_bt (v := c :: (s.flatMap qb ++ 34 :: r)) h'
      obtain ⟨b1, b2, b3⟩ := at_bt a3
      refine step [c] (c.toNat : Int) hq (by simp) ?_ ?_ ?_
      · rw [hq]; unfold escM
        rw [if_neg (by omega), show (p : Int) + 1 = ((p + 1 : Nat) : Int) by omega, b2]
        rcases e1 with rfl | rfl <;> rfl
      · rw [hq]; simp only [List.length_cons, List.length_nil]; omega
      · rw [hq]; exact b3
    · by_cases e2 : 32 ≤ c.toNat ∧ c.toNat ≤ 126
      · have hq : qb c = [c] := by unfold qb; rw [if_neg e1, if_pos e2]
        rw [hq] at h
        obtain ⟨a1, a2, a3⟩ := at_bt (v := s.flatMap qb ++ 34 :: r) h
        have n1 : c.toNat ≠ 34 := fun e => e1 (.inl (UInt8.toNat_inj.1 e))
        have n2 : c.toNat ≠ 92 := fun e => e1 (.inr (UInt8.toNat_inj.1 e))
        rw [quotedF, if_pos a1, a2, if_neg (by omega), if_neg (by rw [printB_of (by omega)]; simp), if_pos (by omega), show (p : Int) + 1 = ((p + 1 : Nat) : Int) by omega]
        rw [show ((c.toNat : Int)).toNat.toUInt8 = c by simp, ih _ a3]
        simp [List.flatMap_cons, hq, Nat.add_assoc, Nat.add_comm 1]
      · have short : ∀ (x : UInt8) (b : Int), qb c = [92, x] → b.toNat.toUInt8 = c → (∀ a : Int, ¬ (t.length : Int) ≤ a + 1 → bt t (a + 1) = (x.toNat : Int) → escM t a = (b, true, a + 1)) → quotedF t fr (n + 1) out (p : Int) = .ok (out ++ c :: s, ((p + ((c :: s).flatMap qb).length + 1 : Nat) : Int)) := fun x b hq hb hesc => by
          have h' := h
          rw [hq] at h'
          obtain ⟨a1, a2, a3⟩ := at_bt (v := x :: (s.flatMap qb ++ 34 :: r)) h'
          obtain ⟨b1, b2, b3⟩ := at_bt a3
          refine step [x] b hq hb ?_ ?_ ?_
          · rw [hq, hesc (p : Int) (by omega) (by rw [show (p : Int) + 1 = ((p + 1 : Nat) : Int) by omega, b2])]
            simp
          · rw [hq]; simp only [List.length_cons, List.length_nil]; omega
          · rw [hq]; exact b3
        by_cases e3 : c = 10
        · exact short 110 10 (by unfold qb; rw [if_neg e1, if_neg e2, if_pos e3]) (by rw [e3]; rfl) (fun a g1 g2 => by unfold escM; rw [if_neg g1, g2]; rfl)
        · by_cases e4 : c = 13
          · exact short 114 13 (by unfold qb; rw [if_neg e1, if_neg e2, if_neg e3, if_pos e4]) (by rw [e4]; rfl) (fun a g1 g2 => by unfold escM; rw [if_neg g1, g2]; rfl)
          · by_cases e5 : c = 9
            · exact short 116 9 (by unfold qb; rw [if_neg e1, if_neg e2, if_neg e3, if_neg e4, if_pos e5]) (by rw [e5]; rfl) (fun a g1 g2 => by unfold escM; rw [if_neg g1, g2]; rfl)
            · have hq : qb c = [92, 120, hx (c.toNat / 16), hx (c.toNat % 16)] := by unfold qb; rw [if_neg e1, if_neg e2, if_neg e3, if_neg e4, if_neg e5]
              have h' := h
              rw [hq] at h'
              obtain ⟨a1, a2, a3⟩ := at_bt (v := 120 :: hx (c.toNat / 16) :: hx (c.toNat % 16) :: (s.flatMap qb ++ 34 :: r)) h'
              obtain ⟨b1, b2, b3⟩ := at_bt a3
              obtain ⟨c1, c2, c3⟩ := at_bt b3
              obtain ⟨d1, d2, d3⟩ := at_bt c3
              refine step [120, hx (c.toNat / 16), hx (c.toNat % 16)] (16 * ((c.toNat / 16 : Nat) : Int) + ((c.toNat % 16 : Nat) : Int)) hq ?_ ?_ ?_ ?_
              · rw [show (16 * ((c.toNat / 16 : Nat) : Int) + ((c.toNat % 16 : Nat) : Int)) = (c.toNat : Int) by omega]; simp
              · rw [hq]; unfold escM
                have x1 : bt t ((p : Int) + 1) = 120 := by rw [show (p : Int) + 1 = ((p + 1 : Nat) : Int) by omega, b2]; rfl
                have x2 : refHex (bt t ((p : Int) + 2)) = ((c.toNat / 16 : Nat) : Int) := by rw [show (p : Int) + 2 = ((p + 1 + 1 : Nat) : Int) by omega, c2]; exact hx_back _ (by omega)
                have x3 : refHex (bt t ((p : Int) + 3)) = ((c.toNat % 16 : Nat) : Int) := by rw [show (p : Int) + 3 = ((p + 1 + 1 + 1 : Nat) : Int) by omega, d2]; exact hx_back _ (by omega)
                rw [if_neg (by omega), x1, x2, x3]
                simp only
                rw [if_neg (by decide), if_neg (by decide), if_neg (by decide), if_neg (by decide), if_pos trivial, if_neg (by omega), if_neg (by omega), if_neg (by omega), if_neg (by omega)]
                simp
              · rw [hq]; simp only [List.length_cons, List.length_nil]; omega
              · rw [hq]; exact d3
theorem scan_quote {s : List UInt8} (h : (quoteL s).length ≤ 4096) : scanR (quoteL s) = ([(2, 0, s), (0, ((quoteL s).length : Int), [])], 0, 0) := by
  obtain ⟨t, ht⟩ : ∃ t, t = quoteL s := ⟨_, rfl⟩
  have hd : t.drop 0 = 34 :: (s.flatMap qb ++ [34]) := by rw [ht]; unfold quoteL; simp
  obtain ⟨h1, h2, h3⟩ := at_bt hd
  have hlen : t.length = (s.flatMap qb).length + 2 := by rw [ht]; unfold quoteL; simp
  have hsl : s.length ≤ (s.flatMap qb).length := by
    clear h ht hd h1 h2 h3 hlen
    induction s with
    | nil => simp
    | cons c s ih =>
      have : 1 ≤ (qb c).length := by
        unfold qb
        repeat' split
        all_goals simp
      rw [List.flatMap_cons, List.length_append, List.length_cons]; omega
  rw [← ht] at h ⊢
  have b0 : bt t 0 = 34 := h2
  have hb : (0 : Int) ≤ 0 ∧ (0 : Int) < t.length := ⟨by omega, by omega⟩
  have g0 : gapM t 0 = 0 := by
    unfold gapM
    rw [gapL_at false hb, b0, if_neg (by decide)]; rfl
  have hone : oneM t 0 = .ok ((2, 0, s), (t.length : Int)) := by
    unfold oneM
    rw [b0, if_neg (by decide), if_pos rfl]
    unfold quotedM
    have := quotedF_back (t := t) (fr := 0) (r := []) s (t.length + 1) 1 [] h3 (by omega)
    rw [show (0 : Int) + 1 = ((1 : Nat) : Int) by omega, this]
    simp only [List.nil_append]
    rw [show 1 + (s.flatMap qb).length + 1 = t.length by omega]
  have ge : gapM t t.length = t.length := by
    unfold gapM; rw [gap_end _ (Int.le_refl _)]; simp
  unfold scanR
  rw [if_neg (by omega), g0, scanF, if_pos hb.2, hone]
  simp only
  obtain ⟨n, hn⟩ : ∃ n, t.length = n + 1 := ⟨t.length - 1, by omega⟩
  rw [ge, hn, scanF, if_neg (by omega)]
  simp [← hn]

end Go.Proofs.YtlfolgbaageknaaDoor
