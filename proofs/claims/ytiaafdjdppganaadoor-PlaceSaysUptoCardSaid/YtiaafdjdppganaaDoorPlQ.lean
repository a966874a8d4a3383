/-
  Quote.
-/
import Derived.Test.YtiaafdjdppganaaDoorPlN
namespace Go.Proofs.YtiaafdjdppganaaDoor
open Go Go.RowKit

theorem tf_info_5 : infoB Tryd.prog 5 = some ([Value.int .u8 0], 1, 1) := by kernel_rfl
theorem tf_byte_5 : byteT Tryd.prog 5 := by unfold byteT; kernel_rfl
theorem tf_mixed : Tryd.prog.follows .mixedOrders = true := by kernel_rfl

def quote_vc (s : List UInt8) (K : (List UInt8) → Prop) : Prop :=
  ∃ (Inv : Int → (List UInt8) → Prop) (mu : Int → (List UInt8) → Nat),
    Inv 0 [34] ∧ ∀ (t9_1' : Int) (l_3' : List UInt8), Inv t9_1' l_3' →
      (if (decide (t9_1' < (s.length : Int))) = true then
        ∃ (J0_2' : (List UInt8) → Prop),
          (∀ (l_4' : List UInt8), J0_2' l_4' →
            (I64 (t9_1' + 1)) ∧
            Inv (t9_1' + 1) l_4' ∧ mu (t9_1' + 1) l_4' < mu t9_1' l_3') ∧
          (0 ≤ t9_1' ∧ t9_1' < s.length) ∧
          (if ((decide (((s.getD t9_1'.toNat 0).toNat : Int) = 34)) || (decide (((s.getD t9_1'.toNat 0).toNat : Int) = 92))) = true then
            (((l_3'.length + 2) + (l_3'.length + 2) / 4 + 192) * 1 ≤ 281474976710656 ∧ l_3'.length + 2 ≤ 9223372036854775807) ∧
            J0_2' (l_3' ++ [92, (s.getD t9_1'.toNat 0)])
          else
            (if ((decide (32 ≤ ((s.getD t9_1'.toNat 0).toNat : Int))) && (decide (((s.getD t9_1'.toNat 0).toNat : Int) ≤ 126))) = true then
              (((l_3'.length + 1) + (l_3'.length + 1) / 4 + 192) * 1 ≤ 281474976710656 ∧ l_3'.length + 1 ≤ 9223372036854775807) ∧
              J0_2' (l_3' ++ [(s.getD t9_1'.toNat 0)])
            else
              (if (decide (((s.getD t9_1'.toNat 0).toNat : Int) = 10)) = true then
                (l_3'.length + ([92, 110] : List UInt8).length ≤ 140737488355328) ∧
                J0_2' (l_3' ++ ([92, 110] : List UInt8))
              else
                (if (decide (((s.getD t9_1'.toNat 0).toNat : Int) = 13)) = true then
                  (l_3'.length + ([92, 114] : List UInt8).length ≤ 140737488355328) ∧
                  J0_2' (l_3' ++ ([92, 114] : List UInt8))
                else
                  (if (decide (((s.getD t9_1'.toNat 0).toNat : Int) = 9)) = true then
                    (l_3'.length + ([92, 116] : List UInt8).length ≤ 140737488355328) ∧
                    J0_2' (l_3' ++ ([92, 116] : List UInt8))
                  else
                    (0 ≤ (((s.getD t9_1'.toNat 0).toNat : Int) / 2 ^ (4 : Int).toNat) ∧ (((s.getD t9_1'.toNat 0).toNat : Int) / 2 ^ (4 : Int).toNat) < ([48, 49, 50, 51, 52, 53, 54, 55, 56, 57, 97, 98, 99, 100, 101, 102] : List UInt8).length) ∧
                    (0 ≤ (bits .and .u8 ((s.getD t9_1'.toNat 0).toNat : Int) 15) ∧ (bits .and .u8 ((s.getD t9_1'.toNat 0).toNat : Int) 15) < ([48, 49, 50, 51, 52, 53, 54, 55, 56, 57, 97, 98, 99, 100, 101, 102] : List UInt8).length) ∧
                    (((l_3'.length + 4) + (l_3'.length + 4) / 4 + 192) * 1 ≤ 281474976710656 ∧ l_3'.length + 4 ≤ 9223372036854775807) ∧
                    J0_2' (l_3' ++ [92, 120, (([48, 49, 50, 51, 52, 53, 54, 55, 56, 57, 97, 98, 99, 100, 101, 102] : List UInt8).getD (((s.getD t9_1'.toNat 0).toNat : Int) / 2 ^ (4 : Int).toNat).toNat 0), (([48, 49, 50, 51, 52, 53, 54, 55, 56, 57, 97, 98, 99, 100, 101, 102] : List UInt8).getD (bits .and .u8 ((s.getD t9_1'.toNat 0).toNat : Int) 15).toNat 0)]))))))
      else
        (((l_3'.length + 1) + (l_3'.length + 1) / 4 + 192) * 1 ≤ 281474976710656 ∧ l_3'.length + 1 ≤ 9223372036854775807) ∧
        K (l_3' ++ [34]))
set_option maxRecDepth 100000 in
theorem quote_wp  (s : List UInt8) (K : (List UInt8) → Prop) (h : quote_vc s K) :
    Does Tryd.prog 12 [st s] [] [] (fun o => (∃ (v : List UInt8), K v ∧ o = .ret (st v) []) ∨ (False)) := by
  unfold quote_vc at h
  refine does_of_wc (n := 66) (L0 := [(0, st s)]) Tryd.func12 rfl rfl rfl rfl (fun w0 M Q hE => ?_)
  refine wc_seq (fun K0 hK => ?_)
  refine wc_region ?_
  refine WL.val (OV.assign rfl) rfl rfl rfl ?_
  refine WL.nil ?_
  refine KX.go (hK [(0, st s)] _ ?_) ⟨rfl, trivial⟩
  refine wc_seq (fun K0_1' hK_1' => ?_)
  refine wc_region ?_
  refine WL.make (MV.buildSlice (cs := [Value.int .u8 34]) rfl tf_sl_44 (by kernel_rfl)) rfl rfl rfl (fun b => ?_)
  refine WL.asRow (f := byteC) (ms := [34]) 0 rfl rfl rfl byteC_len rfl ?_
  refine WL.val (OV.assign rfl) rfl rfl rfl ?_
  refine WL.nil ?_
  refine KX.go (hK_1' [(0, st s), (3, Value.slice (some ⟨b, 0, none⟩) 1 1)] _ ?_) ⟨rfl, rfl, trivial⟩
  refine wc_seq (fun K0_2' hK_2' => ?_)
  refine wc_seq (fun K0_3' hK_3' => ?_)
  refine wc_region ?_
  refine WL.val (OV.move rfl) rfl rfl rfl ?_
  refine WL.val (OV.len rfl tf_str_9) rfl rfl rfl ?_
  refine WL.val (OV.move rfl) rfl rfl rfl ?_
  refine WL.nil ?_
  refine KX.go (hK_3' [(0, st s), (3, Value.slice (some ⟨b, 0, none⟩) 1 1), (8, Value.int .i64 (s.length : Int)), (9, Value.int .i64 0)] _ ?_) ⟨rfl, rfl, rfl, rfl, trivial⟩
  refine wc_block ?_
  obtain ⟨Inv, mu, h0, hr⟩ := h
  refine wc_loop (S := Int × Value × (List UInt8)) (fun σ => Inv σ.1 σ.2.2) (fun σ => mu σ.1 σ.2.2) (fun σ => [(0, st s), (3, σ.2.1), (8, Value.int .i64 (s.length : Int)), (9, Value.int .i64 σ.1)]) (fun σ => [HA.row σ.2.1 5 1 σ.2.2.length (σ.2.2.flatMap byteC)]) (0, Value.slice (some ⟨b, 0, none⟩) 1 1, [34]) h0 ⟨rfl, rfl, rfl, rfl, trivial⟩ rfl ?_
  rintro ⟨t9_1', w_27', l_3'⟩ hi K0_46' hK_46'
  have h := hr t9_1' l_3' hi
  show WC _ _ _ _ [(0, st s), (3, w_27'), (8, Value.int .i64 (s.length : Int)), (9, Value.int .i64 t9_1')] [HA.row w_27' 5 1 l_3'.length (l_3'.flatMap byteC)]
  refine wc_seq (fun K0_47' hK_47' => ?_)
  refine wc_region ?_
  refine WL.val (OV.lss rfl rfl) rfl rfl rfl ?_
  refine WL.nil ?_
  refine KX.go (hK_47' [(0, st s), (3, w_27'), (8, Value.int .i64 (s.length : Int)), (9, Value.int .i64 t9_1'), (10, Value.bool (decide (t9_1' < (s.length : Int))))] _ ?_) ⟨rfl, rfl, rfl, rfl, rfl, trivial⟩
  refine wc_seq (fun K0_48' hK_48' => ?_)
  refine wc_cond (b := decide (t9_1' < (s.length : Int))) rfl (fun hb => ?_) (fun hb => ?_)
  · replace h := if_T h hb
    refine wc_skip ?_
    refine KX.go (hK_48' [(0, st s), (3, w_27'), (8, Value.int .i64 (s.length : Int)), (9, Value.int .i64 t9_1')] _ ?_) ⟨rfl, rfl, rfl, rfl, trivial⟩
    obtain ⟨J0_2', hJ_2', h⟩ := h
    refine wc_seqJ (X := Value × (List UInt8)) (fun σ => J0_2' σ.2) (fun σ => [(0, st s), (3, σ.1), (8, Value.int .i64 (s.length : Int)), (9, Value.int .i64 t9_1')]) (fun σ => [HA.row σ.1 5 1 σ.2.length (σ.2.flatMap byteC)]) ?_ (fun K0_58' hK_58' => ?_)
    · rintro ⟨w_34', l_4'⟩ hj
      replace h := hJ_2' l_4' hj
      show WC _ _ _ _ [(0, st s), (3, w_34'), (8, Value.int .i64 (s.length : Int)), (9, Value.int .i64 t9_1')] [HA.row w_34' 5 1 l_4'.length (l_4'.flatMap byteC)]
      refine wc_region ?_
      obtain ⟨o_56', h⟩ := h
      refine WL.val (OV.add rfl rfl o_56') rfl rfl rfl ?_
      refine WL.val (OV.move rfl) rfl rfl rfl ?_
      refine WL.nil ?_
      exact KX.goH (hK_46' (t9_1' + 1, w_34', l_4') h.1 h.2) ⟨rfl, rfl, rfl, rfl, trivial⟩ [0] rfl rfl
    · skip
      refine wc_block ?_
      refine wc_seq (fun K0_59' hK_59' => ?_)
      refine wc_region ?_
      refine WL.val (OV.move rfl) rfl rfl rfl ?_
      refine WL.val (OV.assign rfl) rfl rfl rfl ?_
      refine WL.nil ?_
      refine KX.go (hK_59' [(0, st s), (3, w_27'), (4, Value.int .i64 t9_1'), (8, Value.int .i64 (s.length : Int)), (9, Value.int .i64 t9_1')] _ ?_) ⟨rfl, rfl, rfl, rfl, rfl, trivial⟩
      refine wc_seq (fun K0_60' hK_60' => ?_)
      refine wc_region ?_
      refine WL.val (OV.move rfl) rfl rfl rfl ?_
      refine WL.val (OV.move rfl) rfl rfl rfl ?_
      obtain ⟨o_57', h⟩ := h
      refine WL.val (OV.index rfl rfl tf_str_9 o_57') rfl rfl rfl ?_
      refine WL.val (OV.assign rfl) rfl rfl rfl ?_
      refine WL.nil ?_
      refine KX.go (hK_60' [(0, st s), (3, w_27'), (5, Value.int .u8 ((s.getD t9_1'.toNat 0).toNat : Int)), (8, Value.int .i64 (s.length : Int)), (9, Value.int .i64 t9_1')] _ ?_) ⟨rfl, rfl, rfl, rfl, rfl, trivial⟩
      refine wc_block ?_
      refine wc_seq (fun K0_61' hK_61' => ?_)
      refine wc_region ?_
      refine WL.val (OV.move rfl) rfl rfl rfl ?_
      refine WL.val (OV.eql rfl rfl) rfl rfl rfl ?_
      refine WL.val (OV.move rfl) rfl rfl rfl ?_
      refine WL.cut 3 [(0, st s), (3, w_27'), (5, Value.int .u8 ((s.getD t9_1'.toNat 0).toNat : Int)), (8, Value.int .i64 (s.length : Int)), (9, Value.int .i64 t9_1'), (30, Value.bool ((decide (((s.getD t9_1'.toNat 0).toNat : Int) = 34)) || (decide (((s.getD t9_1'.toNat 0).toNat : Int) = 92))))] ?_ (fun K0_62' hK_62' => ?_)
      rotate_left
      · refine WL.split (decide (((s.getD t9_1'.toNat 0).toNat : Int) = 34)) (fun hb => ?_) (fun hb => ?_)
        · refine WL.set 27 rfl (congrArg Value.bool hb) ?_
          refine WL.skip rfl rfl rfl ?_
          refine WL.skip rfl rfl rfl ?_
          refine WL.val (OV.pickT rfl rfl) rfl rfl rfl ?_
          refine WL.set 30 rfl (oT (v := decide (((s.getD t9_1'.toNat 0).toNat : Int) = 92)) hb) ?_
          exact WL.end_ (KX.go hK_62' ⟨rfl, rfl, rfl, rfl, rfl, rfl, trivial⟩)
        · refine WL.set 27 rfl (congrArg Value.bool hb) ?_
          refine WL.val (OV.move rfl) rfl rfl rfl ?_
          refine WL.val (OV.eql rfl rfl) rfl rfl rfl ?_
          refine WL.val (OV.pickF rfl rfl) rfl rfl rfl ?_
          refine WL.set 30 rfl (oF (v := decide (((s.getD t9_1'.toNat 0).toNat : Int) = 92)) hb) ?_
          exact WL.end_ (KX.go hK_62' ⟨rfl, rfl, rfl, rfl, rfl, rfl, trivial⟩)
      refine WL.val (OV.assign rfl) rfl rfl rfl ?_
      refine WL.nil ?_
      refine KX.go (hK_61' [(0, st s), (3, w_27'), (5, Value.int .u8 ((s.getD t9_1'.toNat 0).toNat : Int)), (8, Value.int .i64 (s.length : Int)), (9, Value.int .i64 t9_1'), (24, Value.bool ((decide (((s.getD t9_1'.toNat 0).toNat : Int) = 34)) || (decide (((s.getD t9_1'.toNat 0).toNat : Int) = 92))))] _ ?_) ⟨rfl, rfl, rfl, rfl, rfl, rfl, trivial⟩
      refine wc_cond (b := (decide (((s.getD t9_1'.toNat 0).toNat : Int) = 34)) || (decide (((s.getD t9_1'.toNat 0).toNat : Int) = 92))) rfl (fun hb => ?_) (fun hb => ?_)
      · replace h := if_T h hb
        refine wc_region ?_
        refine WL.val (OV.move rfl) rfl rfl rfl ?_
        refine WL.val (OV.move rfl) rfl rfl rfl ?_
        refine WL.make (MV.buildSlice (cs := [Value.int .u8 92, Value.int .u8 ((s.getD t9_1'.toNat 0).toNat : Int)]) rfl tf_sl_44 (by kernel_rfl)) rfl rfl rfl (fun b_16' => ?_)
        obtain ⟨o_59', h⟩ := h
        refine WL.append (f := byteC) (ms := [92, (s.getD t9_1'.toNat 0)]) 1 0 rfl rfl rfl rfl rfl rfl byteC_len (by decide) rfl tf_sl_44 tf_info_5 rfl o_59' rfl rfl (fun w_35' => ?_)
        refine WL.val (OV.assign rfl) rfl rfl rfl ?_
        refine WL.nil ?_
        exact KX.goH (hK_58' (w_35', l_3' ++ [92, (s.getD t9_1'.toNat 0)]) h) ⟨rfl, rfl, rfl, rfl, trivial⟩ [1] rfl rfl
      · replace h := if_F h hb
        refine wc_seq (fun K0_63' hK_63' => ?_)
        refine wc_region ?_
        refine WL.val (OV.move rfl) rfl rfl rfl ?_
        refine WL.val (OV.geq rfl rfl) rfl rfl rfl ?_
        refine WL.val (OV.move rfl) rfl rfl rfl ?_
        refine WL.cut 3 [(0, st s), (3, w_27'), (5, Value.int .u8 ((s.getD t9_1'.toNat 0).toNat : Int)), (8, Value.int .i64 (s.length : Int)), (9, Value.int .i64 t9_1'), (41, Value.bool ((decide (32 ≤ ((s.getD t9_1'.toNat 0).toNat : Int))) && (decide (((s.getD t9_1'.toNat 0).toNat : Int) ≤ 126))))] ?_ (fun K0_64' hK_64' => ?_)
        rotate_left
        · refine WL.split (decide (32 ≤ ((s.getD t9_1'.toNat 0).toNat : Int))) (fun hb => ?_) (fun hb => ?_)
          · refine WL.set 38 rfl (congrArg Value.bool hb) ?_
            refine WL.val (OV.move rfl) rfl rfl rfl ?_
            refine WL.val (OV.leq rfl rfl) rfl rfl rfl ?_
            refine WL.val (OV.pickT rfl rfl) rfl rfl rfl ?_
            refine WL.set 41 rfl (bT (v := decide (((s.getD t9_1'.toNat 0).toNat : Int) ≤ 126)) hb) ?_
            exact WL.end_ (KX.go hK_64' ⟨rfl, rfl, rfl, rfl, rfl, rfl, trivial⟩)
          · refine WL.set 38 rfl (congrArg Value.bool hb) ?_
            refine WL.skip rfl rfl rfl ?_
            refine WL.skip rfl rfl rfl ?_
            refine WL.val (OV.pickF rfl rfl) rfl rfl rfl ?_
            refine WL.set 41 rfl (bF (v := decide (((s.getD t9_1'.toNat 0).toNat : Int) ≤ 126)) hb) ?_
            exact WL.end_ (KX.go hK_64' ⟨rfl, rfl, rfl, rfl, rfl, rfl, trivial⟩)
        refine WL.val (OV.assign rfl) rfl rfl rfl ?_
        refine WL.nil ?_
        refine KX.go (hK_63' [(0, st s), (3, w_27'), (5, Value.int .u8 ((s.getD t9_1'.toNat 0).toNat : Int)), (8, Value.int .i64 (s.length : Int)), (9, Value.int .i64 t9_1'), (35, Value.bool ((decide (32 ≤ ((s.getD t9_1'.toNat 0).toNat : Int))) && (decide (((s.getD t9_1'.toNat 0).toNat : Int) ≤ 126))))] _ ?_) ⟨rfl, rfl, rfl, rfl, rfl, rfl, trivial⟩
        refine wc_cond (b := (decide (32 ≤ ((s.getD t9_1'.toNat 0).toNat : Int))) && (decide (((s.getD t9_1'.toNat 0).toNat : Int) ≤ 126))) rfl (fun hb => ?_) (fun hb => ?_)
        · replace h := if_T h hb
          refine wc_region ?_
          refine WL.val (OV.move rfl) rfl rfl rfl ?_
          refine WL.val (OV.move rfl) rfl rfl rfl ?_
          refine WL.make (MV.buildSlice (cs := [Value.int .u8 ((s.getD t9_1'.toNat 0).toNat : Int)]) rfl tf_sl_44 (by kernel_rfl)) rfl rfl rfl (fun b_17' => ?_)
          obtain ⟨o_61', h⟩ := h
          refine WL.append (f := byteC) (ms := [(s.getD t9_1'.toNat 0)]) 1 0 rfl rfl rfl rfl rfl rfl byteC_len (by decide) rfl tf_sl_44 tf_info_5 rfl o_61' rfl rfl (fun w_36' => ?_)
          refine WL.val (OV.assign rfl) rfl rfl rfl ?_
          refine WL.nil ?_
          exact KX.goH (hK_58' (w_36', l_3' ++ [(s.getD t9_1'.toNat 0)]) h) ⟨rfl, rfl, rfl, rfl, trivial⟩ [1] rfl rfl
        · replace h := if_F h hb
          refine wc_seq (fun K0_65' hK_65' => ?_)
          refine wc_region ?_
          refine WL.val (OV.move rfl) rfl rfl rfl ?_
          refine WL.val (OV.eql rfl rfl) rfl rfl rfl ?_
          refine WL.val (OV.assign rfl) rfl rfl rfl ?_
          refine WL.nil ?_
          refine KX.go (hK_65' [(0, st s), (3, w_27'), (5, Value.int .u8 ((s.getD t9_1'.toNat 0).toNat : Int)), (8, Value.int .i64 (s.length : Int)), (9, Value.int .i64 t9_1'), (46, Value.bool (decide (((s.getD t9_1'.toNat 0).toNat : Int) = 10)))] _ ?_) ⟨rfl, rfl, rfl, rfl, rfl, rfl, trivial⟩
          refine wc_cond (b := decide (((s.getD t9_1'.toNat 0).toNat : Int) = 10)) rfl (fun hb => ?_) (fun hb => ?_)
          · replace h := if_T h hb
            refine wc_region ?_
            refine WL.val (OV.move rfl) rfl rfl rfl ?_
            obtain ⟨o_62', h⟩ := h
            refine WL.appendS (m := ([92, 110] : List UInt8)) 0 rfl rfl rfl tf_sl_44 tf_str_9 tf_byte_5 o_62' rfl rfl (fun w_37' => ?_)
            refine WL.val (OV.assign rfl) rfl rfl rfl ?_
            refine WL.nil ?_
            exact KX.goH (hK_58' (w_37', l_3' ++ ([92, 110] : List UInt8)) h) ⟨rfl, rfl, rfl, rfl, trivial⟩ [0] rfl rfl
          · replace h := if_F h hb
            refine wc_seq (fun K0_66' hK_66' => ?_)
            refine wc_region ?_
            refine WL.val (OV.move rfl) rfl rfl rfl ?_
            refine WL.val (OV.eql rfl rfl) rfl rfl rfl ?_
            refine WL.val (OV.assign rfl) rfl rfl rfl ?_
            refine WL.nil ?_
            refine KX.go (hK_66' [(0, st s), (3, w_27'), (5, Value.int .u8 ((s.getD t9_1'.toNat 0).toNat : Int)), (8, Value.int .i64 (s.length : Int)), (9, Value.int .i64 t9_1'), (51, Value.bool (decide (((s.getD t9_1'.toNat 0).toNat : Int) = 13)))] _ ?_) ⟨rfl, rfl, rfl, rfl, rfl, rfl, trivial⟩
            refine wc_cond (b := decide (((s.getD t9_1'.toNat 0).toNat : Int) = 13)) rfl (fun hb => ?_) (fun hb => ?_)
            · replace h := if_T h hb
              refine wc_region ?_
              refine WL.val (OV.move rfl) rfl rfl rfl ?_
              obtain ⟨o_63', h⟩ := h
              refine WL.appendS (m := ([92, 114] : List UInt8)) 0 rfl rfl rfl tf_sl_44 tf_str_9 tf_byte_5 o_63' rfl rfl (fun w_38' => ?_)
              refine WL.val (OV.assign rfl) rfl rfl rfl ?_
              refine WL.nil ?_
              exact KX.goH (hK_58' (w_38', l_3' ++ ([92, 114] : List UInt8)) h) ⟨rfl, rfl, rfl, rfl, trivial⟩ [0] rfl rfl
            · replace h := if_F h hb
              refine wc_seq (fun K0_67' hK_67' => ?_)
              refine wc_region ?_
              refine WL.val (OV.move rfl) rfl rfl rfl ?_
              refine WL.val (OV.eql rfl rfl) rfl rfl rfl ?_
              refine WL.val (OV.assign rfl) rfl rfl rfl ?_
              refine WL.nil ?_
              refine KX.go (hK_67' [(0, st s), (3, w_27'), (5, Value.int .u8 ((s.getD t9_1'.toNat 0).toNat : Int)), (8, Value.int .i64 (s.length : Int)), (9, Value.int .i64 t9_1'), (56, Value.bool (decide (((s.getD t9_1'.toNat 0).toNat : Int) = 9)))] _ ?_) ⟨rfl, rfl, rfl, rfl, rfl, rfl, trivial⟩
              refine wc_cond (b := decide (((s.getD t9_1'.toNat 0).toNat : Int) = 9)) rfl (fun hb => ?_) (fun hb => ?_)
              · replace h := if_T h hb
                refine wc_region ?_
                refine WL.val (OV.move rfl) rfl rfl rfl ?_
                obtain ⟨o_64', h⟩ := h
                refine WL.appendS (m := ([92, 116] : List UInt8)) 0 rfl rfl rfl tf_sl_44 tf_str_9 tf_byte_5 o_64' rfl rfl (fun w_39' => ?_)
                refine WL.val (OV.assign rfl) rfl rfl rfl ?_
                refine WL.nil ?_
                exact KX.goH (hK_58' (w_39', l_3' ++ ([92, 116] : List UInt8)) h) ⟨rfl, rfl, rfl, rfl, trivial⟩ [0] rfl rfl
              · replace h := if_F h hb
                refine wc_draw 8 [(7, .cells [Value.int .u8 92, Value.int .u8 120, Value.int .u8 ((([48, 49, 50, 51, 52, 53, 54, 55, 56, 57, 97, 98, 99, 100, 101, 102] : List UInt8).getD (((s.getD t9_1'.toNat 0).toNat : Int) / 2 ^ (4 : Int).toNat).toNat 0).toNat : Int), Value.int .u8 ((([48, 49, 50, 51, 52, 53, 54, 55, 56, 57, 97, 98, 99, 100, 101, 102] : List UInt8).getD (bits .and .u8 ((s.getD t9_1'.toNat 0).toNat : Int) 15).toNat 0).toNat : Int)].toArray 5 (0, 0))] tf_mixed (by kernel_rfl) rfl (fun T_5' hT_5' => ?_)
                refine FL.val (fun _ => OV.move rfl) rfl (fun _ => rfl) rfl rfl ?_
                refine FL.val (fun _ => OV.move rfl) rfl (fun _ => rfl) rfl rfl ?_
                refine FL.val (fun _ => OV.shr rfl rfl ⟨by decide, by decide⟩) rfl (fun _ => rfl) rfl rfl ?_
                obtain ⟨o_65', h⟩ := h
                refine FL.val (fun _ => OV.index rfl rfl tf_str_9 o_65') rfl (fun _ => rfl) rfl rfl ?_
                refine FL.val (fun _ => OV.move rfl) rfl (fun _ => rfl) rfl rfl ?_
                refine FL.val (fun _ => OV.bits_and rfl rfl) rfl (fun _ => rfl) rfl rfl ?_
                obtain ⟨o_66', h⟩ := h
                refine FL.val (fun _ => OV.index rfl rfl tf_str_9 o_66') rfl (fun _ => rfl) rfl rfl ?_
                refine FL.make (fun _ => MV.buildSlice (cs := [Value.int .u8 92, Value.int .u8 120, Value.int .u8 ((([48, 49, 50, 51, 52, 53, 54, 55, 56, 57, 97, 98, 99, 100, 101, 102] : List UInt8).getD (((s.getD t9_1'.toNat 0).toNat : Int) / 2 ^ (4 : Int).toNat).toNat 0).toNat : Int), Value.int .u8 ((([48, 49, 50, 51, 52, 53, 54, 55, 56, 57, 97, 98, 99, 100, 101, 102] : List UInt8).getD (bits .and .u8 ((s.getD t9_1'.toNat 0).toNat : Int) 15).toNat 0).toNat : Int)]) rfl tf_sl_44 (by kernel_rfl)) rfl (fun _ => rfl) rfl rfl ?_
                refine FL.weak (L' := fun γ => [(0, st s), (3, w_27'), (8, Value.int .i64 (s.length : Int)), (9, Value.int .i64 t9_1'), (15, w_27'), (22, Value.slice (some ⟨(γ 7), 0, none⟩) 4 4)]) (fun γ => ⟨rfl, rfl, rfl, rfl, rfl, rfl, trivial⟩) (FL.nil (hT_5' (fun γ => [(0, st s), (3, w_27'), (8, Value.int .i64 (s.length : Int)), (9, Value.int .i64 t9_1'), (15, w_27'), (22, Value.slice (some ⟨(γ 7), 0, none⟩) 4 4)]) (fun γ => ?_)))
                show WL _ _ _ _ [(0, st s), (3, w_27'), (8, Value.int .i64 (s.length : Int)), (9, Value.int .i64 t9_1'), (15, w_27'), (22, Value.slice (some ⟨(γ 7), 0, none⟩) 4 4)] [HA.blk (γ 7) (.cells [Value.int .u8 92, Value.int .u8 120, Value.int .u8 ((([48, 49, 50, 51, 52, 53, 54, 55, 56, 57, 97, 98, 99, 100, 101, 102] : List UInt8).getD (((s.getD t9_1'.toNat 0).toNat : Int) / 2 ^ (4 : Int).toNat).toNat 0).toNat : Int), Value.int .u8 ((([48, 49, 50, 51, 52, 53, 54, 55, 56, 57, 97, 98, 99, 100, 101, 102] : List UInt8).getD (bits .and .u8 ((s.getD t9_1'.toNat 0).toNat : Int) 15).toNat 0).toNat : Int)].toArray 5 (0, 0)), HA.row w_27' 5 1 l_3'.length (l_3'.flatMap byteC)] _
                generalize γ 7 = b_18'
                obtain ⟨o_67', h⟩ := h
                refine WL.append (f := byteC) (ms := [92, 120, (([48, 49, 50, 51, 52, 53, 54, 55, 56, 57, 97, 98, 99, 100, 101, 102] : List UInt8).getD (((s.getD t9_1'.toNat 0).toNat : Int) / 2 ^ (4 : Int).toNat).toNat 0), (([48, 49, 50, 51, 52, 53, 54, 55, 56, 57, 97, 98, 99, 100, 101, 102] : List UInt8).getD (bits .and .u8 ((s.getD t9_1'.toNat 0).toNat : Int) 15).toNat 0)]) 1 0 rfl rfl rfl rfl rfl rfl byteC_len (by decide) rfl tf_sl_44 tf_info_5 rfl o_67' rfl rfl (fun w_40' => ?_)
                refine WL.val (OV.assign rfl) rfl rfl rfl ?_
                refine WL.nil ?_
                exact KX.goH (hK_58' (w_40', l_3' ++ [92, 120, (([48, 49, 50, 51, 52, 53, 54, 55, 56, 57, 97, 98, 99, 100, 101, 102] : List UInt8).getD (((s.getD t9_1'.toNat 0).toNat : Int) / 2 ^ (4 : Int).toNat).toNat 0), (([48, 49, 50, 51, 52, 53, 54, 55, 56, 57, 97, 98, 99, 100, 101, 102] : List UInt8).getD (bits .and .u8 ((s.getD t9_1'.toNat 0).toNat : Int) 15).toNat 0)]) h) ⟨rfl, rfl, rfl, rfl, trivial⟩ [1] rfl rfl
  · replace h := if_F h hb
    refine wc_exit ?_
    refine KX.go (hK_2' [(3, w_27')] _ ?_) ⟨rfl, trivial⟩
    refine wc_seq (fun K0_68' hK_68' => ?_)
    refine wc_region ?_
    refine WL.val (OV.move rfl) rfl rfl rfl ?_
    refine WL.make (MV.buildSlice (cs := [Value.int .u8 34]) rfl tf_sl_44 (by kernel_rfl)) rfl rfl rfl (fun b_19' => ?_)
    obtain ⟨o_68', h⟩ := h
    refine WL.append (f := byteC) (ms := [34]) 1 0 rfl rfl rfl rfl rfl rfl byteC_len (by decide) rfl tf_sl_44 tf_info_5 rfl o_68' rfl rfl (fun w_41' => ?_)
    refine WL.val (OV.bytesRow (l := l_3' ++ [34]) 1 rfl rfl tf_sl_44 Tryd.underlying5 tf_str_9) rfl rfl rfl ?_
    refine WL.val (OV.assign rfl) rfl rfl rfl ?_
    refine WL.nil ?_
    refine KX.go (hK_68' [(2, st (l_3' ++ [34]))] _ ?_) ⟨rfl, trivial⟩
    refine wc_ret ?_
    exact hE.ret [] rfl rfl (.inl ⟨_, h, rfl⟩) (ResV.of1 rfl (RV.tmp rfl))

def refquote_vc (s : List UInt8) (K : (List UInt8) → Prop) : Prop :=
  (((([] : List UInt8).length + 1) + (([] : List UInt8).length + 1) / 4 + 192) * 1 ≤ 281474976710656 ∧ ([] : List UInt8).length + 1 ≤ 9223372036854775807) ∧
  ∃ (Inv : Int → (List UInt8) → Prop) (mu : Int → (List UInt8) → Nat),
    Inv 0 (([] : List UInt8) ++ [34]) ∧ ∀ (i_1' : Int) (l_7' : List UInt8), Inv i_1' l_7' →
      (if (decide (i_1' < (s.length : Int))) = true then
        ∃ (J0_7' : (List UInt8) → Prop),
          (∀ (l_9' : List UInt8), J0_7' l_9' →
            (I64 (i_1' + 1)) ∧
            Inv (i_1' + 1) l_9' ∧ mu (i_1' + 1) l_9' < mu i_1' l_7') ∧
          (0 ≤ i_1' ∧ i_1' < s.length) ∧
          (if (decide (((s.getD i_1'.toNat 0).toNat : Int) = 10)) = true then
            (((l_7'.length + 2) + (l_7'.length + 2) / 4 + 192) * 1 ≤ 281474976710656 ∧ l_7'.length + 2 ≤ 9223372036854775807) ∧
            J0_7' (l_7' ++ [92, 110])
          else
            (if (decide (((s.getD i_1'.toNat 0).toNat : Int) = 13)) = true then
              (((l_7'.length + 2) + (l_7'.length + 2) / 4 + 192) * 1 ≤ 281474976710656 ∧ l_7'.length + 2 ≤ 9223372036854775807) ∧
              J0_7' (l_7' ++ [92, 114])
            else
              (if (decide (((s.getD i_1'.toNat 0).toNat : Int) = 9)) = true then
                (((l_7'.length + 2) + (l_7'.length + 2) / 4 + 192) * 1 ≤ 281474976710656 ∧ l_7'.length + 2 ≤ 9223372036854775807) ∧
                J0_7' (l_7' ++ [92, 116])
              else
                (if ((decide (((s.getD i_1'.toNat 0).toNat : Int) < 32)) || (decide (126 < ((s.getD i_1'.toNat 0).toNat : Int)))) = true then
                  (0 ≤ ((s.getD i_1'.toNat 0).toNat : Int) ∧ ((s.getD i_1'.toNat 0).toNat : Int) < 256 ∧ 0 < (16 : Int)) ∧
                  (0 ≤ (((s.getD i_1'.toNat 0).toNat : Int) / 16) ∧ (((s.getD i_1'.toNat 0).toNat : Int) / 16) < ([48, 49, 50, 51, 52, 53, 54, 55, 56, 57, 97, 98, 99, 100, 101, 102] : List UInt8).length) ∧
                  (0 ≤ ((s.getD i_1'.toNat 0).toNat : Int) ∧ 0 < (16 : Int)) ∧
                  (0 ≤ (((s.getD i_1'.toNat 0).toNat : Int) % 16) ∧ (((s.getD i_1'.toNat 0).toNat : Int) % 16) < ([48, 49, 50, 51, 52, 53, 54, 55, 56, 57, 97, 98, 99, 100, 101, 102] : List UInt8).length) ∧
                  (((l_7'.length + 4) + (l_7'.length + 4) / 4 + 192) * 1 ≤ 281474976710656 ∧ l_7'.length + 4 ≤ 9223372036854775807) ∧
                  J0_7' (l_7' ++ [92, 120, (([48, 49, 50, 51, 52, 53, 54, 55, 56, 57, 97, 98, 99, 100, 101, 102] : List UInt8).getD (((s.getD i_1'.toNat 0).toNat : Int) / 16).toNat 0), (([48, 49, 50, 51, 52, 53, 54, 55, 56, 57, 97, 98, 99, 100, 101, 102] : List UInt8).getD (((s.getD i_1'.toNat 0).toNat : Int) % 16).toNat 0)])
                else
                  ∃ (J0_8' : (List UInt8) → Prop),
                    (∀ (l_10' : List UInt8), J0_8' l_10' →
                      (((l_10'.length + 1) + (l_10'.length + 1) / 4 + 192) * 1 ≤ 281474976710656 ∧ l_10'.length + 1 ≤ 9223372036854775807) ∧
                      J0_7' (l_10' ++ [(s.getD i_1'.toNat 0)])) ∧
                    (if ((decide (((s.getD i_1'.toNat 0).toNat : Int) = 34)) || (decide (((s.getD i_1'.toNat 0).toNat : Int) = 92))) = true then
                      (((l_7'.length + 1) + (l_7'.length + 1) / 4 + 192) * 1 ≤ 281474976710656 ∧ l_7'.length + 1 ≤ 9223372036854775807) ∧
                      J0_8' (l_7' ++ [92])
                    else
                      J0_8' l_7')))))
      else
        (((l_7'.length + 1) + (l_7'.length + 1) / 4 + 192) * 1 ≤ 281474976710656 ∧ l_7'.length + 1 ≤ 9223372036854775807) ∧
        K (l_7' ++ [34]))
set_option maxRecDepth 100000 in
theorem refquote_wp  (s : List UInt8) (K : (List UInt8) → Prop) (h : refquote_vc s K) :
    Does Tryd.prog 13 [st s] [] [] (fun o => (∃ (v : List UInt8), K v ∧ o = .ret (st v) []) ∨ (False)) := by
  unfold refquote_vc at h
  refine does_of_wc (n := 69) (L0 := [(0, st s)]) Tryd.func13 rfl rfl rfl rfl (fun w0 M Q hE => ?_)
  refine wc_seq (fun K0 hK => ?_)
  refine wc_region ?_
  refine WL.val (OV.assign rfl) rfl rfl rfl ?_
  refine WL.nil ?_
  refine KX.go (hK [(0, st s)] _ ?_) ⟨rfl, trivial⟩
  refine wc_seq (fun K0_1' hK_1' => ?_)
  refine wc_region ?_
  refine WL.val (OV.assign rfl) rfl rfl rfl ?_
  refine WL.nilRow 5 1 byteC ?_
  refine WL.nil ?_
  refine KX.go (hK_1' [(0, st s), (3, Value.slice none 0 0)] _ ?_) ⟨rfl, rfl, trivial⟩
  refine wc_seq (fun K0_2' hK_2' => ?_)
  refine wc_region ?_
  refine WL.val (OV.move rfl) rfl rfl rfl ?_
  refine WL.make (MV.buildSlice (cs := [Value.int .u8 34]) rfl tf_sl_44 (by kernel_rfl)) rfl rfl rfl (fun b => ?_)
  obtain ⟨o, h⟩ := h
  refine WL.append (f := byteC) (ms := [34]) 1 0 rfl rfl rfl rfl rfl rfl byteC_len (by decide) rfl tf_sl_44 tf_info_5 rfl o rfl rfl (fun w => ?_)
  refine WL.val (OV.assign rfl) rfl rfl rfl ?_
  refine WL.nil ?_
  refine KX.go (hK_2' [(0, st s), (3, w)] _ ?_) ⟨rfl, rfl, trivial⟩
  refine wc_seq (fun K0_3' hK_3' => ?_)
  refine wc_region ?_
  refine WL.val (OV.assign rfl) rfl rfl rfl ?_
  refine WL.nil ?_
  refine KX.go (hK_3' [(0, st s), (3, w), (4, st ([48, 49, 50, 51, 52, 53, 54, 55, 56, 57, 97, 98, 99, 100, 101, 102] : List UInt8))] _ ?_) ⟨rfl, rfl, rfl, trivial⟩
  refine wc_seq (fun K0_4' hK_4' => ?_)
  refine wc_seq (fun K0_5' hK_5' => ?_)
  refine wc_region ?_
  refine WL.val (OV.assign rfl) rfl rfl rfl ?_
  refine WL.nil ?_
  refine KX.go (hK_5' [(0, st s), (3, w), (4, st ([48, 49, 50, 51, 52, 53, 54, 55, 56, 57, 97, 98, 99, 100, 101, 102] : List UInt8)), (5, Value.int .i64 0)] _ ?_) ⟨rfl, rfl, rfl, rfl, trivial⟩
  refine wc_block ?_
  refine WC.pick (H' := [HA.row w 5 1 (([] : List UInt8) ++ [34]).length ((([] : List UInt8) ++ [34]).flatMap byteC)]) [1] rfl rfl ?_
  obtain ⟨Inv, mu, h0, hr⟩ := h
  refine wc_loop (S := Int × Value × (List UInt8)) (fun σ => Inv σ.1 σ.2.2) (fun σ => mu σ.1 σ.2.2) (fun σ => [(0, st s), (3, σ.2.1), (4, st ([48, 49, 50, 51, 52, 53, 54, 55, 56, 57, 97, 98, 99, 100, 101, 102] : List UInt8)), (5, Value.int .i64 σ.1)]) (fun σ => [HA.row σ.2.1 5 1 σ.2.2.length (σ.2.2.flatMap byteC)]) (0, w, ([] : List UInt8) ++ [34]) h0 ⟨rfl, rfl, rfl, rfl, trivial⟩ rfl ?_
  rintro ⟨i_1', w_36', l_7'⟩ hi K0_56' hK_56'
  have h := hr i_1' l_7' hi
  show WC _ _ _ _ [(0, st s), (3, w_36'), (4, st ([48, 49, 50, 51, 52, 53, 54, 55, 56, 57, 97, 98, 99, 100, 101, 102] : List UInt8)), (5, Value.int .i64 i_1')] [HA.row w_36' 5 1 l_7'.length (l_7'.flatMap byteC)]
  refine wc_seq (fun K0_57' hK_57' => ?_)
  refine wc_seq (fun K0_58' hK_58' => ?_)
  refine wc_region ?_
  refine WL.val (OV.move rfl) rfl rfl rfl ?_
  refine WL.val (OV.move rfl) rfl rfl rfl ?_
  refine WL.val (OV.len rfl tf_str_9) rfl rfl rfl ?_
  refine WL.val (OV.lss rfl rfl) rfl rfl rfl ?_
  refine WL.nil ?_
  refine KX.go (hK_58' [(0, st s), (3, w_36'), (4, st ([48, 49, 50, 51, 52, 53, 54, 55, 56, 57, 97, 98, 99, 100, 101, 102] : List UInt8)), (5, Value.int .i64 i_1'), (13, Value.bool (decide (i_1' < (s.length : Int))))] _ ?_) ⟨rfl, rfl, rfl, rfl, rfl, trivial⟩
  refine wc_cond (b := decide (i_1' < (s.length : Int))) rfl (fun hb => ?_) (fun hb => ?_)
  · replace h := if_T h hb
    refine wc_skip ?_
    refine KX.go (hK_57' [(0, st s), (3, w_36'), (4, st ([48, 49, 50, 51, 52, 53, 54, 55, 56, 57, 97, 98, 99, 100, 101, 102] : List UInt8)), (5, Value.int .i64 i_1')] _ ?_) ⟨rfl, rfl, rfl, rfl, trivial⟩
    obtain ⟨J0_7', hJ_7', h⟩ := h
    refine wc_seqJ (X := Value × (List UInt8)) (fun σ => J0_7' σ.2) (fun σ => [(0, st s), (3, σ.1), (4, st ([48, 49, 50, 51, 52, 53, 54, 55, 56, 57, 97, 98, 99, 100, 101, 102] : List UInt8)), (5, Value.int .i64 i_1')]) (fun σ => [HA.row σ.1 5 1 σ.2.length (σ.2.flatMap byteC)]) ?_ (fun K0_70' hK_70' => ?_)
    · rintro ⟨w_45', l_9'⟩ hj
      replace h := hJ_7' l_9' hj
      show WC _ _ _ _ [(0, st s), (3, w_45'), (4, st ([48, 49, 50, 51, 52, 53, 54, 55, 56, 57, 97, 98, 99, 100, 101, 102] : List UInt8)), (5, Value.int .i64 i_1')] [HA.row w_45' 5 1 l_9'.length (l_9'.flatMap byteC)]
      refine wc_region ?_
      refine WL.val (OV.move rfl) rfl rfl rfl ?_
      obtain ⟨o_77', h⟩ := h
      refine WL.val (OV.add rfl rfl o_77') rfl rfl rfl ?_
      refine WL.val (OV.assign rfl) rfl rfl rfl ?_
      refine WL.nil ?_
      exact KX.goH (hK_56' (i_1' + 1, w_45', l_9') h.1 h.2) ⟨rfl, rfl, rfl, rfl, trivial⟩ [0] rfl rfl
    · skip
      refine wc_block ?_
      refine wc_seq (fun K0_71' hK_71' => ?_)
      refine wc_region ?_
      refine WL.val (OV.move rfl) rfl rfl rfl ?_
      refine WL.val (OV.move rfl) rfl rfl rfl ?_
      obtain ⟨o_78', h⟩ := h
      refine WL.val (OV.index rfl rfl tf_str_9 o_78') rfl rfl rfl ?_
      refine WL.val (OV.assign rfl) rfl rfl rfl ?_
      refine WL.nil ?_
      refine KX.go (hK_71' [(0, st s), (3, w_36'), (4, st ([48, 49, 50, 51, 52, 53, 54, 55, 56, 57, 97, 98, 99, 100, 101, 102] : List UInt8)), (5, Value.int .i64 i_1'), (6, Value.int .u8 ((s.getD i_1'.toNat 0).toNat : Int))] _ ?_) ⟨rfl, rfl, rfl, rfl, rfl, trivial⟩
      refine wc_seq (fun K0_72' hK_72' => ?_)
      refine wc_region ?_
      refine WL.val (OV.move rfl) rfl rfl rfl ?_
      refine WL.val (OV.eql rfl rfl) rfl rfl rfl ?_
      refine WL.nil ?_
      refine KX.go (hK_72' [(0, st s), (3, w_36'), (4, st ([48, 49, 50, 51, 52, 53, 54, 55, 56, 57, 97, 98, 99, 100, 101, 102] : List UInt8)), (5, Value.int .i64 i_1'), (6, Value.int .u8 ((s.getD i_1'.toNat 0).toNat : Int)), (20, Value.bool (decide (((s.getD i_1'.toNat 0).toNat : Int) = 10)))] _ ?_) ⟨rfl, rfl, rfl, rfl, rfl, rfl, trivial⟩
      refine wc_cond (b := decide (((s.getD i_1'.toNat 0).toNat : Int) = 10)) rfl (fun hb => ?_) (fun hb => ?_)
      · replace h := if_T h hb
        refine wc_region ?_
        refine WL.val (OV.move rfl) rfl rfl rfl ?_
        refine WL.make (MV.buildSlice (cs := [Value.int .u8 92, Value.int .u8 110]) rfl tf_sl_44 (by kernel_rfl)) rfl rfl rfl (fun b_36' => ?_)
        obtain ⟨o_79', h⟩ := h
        refine WL.append (f := byteC) (ms := [92, 110]) 1 0 rfl rfl rfl rfl rfl rfl byteC_len (by decide) rfl tf_sl_44 tf_info_5 rfl o_79' rfl rfl (fun w_46' => ?_)
        refine WL.val (OV.assign rfl) rfl rfl rfl ?_
        refine WL.nil ?_
        exact KX.goH (hK_70' (w_46', l_7' ++ [92, 110]) h) ⟨rfl, rfl, rfl, rfl, trivial⟩ [1] rfl rfl
      · replace h := if_F h hb
        refine wc_seq (fun K0_73' hK_73' => ?_)
        refine wc_region ?_
        refine WL.val (OV.move rfl) rfl rfl rfl ?_
        refine WL.val (OV.eql rfl rfl) rfl rfl rfl ?_
        refine WL.nil ?_
        refine KX.go (hK_73' [(0, st s), (3, w_36'), (4, st ([48, 49, 50, 51, 52, 53, 54, 55, 56, 57, 97, 98, 99, 100, 101, 102] : List UInt8)), (5, Value.int .i64 i_1'), (6, Value.int .u8 ((s.getD i_1'.toNat 0).toNat : Int)), (25, Value.bool (decide (((s.getD i_1'.toNat 0).toNat : Int) = 13)))] _ ?_) ⟨rfl, rfl, rfl, rfl, rfl, rfl, trivial⟩
        refine wc_cond (b := decide (((s.getD i_1'.toNat 0).toNat : Int) = 13)) rfl (fun hb => ?_) (fun hb => ?_)
        · replace h := if_T h hb
          refine wc_region ?_
          refine WL.val (OV.move rfl) rfl rfl rfl ?_
          refine WL.make (MV.buildSlice (cs := [Value.int .u8 92, Value.int .u8 114]) rfl tf_sl_44 (by kernel_rfl)) rfl rfl rfl (fun b_37' => ?_)
          obtain ⟨o_80', h⟩ := h
          refine WL.append (f := byteC) (ms := [92, 114]) 1 0 rfl rfl rfl rfl rfl rfl byteC_len (by decide) rfl tf_sl_44 tf_info_5 rfl o_80' rfl rfl (fun w_47' => ?_)
          refine WL.val (OV.assign rfl) rfl rfl rfl ?_
          refine WL.nil ?_
          exact KX.goH (hK_70' (w_47', l_7' ++ [92, 114]) h) ⟨rfl, rfl, rfl, rfl, trivial⟩ [1] rfl rfl
        · replace h := if_F h hb
          refine wc_seq (fun K0_74' hK_74' => ?_)
          refine wc_region ?_
          refine WL.val (OV.move rfl) rfl rfl rfl ?_
          refine WL.val (OV.eql rfl rfl) rfl rfl rfl ?_
          refine WL.nil ?_
          refine KX.go (hK_74' [(0, st s), (3, w_36'), (4, st ([48, 49, 50, 51, 52, 53, 54, 55, 56, 57, 97, 98, 99, 100, 101, 102] : List UInt8)), (5, Value.int .i64 i_1'), (6, Value.int .u8 ((s.getD i_1'.toNat 0).toNat : Int)), (30, Value.bool (decide (((s.getD i_1'.toNat 0).toNat : Int) = 9)))] _ ?_) ⟨rfl, rfl, rfl, rfl, rfl, rfl, trivial⟩
          refine wc_cond (b := decide (((s.getD i_1'.toNat 0).toNat : Int) = 9)) rfl (fun hb => ?_) (fun hb => ?_)
          · replace h := if_T h hb
            refine wc_region ?_
            refine WL.val (OV.move rfl) rfl rfl rfl ?_
            refine WL.make (MV.buildSlice (cs := [Value.int .u8 92, Value.int .u8 116]) rfl tf_sl_44 (by kernel_rfl)) rfl rfl rfl (fun b_38' => ?_)
            obtain ⟨o_81', h⟩ := h
            refine WL.append (f := byteC) (ms := [92, 116]) 1 0 rfl rfl rfl rfl rfl rfl byteC_len (by decide) rfl tf_sl_44 tf_info_5 rfl o_81' rfl rfl (fun w_48' => ?_)
            refine WL.val (OV.assign rfl) rfl rfl rfl ?_
            refine WL.nil ?_
            exact KX.goH (hK_70' (w_48', l_7' ++ [92, 116]) h) ⟨rfl, rfl, rfl, rfl, trivial⟩ [1] rfl rfl
          · replace h := if_F h hb
            refine wc_seq (fun K0_75' hK_75' => ?_)
            refine wc_region ?_
            refine WL.val (OV.move rfl) rfl rfl rfl ?_
            refine WL.val (OV.lss rfl rfl) rfl rfl rfl ?_
            refine WL.val (OV.move rfl) rfl rfl rfl ?_
            refine WL.cut 3 [(0, st s), (3, w_36'), (4, st ([48, 49, 50, 51, 52, 53, 54, 55, 56, 57, 97, 98, 99, 100, 101, 102] : List UInt8)), (5, Value.int .i64 i_1'), (6, Value.int .u8 ((s.getD i_1'.toNat 0).toNat : Int)), (39, Value.bool ((decide (((s.getD i_1'.toNat 0).toNat : Int) < 32)) || (decide (126 < ((s.getD i_1'.toNat 0).toNat : Int)))))] ?_ (fun K0_76' hK_76' => ?_)
            rotate_left
            · refine WL.split (decide (((s.getD i_1'.toNat 0).toNat : Int) < 32)) (fun hb => ?_) (fun hb => ?_)
              · refine WL.set 36 rfl (congrArg Value.bool hb) ?_
                refine WL.skip rfl rfl rfl ?_
                refine WL.skip rfl rfl rfl ?_
                refine WL.val (OV.pickT rfl rfl) rfl rfl rfl ?_
                refine WL.set 39 rfl (oT (v := decide (126 < ((s.getD i_1'.toNat 0).toNat : Int))) hb) ?_
                exact WL.end_ (KX.go hK_76' ⟨rfl, rfl, rfl, rfl, rfl, rfl, trivial⟩)
              · refine WL.set 36 rfl (congrArg Value.bool hb) ?_
                refine WL.val (OV.move rfl) rfl rfl rfl ?_
                refine WL.val (OV.gtr rfl rfl) rfl rfl rfl ?_
                refine WL.val (OV.pickF rfl rfl) rfl rfl rfl ?_
                refine WL.set 39 rfl (oF (v := decide (126 < ((s.getD i_1'.toNat 0).toNat : Int))) hb) ?_
                exact WL.end_ (KX.go hK_76' ⟨rfl, rfl, rfl, rfl, rfl, rfl, trivial⟩)
            refine WL.nil ?_
            refine KX.go (hK_75' [(0, st s), (3, w_36'), (4, st ([48, 49, 50, 51, 52, 53, 54, 55, 56, 57, 97, 98, 99, 100, 101, 102] : List UInt8)), (5, Value.int .i64 i_1'), (6, Value.int .u8 ((s.getD i_1'.toNat 0).toNat : Int)), (39, Value.bool ((decide (((s.getD i_1'.toNat 0).toNat : Int) < 32)) || (decide (126 < ((s.getD i_1'.toNat 0).toNat : Int)))))] _ ?_) ⟨rfl, rfl, rfl, rfl, rfl, rfl, trivial⟩
            refine wc_cond (b := (decide (((s.getD i_1'.toNat 0).toNat : Int) < 32)) || (decide (126 < ((s.getD i_1'.toNat 0).toNat : Int)))) rfl (fun hb => ?_) (fun hb => ?_)
            · replace h := if_T h hb
              refine wc_draw 10 [(9, .cells [Value.int .u8 92, Value.int .u8 120, Value.int .u8 ((([48, 49, 50, 51, 52, 53, 54, 55, 56, 57, 97, 98, 99, 100, 101, 102] : List UInt8).getD (((s.getD i_1'.toNat 0).toNat : Int) / 16).toNat 0).toNat : Int), Value.int .u8 ((([48, 49, 50, 51, 52, 53, 54, 55, 56, 57, 97, 98, 99, 100, 101, 102] : List UInt8).getD (((s.getD i_1'.toNat 0).toNat : Int) % 16).toNat 0).toNat : Int)].toArray 5 (0, 0))] tf_mixed (by kernel_rfl) rfl (fun T_5' hT_5' => ?_)
              refine FL.val (fun _ => OV.move rfl) rfl (fun _ => rfl) rfl rfl ?_
              refine FL.val (fun _ => OV.move rfl) rfl (fun _ => rfl) rfl rfl ?_
              refine FL.val (fun _ => OV.move rfl) rfl (fun _ => rfl) rfl rfl ?_
              obtain ⟨o_83', h⟩ := h
              refine FL.val (fun _ => OV.quo8 rfl rfl o_83') rfl (fun _ => rfl) rfl rfl ?_
              obtain ⟨o_84', h⟩ := h
              refine FL.val (fun _ => OV.index rfl rfl tf_str_9 o_84') rfl (fun _ => rfl) rfl rfl ?_
              refine FL.val (fun _ => OV.move rfl) rfl (fun _ => rfl) rfl rfl ?_
              refine FL.val (fun _ => OV.move rfl) rfl (fun _ => rfl) rfl rfl ?_
              obtain ⟨o_85', h⟩ := h
              refine FL.val (fun _ => OV.rem rfl rfl o_85') rfl (fun _ => rfl) rfl rfl ?_
              obtain ⟨o_86', h⟩ := h
              refine FL.val (fun _ => OV.index rfl rfl tf_str_9 o_86') rfl (fun _ => rfl) rfl rfl ?_
              refine FL.make (fun _ => MV.buildSlice (cs := [Value.int .u8 92, Value.int .u8 120, Value.int .u8 ((([48, 49, 50, 51, 52, 53, 54, 55, 56, 57, 97, 98, 99, 100, 101, 102] : List UInt8).getD (((s.getD i_1'.toNat 0).toNat : Int) / 16).toNat 0).toNat : Int), Value.int .u8 ((([48, 49, 50, 51, 52, 53, 54, 55, 56, 57, 97, 98, 99, 100, 101, 102] : List UInt8).getD (((s.getD i_1'.toNat 0).toNat : Int) % 16).toNat 0).toNat : Int)]) rfl tf_sl_44 (by kernel_rfl)) rfl (fun _ => rfl) rfl rfl ?_
              refine FL.weak (L' := fun γ => [(0, st s), (3, w_36'), (4, st ([48, 49, 50, 51, 52, 53, 54, 55, 56, 57, 97, 98, 99, 100, 101, 102] : List UInt8)), (5, Value.int .i64 i_1'), (40, w_36'), (49, Value.slice (some ⟨(γ 9), 0, none⟩) 4 4)]) (fun γ => ⟨rfl, rfl, rfl, rfl, rfl, rfl, trivial⟩) (FL.nil (hT_5' (fun γ => [(0, st s), (3, w_36'), (4, st ([48, 49, 50, 51, 52, 53, 54, 55, 56, 57, 97, 98, 99, 100, 101, 102] : List UInt8)), (5, Value.int .i64 i_1'), (40, w_36'), (49, Value.slice (some ⟨(γ 9), 0, none⟩) 4 4)]) (fun γ => ?_)))
              show WL _ _ _ _ [(0, st s), (3, w_36'), (4, st ([48, 49, 50, 51, 52, 53, 54, 55, 56, 57, 97, 98, 99, 100, 101, 102] : List UInt8)), (5, Value.int .i64 i_1'), (40, w_36'), (49, Value.slice (some ⟨(γ 9), 0, none⟩) 4 4)] [HA.blk (γ 9) (.cells [Value.int .u8 92, Value.int .u8 120, Value.int .u8 ((([48, 49, 50, 51, 52, 53, 54, 55, 56, 57, 97, 98, 99, 100, 101, 102] : List UInt8).getD (((s.getD i_1'.toNat 0).toNat : Int) / 16).toNat 0).toNat : Int), Value.int .u8 ((([48, 49, 50, 51, 52, 53, 54, 55, 56, 57, 97, 98, 99, 100, 101, 102] : List UInt8).getD (((s.getD i_1'.toNat 0).toNat : Int) % 16).toNat 0).toNat : Int)].toArray 5 (0, 0)), HA.row w_36' 5 1 l_7'.length (l_7'.flatMap byteC)] _
              generalize γ 9 = b_39'
              obtain ⟨o_87', h⟩ := h
              refine WL.append (f := byteC) (ms := [92, 120, (([48, 49, 50, 51, 52, 53, 54, 55, 56, 57, 97, 98, 99, 100, 101, 102] : List UInt8).getD (((s.getD i_1'.toNat 0).toNat : Int) / 16).toNat 0), (([48, 49, 50, 51, 52, 53, 54, 55, 56, 57, 97, 98, 99, 100, 101, 102] : List UInt8).getD (((s.getD i_1'.toNat 0).toNat : Int) % 16).toNat 0)]) 1 0 rfl rfl rfl rfl rfl rfl byteC_len (by decide) rfl tf_sl_44 tf_info_5 rfl o_87' rfl rfl (fun w_49' => ?_)
              refine WL.val (OV.assign rfl) rfl rfl rfl ?_
              refine WL.nil ?_
              exact KX.goH (hK_70' (w_49', l_7' ++ [92, 120, (([48, 49, 50, 51, 52, 53, 54, 55, 56, 57, 97, 98, 99, 100, 101, 102] : List UInt8).getD (((s.getD i_1'.toNat 0).toNat : Int) / 16).toNat 0), (([48, 49, 50, 51, 52, 53, 54, 55, 56, 57, 97, 98, 99, 100, 101, 102] : List UInt8).getD (((s.getD i_1'.toNat 0).toNat : Int) % 16).toNat 0)]) h) ⟨rfl, rfl, rfl, rfl, trivial⟩ [1] rfl rfl
            · replace h := if_F h hb
              obtain ⟨J0_8', hJ_8', h⟩ := h
              refine wc_seqJ (X := Value × (List UInt8)) (fun σ => J0_8' σ.2) (fun σ => [(0, st s), (3, σ.1), (4, st ([48, 49, 50, 51, 52, 53, 54, 55, 56, 57, 97, 98, 99, 100, 101, 102] : List UInt8)), (5, Value.int .i64 i_1'), (6, Value.int .u8 ((s.getD i_1'.toNat 0).toNat : Int))]) (fun σ => [HA.row σ.1 5 1 σ.2.length (σ.2.flatMap byteC)]) ?_ (fun K0_79' hK_79' => ?_)
              · rintro ⟨w_51', l_10'⟩ hj
                replace h := hJ_8' l_10' hj
                show WC _ _ _ _ [(0, st s), (3, w_51'), (4, st ([48, 49, 50, 51, 52, 53, 54, 55, 56, 57, 97, 98, 99, 100, 101, 102] : List UInt8)), (5, Value.int .i64 i_1'), (6, Value.int .u8 ((s.getD i_1'.toNat 0).toNat : Int))] [HA.row w_51' 5 1 l_10'.length (l_10'.flatMap byteC)]
                refine wc_region ?_
                refine WL.val (OV.move rfl) rfl rfl rfl ?_
                refine WL.val (OV.move rfl) rfl rfl rfl ?_
                refine WL.make (MV.buildSlice (cs := [Value.int .u8 ((s.getD i_1'.toNat 0).toNat : Int)]) rfl tf_sl_44 (by kernel_rfl)) rfl rfl rfl (fun b_41' => ?_)
                obtain ⟨o_90', h⟩ := h
                refine WL.append (f := byteC) (ms := [(s.getD i_1'.toNat 0)]) 1 0 rfl rfl rfl rfl rfl rfl byteC_len (by decide) rfl tf_sl_44 tf_info_5 rfl o_90' rfl rfl (fun w_52' => ?_)
                refine WL.val (OV.assign rfl) rfl rfl rfl ?_
                refine WL.nil ?_
                exact KX.goH (hK_70' (w_52', l_10' ++ [(s.getD i_1'.toNat 0)]) h) ⟨rfl, rfl, rfl, rfl, trivial⟩ [1] rfl rfl
              · skip
                refine wc_seq (fun K0_80' hK_80' => ?_)
                refine wc_region ?_
                refine WL.val (OV.move rfl) rfl rfl rfl ?_
                refine WL.val (OV.eql rfl rfl) rfl rfl rfl ?_
                refine WL.val (OV.move rfl) rfl rfl rfl ?_
                refine WL.cut 3 [(0, st s), (3, w_36'), (4, st ([48, 49, 50, 51, 52, 53, 54, 55, 56, 57, 97, 98, 99, 100, 101, 102] : List UInt8)), (5, Value.int .i64 i_1'), (6, Value.int .u8 ((s.getD i_1'.toNat 0).toNat : Int)), (56, Value.bool ((decide (((s.getD i_1'.toNat 0).toNat : Int) = 34)) || (decide (((s.getD i_1'.toNat 0).toNat : Int) = 92))))] ?_ (fun K0_81' hK_81' => ?_)
                rotate_left
                · refine WL.split (decide (((s.getD i_1'.toNat 0).toNat : Int) = 34)) (fun hb => ?_) (fun hb => ?_)
                  · refine WL.set 53 rfl (congrArg Value.bool hb) ?_
                    refine WL.skip rfl rfl rfl ?_
                    refine WL.skip rfl rfl rfl ?_
                    refine WL.val (OV.pickT rfl rfl) rfl rfl rfl ?_
                    refine WL.set 56 rfl (oT (v := decide (((s.getD i_1'.toNat 0).toNat : Int) = 92)) hb) ?_
                    exact WL.end_ (KX.go hK_81' ⟨rfl, rfl, rfl, rfl, rfl, rfl, trivial⟩)
                  · refine WL.set 53 rfl (congrArg Value.bool hb) ?_
                    refine WL.val (OV.move rfl) rfl rfl rfl ?_
                    refine WL.val (OV.eql rfl rfl) rfl rfl rfl ?_
                    refine WL.val (OV.pickF rfl rfl) rfl rfl rfl ?_
                    refine WL.set 56 rfl (oF (v := decide (((s.getD i_1'.toNat 0).toNat : Int) = 92)) hb) ?_
                    exact WL.end_ (KX.go hK_81' ⟨rfl, rfl, rfl, rfl, rfl, rfl, trivial⟩)
                refine WL.nil ?_
                refine KX.go (hK_80' [(0, st s), (3, w_36'), (4, st ([48, 49, 50, 51, 52, 53, 54, 55, 56, 57, 97, 98, 99, 100, 101, 102] : List UInt8)), (5, Value.int .i64 i_1'), (6, Value.int .u8 ((s.getD i_1'.toNat 0).toNat : Int)), (56, Value.bool ((decide (((s.getD i_1'.toNat 0).toNat : Int) = 34)) || (decide (((s.getD i_1'.toNat 0).toNat : Int) = 92))))] _ ?_) ⟨rfl, rfl, rfl, rfl, rfl, rfl, trivial⟩
                refine wc_cond (b := (decide (((s.getD i_1'.toNat 0).toNat : Int) = 34)) || (decide (((s.getD i_1'.toNat 0).toNat : Int) = 92))) rfl (fun hb => ?_) (fun hb => ?_)
                · replace h := if_T h hb
                  refine wc_region ?_
                  refine WL.val (OV.move rfl) rfl rfl rfl ?_
                  refine WL.make (MV.buildSlice (cs := [Value.int .u8 92]) rfl tf_sl_44 (by kernel_rfl)) rfl rfl rfl (fun b_42' => ?_)
                  obtain ⟨o_92', h⟩ := h
                  refine WL.append (f := byteC) (ms := [92]) 1 0 rfl rfl rfl rfl rfl rfl byteC_len (by decide) rfl tf_sl_44 tf_info_5 rfl o_92' rfl rfl (fun w_53' => ?_)
                  refine WL.val (OV.assign rfl) rfl rfl rfl ?_
                  refine WL.nil ?_
                  exact KX.goH (hK_79' (w_53', l_7' ++ [92]) h) ⟨rfl, rfl, rfl, rfl, rfl, trivial⟩ [1] rfl rfl
                · replace h := if_F h hb
                  refine wc_skip ?_
                  exact KX.goH (hK_79' (w_36', l_7') h) ⟨rfl, rfl, rfl, rfl, rfl, trivial⟩ [0] rfl rfl
  · replace h := if_F h hb
    refine wc_exit ?_
    refine KX.go (hK_4' [(3, w_36')] _ ?_) ⟨rfl, trivial⟩
    refine wc_seq (fun K0_82' hK_82' => ?_)
    refine wc_region ?_
    refine WL.val (OV.move rfl) rfl rfl rfl ?_
    refine WL.make (MV.buildSlice (cs := [Value.int .u8 34]) rfl tf_sl_44 (by kernel_rfl)) rfl rfl rfl (fun b_43' => ?_)
    obtain ⟨o_93', h⟩ := h
    refine WL.append (f := byteC) (ms := [34]) 1 0 rfl rfl rfl rfl rfl rfl byteC_len (by decide) rfl tf_sl_44 tf_info_5 rfl o_93' rfl rfl (fun w_54' => ?_)
    refine WL.val (OV.assign rfl) rfl rfl rfl ?_
    refine WL.nil ?_
    refine KX.go (hK_82' [(3, w_54')] _ ?_) ⟨rfl, trivial⟩
    refine wc_seq (fun K0_83' hK_83' => ?_)
    refine wc_region ?_
    refine WL.val (OV.move rfl) rfl rfl rfl ?_
    refine WL.val (OV.bytesRow (l := l_7' ++ [34]) 1 rfl rfl tf_sl_44 Tryd.underlying5 tf_str_9) rfl rfl rfl ?_
    refine WL.val (OV.assign rfl) rfl rfl rfl ?_
    refine WL.nil ?_
    refine KX.go (hK_83' [(2, st (l_7' ++ [34]))] _ ?_) ⟨rfl, trivial⟩
    refine wc_ret ?_
    exact hE.ret [] rfl rfl (.inl ⟨_, h, rfl⟩) (ResV.of1 rfl (RV.tmp rfl))

def hx (n : Nat) : UInt8 := ([48, 49, 50, 51, 52, 53, 54, 55, 56, 57, 97, 98, 99, 100, 101, 102] : List UInt8).getD n 0
/-- A byte within quotes. -/
def qb (c : UInt8) : List UInt8 :=
  if c = 34 ∨ c = 92 then [92, c] else if 32 ≤ c.toNat ∧ c.toNat ≤ 126 then [c] else if c = 10 then [92, 110] else if c = 13 then [92, 114] else if c = 9 then [92, 116] else [92, 120, hx (c.toNat / 16), hx (c.toNat % 16)]
def quoteL (s : List UInt8) : List UInt8 := [34] ++ s.flatMap qb ++ [34]
theorem qb_len (c : UInt8) : (qb c).length ≤ 4 := by unfold qb; repeat' split
                                                     all_goals simp
theorem qbs_len : ∀ s : List UInt8, (s.flatMap qb).length ≤ 4 * s.length
  | [] => by simp
  | c :: s => by
    have h1 := qb_len c
    have h2 := qbs_len s
    rw [List.flatMap_cons, List.length_append, List.length_cons]; omega
theorem take_qb {s : List UInt8} {i : Int} (h : 0 ≤ i ∧ i < s.length) : (s.take (i + 1).toNat).flatMap qb = (s.take i.toNat).flatMap qb ++ qb (s.getD i.toNat 0) := by
  have hlt : i.toNat < s.length := by omega
  rw [show (i + 1).toNat = i.toNat + 1 by omega, List.take_add_one, List.flatMap_append, List.getElem?_eq_getElem hlt, List.getD_eq_getElem?_getD, List.getElem?_eq_getElem hlt]
  simp
theorem eq_bt {c : UInt8} (n : UInt8) : ((c.toNat : Int) = (n.toNat : Int)) ↔ c = n := ⟨fun h => UInt8.toNat_inj.1 (by omega), fun h => by rw [h]⟩
theorem and15 : ∀ n : Nat, n < 256 → bits .and .u8 (n : Int) 15 = ((n % 16 : Nat) : Int) := by decide +kernel
theorem quote_does (s : List UInt8) (h : s.length ≤ 1048576) : Does Tryd.prog 12 [st s] [] [] (Ret (st (quoteL s)) []) := by
  refine (quote_wp s (fun r => r = quoteL s) ?_).weak (by rintro o (⟨v, rfl, rfl⟩ | h) <;> first | rfl | exact h.elim)
  unfold quote_vc
  refine ⟨fun i out => 0 ≤ i ∧ i ≤ s.length ∧ out = [34] ++ (s.take i.toNat).flatMap qb, fun i _ => (s.length - i).toNat, ⟨by omega, by omega, by simp⟩, ?_⟩
  rintro i out ⟨h0, h1, rfl⟩
  have hl0 := qbs_len (s.take i.toNat)
  rw [List.length_take] at hl0
  have hl : ([34] ++ (s.take i.toNat).flatMap qb).length ≤ 4194305 := by rw [List.length_append]; simp only [List.length_cons, List.length_nil]; omega
  by_cases hi : i < s.length
  · rw [if_pos (by simpa using hi)]
    have ht := take_qb ⟨h0, hi⟩
    have key : ∀ X, qb (s.getD i.toNat 0) = X → ([34] ++ (s.take i.toNat).flatMap qb) ++ X = [34] ++ (s.take (i + 1).toNat).flatMap qb := fun X hX => by rw [ht, ← hX, List.append_assoc]
    refine ⟨fun l => l = [34] ++ (s.take (i + 1).toNat).flatMap qb, fun l hl2 => ⟨⟨by omega, by omega⟩, ⟨by omega, by omega, hl2⟩, by show (s.length - (i + 1)).toNat < (s.length - i).toNat; omega⟩, ⟨h0, hi⟩, ?_⟩
    generalize s.getD i.toNat 0 = c at key ⊢
    generalize ([34] ++ (s.take i.toNat).flatMap qb) = out at hl key ⊢
    have hc := c.toNat_lt
    have n34 := eq_bt (c := c) 34
    have n92 := eq_bt (c := c) 92
    have n10 := eq_bt (c := c) 10
    have n13 := eq_bt (c := c) 13
    have n9 := eq_bt (c := c) 9
    have v34 : ((34 : UInt8).toNat : Int) = 34 := rfl
    have v92 : ((92 : UInt8).toNat : Int) = 92 := rfl
    have v10 : ((10 : UInt8).toNat : Int) = 10 := rfl
    have v13 : ((13 : UInt8).toNat : Int) = 13 := rfl
    have v9 : ((9 : UInt8).toNat : Int) = 9 := rfl
    rw [v34] at n34
    rw [v92] at n92
    rw [v10] at n10
    rw [v13] at n13
    rw [v9] at n9
    simp only [n34, n92, n10, n13, n9]
    unfold qb at key
    by_cases e1 : c = 34 ∨ c = 92
    · rw [if_pos (by simpa using e1)]
      exact ⟨⟨by omega, by omega⟩, key _ (by rw [if_pos e1])⟩
    · rw [if_neg (by simpa using e1)]
      rw [if_neg e1] at key
      by_cases e2 : 32 ≤ c.toNat ∧ c.toNat ≤ 126
      · rw [if_pos (by simp; omega)]
        exact ⟨⟨by omega, by omega⟩, key _ (by rw [if_pos e2])⟩
      · rw [if_neg (by simp; omega)]
        rw [if_neg e2] at key
        by_cases e3 : c = 10
        · rw [if_pos (by simpa using e3)]
          exact ⟨by simp only [List.length_cons, List.length_nil]; omega, key _ (by rw [if_pos e3])⟩
        · rw [if_neg (by simpa using e3)]
          rw [if_neg e3] at key
          by_cases e4 : c = 13
          · rw [if_pos (by simpa using e4)]
            exact ⟨by simp only [List.length_cons, List.length_nil]; omega, key _ (by rw [if_pos e4])⟩
          · rw [if_neg (by simpa using e4)]
            rw [if_neg e4] at key
            by_cases e5 : c = 9
            · rw [if_pos (by simpa using e5)]
              exact ⟨by simp only [List.length_cons, List.length_nil]; omega, key _ (by rw [if_pos e5])⟩
            · rw [if_neg (by simpa using e5)]
              rw [if_neg e5] at key
              have hd : ((c.toNat : Int) / 2 ^ (4 : Int).toNat) = ((c.toNat / 16 : Nat) : Int) := by rw [show (2 : Int) ^ (4 : Int).toNat = 16 from rfl]; omega
              rw [hd, and15 _ hc]
              refine ⟨⟨by omega, by simp only [List.length_cons, List.length_nil]; omega⟩, ⟨by omega, by simp only [List.length_cons, List.length_nil]; omega⟩, ⟨by omega, by omega⟩, key _ rfl⟩
  · rw [if_neg (by simpa using hi)]
    refine ⟨⟨by omega, by omega⟩, ?_⟩
    rw [List.take_of_length_le (by omega)]; rfl
theorem refquote_does (s : List UInt8) (h : s.length ≤ 1048576) : Does Tryd.prog 13 [st s] [] [] (Ret (st (quoteL s)) []) := by
  refine (refquote_wp s (fun r => r = quoteL s) ?_).weak (by rintro o (⟨v, rfl, rfl⟩ | h) <;> first | rfl | exact h.elim)
  unfold refquote_vc
  refine ⟨⟨by simp, by simp⟩, fun i out => 0 ≤ i ∧ i ≤ s.length ∧ out = [34] ++ (s.take i.toNat).flatMap qb, fun i _ => (s.length - i).toNat, ⟨by omega, by omega, by simp⟩, ?_⟩
  rintro i out ⟨h0, h1, rfl⟩
  have hl0 := qbs_len (s.take i.toNat)
  rw [List.length_take] at hl0
  have hl : ([34] ++ (s.take i.toNat).flatMap qb).length ≤ 4194305 := by rw [List.length_append]; simp only [List.length_cons, List.length_nil]; omega
  by_cases hi : i < s.length
  · rw [if_pos (by simpa using hi)]
    have ht := take_qb ⟨h0, hi⟩
    have key : ∀ X, qb (s.getD i.toNat 0) = X → ([34] ++ (s.take i.toNat).flatMap qb) ++ X = [34] ++ (s.take (i + 1).toNat).flatMap qb := fun X hX => by rw [ht, ← hX, List.append_assoc]
    refine ⟨fun l => l = [34] ++ (s.take (i + 1).toNat).flatMap qb, fun l hl2 => ⟨⟨by omega, by omega⟩, ⟨by omega, by omega, hl2⟩, by show (s.length - (i + 1)).toNat < (s.length - i).toNat; omega⟩, ⟨h0, hi⟩, ?_⟩
    generalize s.getD i.toNat 0 = c at key ⊢
    generalize ([34] ++ (s.take i.toNat).flatMap qb) = out at hl key ⊢
    have hc := c.toNat_lt
    have n34 := eq_bt (c := c) 34
    have n92 := eq_bt (c := c) 92
    have n10 := eq_bt (c := c) 10
    have n13 := eq_bt (c := c) 13
    have n9 := eq_bt (c := c) 9
    have v34 : ((34 : UInt8).toNat : Int) = 34 := rfl
    have v92 : ((92 : UInt8).toNat : Int) = 92 := rfl
    have v10 : ((10 : UInt8).toNat : Int) = 10 := rfl
    have v13 : ((13 : UInt8).toNat : Int) = 13 := rfl
    have v9 : ((9 : UInt8).toNat : Int) = 9 := rfl
    rw [v34] at n34
    rw [v92] at n92
    rw [v10] at n10
    rw [v13] at n13
    rw [v9] at n9
    simp only [n34, n92, n10, n13, n9]
    unfold qb at key
    have room : ∀ k : Nat, k ≤ 4 → ((out.length + k) + (out.length + k) / 4 + 192) * 1 ≤ 281474976710656 ∧ out.length + k ≤ 9223372036854775807 := fun k hk => ⟨by omega, by omega⟩
    by_cases e3 : c = 10
    · subst e3
      rw [if_pos (by rfl)]
      exact ⟨room 2 (by omega), key _ rfl⟩
    · rw [if_neg (by simpa using e3)]
      by_cases e4 : c = 13
      · subst e4
        rw [if_pos (by rfl)]
        exact ⟨room 2 (by omega), key _ rfl⟩
      · rw [if_neg (by simpa using e4)]
        by_cases e5 : c = 9
        · subst e5
          rw [if_pos (by rfl)]
          exact ⟨room 2 (by omega), key _ rfl⟩
        · rw [if_neg (by simpa using e5)]
          by_cases e2 : 32 ≤ c.toNat ∧ c.toNat ≤ 126
          · rw [if_neg (by simp; omega)]
            by_cases e1 : c = 34 ∨ c = 92
            · rw [if_pos e1] at key
              refine ⟨fun l => l = out ++ [92], fun l hl3 => ?_, ?_⟩
              · subst hl3
                refine ⟨⟨by simp; omega, by simp; omega⟩, ?_⟩
                rw [List.append_assoc]; exact key _ rfl
              · rw [if_pos (by simpa using e1)]
                exact ⟨room 1 (by omega), rfl⟩
            · rw [if_neg e1, if_pos e2] at key
              refine ⟨fun l => l = out, fun l hl3 => ?_, ?_⟩
              · subst hl3
                exact ⟨room 1 (by omega), key _ rfl⟩
              · rw [if_neg (by simpa using e1)]
          · rw [if_pos (by simp; omega)]
            have e1 : ¬ (c = 34 ∨ c = 92) := by
              rintro (rfl | rfl) <;> exact e2 ⟨by decide, by decide⟩
            rw [if_neg e1, if_neg e2, if_neg e3, if_neg e4, if_neg e5] at key
            have hd : ((c.toNat : Int) / 16) = ((c.toNat / 16 : Nat) : Int) := by omega
            have hm : ((c.toNat : Int) % 16) = ((c.toNat % 16 : Nat) : Int) := by omega
            rw [hd, hm]
            exact ⟨⟨by omega, by omega, by omega⟩, ⟨by omega, by simp only [List.length_cons, List.length_nil]; omega⟩, ⟨by omega, by omega⟩, ⟨by omega, by simp only [List.length_cons, List.length_nil]; omega⟩, room 4 (by omega), key _ rfl⟩
  · rw [if_neg (by simpa using hi)]
    refine ⟨⟨by omega, by omega⟩, ?_⟩
    rw [List.take_of_length_le (by omega)]; rfl

end Go.Proofs.YtiaafdjdppganaaDoor
