/-
  The document's Scan.
-/
import Derived.Test.YtiaafdjdppganaaTkR
namespace Go.Proofs.Ytiaafdjdppganaa
open Go Go.RowKit

theorem tf_ent_17 : entB Try.prog 17 = true := by kernel_rfl
theorem tf_zero_40 : zeroB Try.prog 40 = some [Value.int .i64 0, Value.int .i64 0, st []] := by kernel_rfl
theorem tf_size_40 : sizeB Try.prog 40 3 = true := by kernel_rfl
theorem tf_ent_18 : entB Try.prog 18 = true := by kernel_rfl
theorem tf_field_40_0 : fieldOff Try.prog 40 0 = some 0 := by kernel_rfl
theorem tf_field_40_2 : fieldOff Try.prog 40 2 = some 2 := by kernel_rfl
theorem tf_size_9 : sizeB Try.prog 9 1 = true := by kernel_rfl
theorem tf_ent_20 : entB Try.prog 20 = true := by kernel_rfl
theorem tf_ent_21 : entB Try.prog 21 = true := by kernel_rfl
theorem tf_ent_22 : entB Try.prog 22 = true := by kernel_rfl
theorem tf_row_40 : RowT Try.prog 40 3 := ⟨by kernel_rfl, by kernel_rfl⟩
theorem tf_sl_23 : slB Try.prog 23 40 3 = true := by kernel_rfl
theorem tf_info_40 : infoB Try.prog 40 = some ([Value.int .i64 0, Value.int .i64 0, st []], 3, 32) := by kernel_rfl

def refscan_vc (s : List UInt8) (K : (List Tok) → Int → Int → Prop) : Prop :=
  (if (decide (4096 < (s.length : Int))) = true then
    K ([] : List Tok) 1 0
  else
    (0 ≤ (0 : Int) ∧ (0 : Int) ≤ s.length ∧ s.length ≤ 4096) ∧
    ∃ (Inv_4' : Int → (List Tok) → Prop) (mu_4' : Int → (List Tok) → Nat),
      Inv_4' (gapM s 0) [] ∧ ∀ (i_1' : Int) (l_1' : List Tok), Inv_4' i_1' l_1' →
        (if (decide (i_1' < (s.length : Int))) = true then
          (0 ≤ i_1' ∧ i_1' < s.length) ∧
          (I64 (i_1' + 1)) ∧
          ∃ (J0_2' : Int → Int → Int → Int → (List UInt8) → Prop),
            (∀ (next_12' : Int) (e_2' : Int) (at0_2' : Int) (t_0_2' : Int) (t_2_2' : List UInt8), J0_2' next_12' e_2' at0_2' t_0_2' t_2_2' →
              (if (!decide (e_2' = 0)) = true then
                K ([] : List Tok) e_2' at0_2'
              else
                (((l_1'.length + 1) + (l_1'.length + 1) / 4 + 192) * 32 ≤ 281474976710656 ∧ l_1'.length + 1 ≤ 9223372036854775807) ∧
                (0 ≤ next_12' ∧ next_12' ≤ s.length ∧ s.length ≤ 4096) ∧
                Inv_4' (gapM s next_12') (l_1' ++ [(t_0_2', i_1', t_2_2')]) ∧ mu_4' (gapM s next_12') (l_1' ++ [(t_0_2', i_1', t_2_2')]) < mu_4' i_1' l_1')) ∧
            (if (letterB ((s.getD i_1'.toNat 0).toNat : Int)) = true then
              ∃ (Inv_6' : Int → Prop) (mu_6' : Int → Nat),
                Inv_6' (i_1' + 1) ∧ ∀ (next_14' : Int), Inv_6' next_14' →
                  ((decide (next_14' < (s.length : Int))) = true → (0 ≤ next_14' ∧ next_14' < s.length) ∧ ((letterB ((s.getD next_14'.toNat 0).toNat : Int)) = false → (0 ≤ next_14' ∧ next_14' < s.length))) ∧
                  (if ((decide (next_14' < (s.length : Int))) && ((letterB ((s.getD next_14'.toNat 0).toNat : Int)) || (digitB ((s.getD next_14'.toNat 0).toNat : Int)))) = true then
                    (I64 (next_14' + 1)) ∧
                    Inv_6' (next_14' + 1) ∧ mu_6' (next_14' + 1) < mu_6' next_14'
                  else
                    (I64 (next_14' - i_1')) ∧
                    (if (decide (32 < next_14' - i_1')) = true then
                      K ([] : List Tok) 1 i_1'
                    else
                      (0 ≤ i_1' ∧ i_1' ≤ next_14' ∧ next_14' ≤ s.length) ∧
                      J0_2' next_14' 0 0 1 ((s.drop i_1'.toNat).take (next_14'.toNat - i_1'.toNat))))
            else
              (if (decide (((s.getD i_1'.toNat 0).toNat : Int) = 34)) = true then
                (0 ≤ i_1' ∧ i_1' < s.length ∧ s.length ≤ 4096) ∧
                J0_2' ((rqM s i_1').2.1) ((rqM s i_1').2.2.1) ((rqM s i_1').2.2.2) 2 ((rqM s i_1').1)
              else
                (if (decide (((s.getD i_1'.toNat 0).toNat : Int) = 47)) = true then
                  (0 ≤ i_1' ∧ i_1' < s.length ∧ s.length ≤ 4096) ∧
                  J0_2' ((rrM s i_1').2.1) ((rrM s i_1').2.2.1) ((rrM s i_1').2.2.2) 3 ((rrM s i_1').1)
                else
                  (0 ≤ ((s.getD i_1'.toNat 0).toNat : Int) ∧ ((s.getD i_1'.toNat 0).toNat : Int) < 256) ∧
                  (if (marksL.contains (((s.getD i_1'.toNat 0).toNat : Int)).toNat.toUInt8) = true then
                    (I64 (i_1' + 1)) ∧
                    (0 ≤ i_1' ∧ i_1' ≤ (i_1' + 1) ∧ (i_1' + 1) ≤ s.length) ∧
                    J0_2' (i_1' + 1) 0 0 4 ((s.drop i_1'.toNat).take ((i_1' + 1).toNat - i_1'.toNat))
                  else
                    ((decide (((s.getD i_1'.toNat 0).toNat : Int) = 62)) = true → (I64 (i_1' + 1))) ∧
                    (((decide (((s.getD i_1'.toNat 0).toNat : Int) = 62)) && (decide (i_1' + 1 < (s.length : Int)))) = true → (I64 (i_1' + 1)) ∧ (0 ≤ (i_1' + 1) ∧ (i_1' + 1) < s.length)) ∧
                    (if (((decide (((s.getD i_1'.toNat 0).toNat : Int) = 62)) && (decide (i_1' + 1 < (s.length : Int)))) && (decide (((s.getD (i_1' + 1).toNat 0).toNat : Int) = 62))) = true then
                      (I64 (i_1' + 2)) ∧
                      J0_2' (i_1' + 2) 0 0 4 ([62, 62] : List UInt8)
                    else
                      K ([] : List Tok) 50 i_1')))))
        else
          (((l_1'.length + 1) + (l_1'.length + 1) / 4 + 192) * 32 ≤ 281474976710656 ∧ l_1'.length + 1 ≤ 9223372036854775807) ∧
          K (l_1' ++ [(0, (s.length : Int), ([] : List UInt8))]) 0 0))
set_option maxRecDepth 100000 in
theorem refscan_wp  (s : List UInt8) (K : (List Tok) → Int → Int → Prop) (h : refscan_vc s K) :
    Does Try.prog 10 [st s] [] [] (fun o => (∃ (w_6' : Value) (v : List Tok) (v_1' : Int) (v_2' : Int), K v v_1' v_2' ∧ o = .ret (Value.tuple #[w_6', Value.int .i64 v_1', Value.int .i64 v_2']) [HA.row w_6' 40 3 v.length (v.flatMap tokC)]) ∨ (False)) := by
  unfold refscan_vc at h
  refine does_of_wc (n := 130) (L0 := [(0, st s)]) Try.func10 rfl rfl rfl rfl (fun w0 M Q hE => ?_)
  refine wc_seq (fun K0 hK => ?_)
  refine wc_region ?_
  refine WL.val (OV.assign rfl) rfl rfl rfl ?_
  refine WL.nilRow 40 3 tokC ?_
  refine WL.val (OV.assign rfl) rfl rfl rfl ?_
  refine WL.val (OV.assign rfl) rfl rfl rfl ?_
  refine WL.nil ?_
  refine KX.go (hK [(0, st s)] _ ?_) ⟨rfl, trivial⟩
  refine wc_seq (fun K0_1' hK_1' => ?_)
  refine wc_seq (fun K0_2' hK_2' => ?_)
  refine wc_region ?_
  refine WL.val (OV.move rfl) rfl rfl rfl ?_
  refine WL.val (OV.len rfl tf_str_9) rfl rfl rfl ?_
  refine WL.val (OV.gtr rfl rfl) rfl rfl rfl ?_
  refine WL.nil ?_
  refine KX.go (hK_2' [(0, st s), (14, Value.bool (decide (4096 < (s.length : Int))))] _ ?_) ⟨rfl, rfl, trivial⟩
  refine wc_cond (b := decide (4096 < (s.length : Int))) rfl (fun hb => ?_) (fun hb => ?_)
  · replace h := if_T h hb
    refine wc_seq (fun K0_3' hK_3' => ?_)
    refine wc_region ?_
    refine WL.val (OV.assign rfl) rfl rfl rfl ?_
    refine WL.nilRow 40 3 tokC ?_
    refine WL.val (OV.assign rfl) rfl rfl rfl ?_
    refine WL.val (OV.assign rfl) rfl rfl rfl ?_
    refine WL.nil ?_
    refine KX.go (hK_3' [(2, Value.slice none 0 0), (3, Value.int .i64 1), (4, Value.int .i64 0)] _ ?_) ⟨rfl, rfl, rfl, trivial⟩
    refine wc_ret ?_
    exact hE.ret [0] rfl rfl (.inl ⟨_, _, _, _, h, rfl⟩) (ResV.of3 rfl (RV.tmp rfl) (RV.tmp rfl) (RV.tmp rfl))
  · replace h := if_F h hb
    refine wc_skip ?_
    refine KX.go (hK_1' [(0, st s)] _ ?_) ⟨rfl, trivial⟩
    refine wc_seq (fun K0_4' hK_4' => ?_)
    refine wc_region ?_
    refine WL.val (OV.assign rfl) rfl rfl rfl ?_
    refine WL.nilRow 40 3 tokC ?_
    refine WL.nil ?_
    refine KX.go (hK_4' [(0, st s), (5, Value.slice none 0 0)] _ ?_) ⟨rfl, rfl, trivial⟩
    refine wc_seq (fun K0_5' hK_5' => ?_)
    refine wc_region ?_
    refine WL.val (OV.move rfl) rfl rfl rfl ?_
    obtain ⟨o, h⟩ := h
    refine WL.call (A := []) tf_ent_17 rfl (gap_does s 0 o) rfl trivial rfl rfl ?_
    refine WL.val (OV.assign rfl) rfl rfl rfl ?_
    refine WL.nil ?_
    refine KX.go (hK_5' [(0, st s), (5, Value.slice none 0 0), (6, Value.int .i64 (gapM s 0))] _ ?_) ⟨rfl, rfl, rfl, trivial⟩
    refine wc_seq (fun K0_6' hK_6' => ?_)
    refine wc_block ?_
    refine WC.pick (H' := [HA.row (Value.slice none 0 0) 40 3 ([] : List Tok).length (([] : List Tok).flatMap tokC)]) [0] rfl rfl ?_
    obtain ⟨Inv_4', mu_4', h0_4', hr_4'⟩ := h
    refine wc_loop (S := Int × Value × (List Tok)) (fun σ => Inv_4' σ.1 σ.2.2) (fun σ => mu_4' σ.1 σ.2.2) (fun σ => [(0, st s), (5, σ.2.1), (6, Value.int .i64 σ.1)]) (fun σ => [HA.row σ.2.1 40 3 σ.2.2.length (σ.2.2.flatMap tokC)]) (gapM s 0, Value.slice none 0 0, []) h0_4' ⟨rfl, rfl, rfl, trivial⟩ rfl ?_
    rintro ⟨i_1', w_3', l_1'⟩ hi K0_139' hK_139'
    have h := hr_4' i_1' l_1' hi
    show WC _ _ _ _ [(0, st s), (5, w_3'), (6, Value.int .i64 i_1')] [HA.row w_3' 40 3 l_1'.length (l_1'.flatMap tokC)]
    refine wc_seq (fun K0_140' hK_140' => ?_)
    refine wc_seq (fun K0_141' hK_141' => ?_)
    refine wc_region ?_
    refine WL.val (OV.move rfl) rfl rfl rfl ?_
    refine WL.val (OV.move rfl) rfl rfl rfl ?_
    refine WL.val (OV.len rfl tf_str_9) rfl rfl rfl ?_
    refine WL.val (OV.lss rfl rfl) rfl rfl rfl ?_
    refine WL.nil ?_
    refine KX.go (hK_141' [(0, st s), (5, w_3'), (6, Value.int .i64 i_1'), (20, Value.bool (decide (i_1' < (s.length : Int))))] _ ?_) ⟨rfl, rfl, rfl, rfl, trivial⟩
    refine wc_cond (b := decide (i_1' < (s.length : Int))) rfl (fun hb => ?_) (fun hb => ?_)
    · replace h := if_T h hb
      refine wc_skip ?_
      refine KX.go (hK_140' [(0, st s), (5, w_3'), (6, Value.int .i64 i_1')] _ ?_) ⟨rfl, rfl, rfl, trivial⟩
      refine wc_block ?_
      refine wc_seq (fun K0_142' hK_142' => ?_)
      refine wc_region ?_
      refine WL.val (OV.move rfl) rfl rfl rfl ?_
      refine WL.val (OV.move rfl) rfl rfl rfl ?_
      obtain ⟨o_133', h⟩ := h
      refine WL.val (OV.index rfl rfl tf_str_9 o_133') rfl rfl rfl ?_
      refine WL.val (OV.assign rfl) rfl rfl rfl ?_
      refine WL.nil ?_
      refine KX.go (hK_142' [(0, st s), (5, w_3'), (6, Value.int .i64 i_1'), (7, Value.int .u8 ((s.getD i_1'.toNat 0).toNat : Int))] _ ?_) ⟨rfl, rfl, rfl, rfl, trivial⟩
      refine wc_seq (fun K0_143' hK_143' => ?_)
      refine wc_region ?_
      refine WL.val (OV.move rfl) rfl rfl rfl ?_
      refine WL.val (OV.build rfl (cs := [Value.int .i64 0, Value.int .i64 i_1', st []]) rfl) rfl rfl rfl ?_
      refine WL.make (MV.alloc tf_zero_40) rfl rfl rfl (fun b_4' => ?_)
      refine WL.storeW (vs := [Value.int .i64 0, Value.int .i64 i_1', st []]) 0 rfl rfl rfl rfl rfl tf_size_40 rfl rfl rfl ?_
      refine WL.nil ?_
      refine KX.go (hK_143' [(0, st s), (5, w_3'), (6, Value.int .i64 i_1'), (7, Value.int .u8 ((s.getD i_1'.toNat 0).toNat : Int)), (8, Value.pointer (some ⟨b_4', 0, none⟩))] _ ?_) ⟨rfl, rfl, rfl, rfl, rfl, trivial⟩
      refine wc_seq (fun K0_144' hK_144' => ?_)
      refine wc_region ?_
      refine WL.val (OV.move rfl) rfl rfl rfl ?_
      obtain ⟨o_134', h⟩ := h
      refine WL.val (OV.add rfl rfl o_134') rfl rfl rfl ?_
      refine WL.val (OV.assign rfl) rfl rfl rfl ?_
      refine WL.val (OV.assign rfl) rfl rfl rfl ?_
      refine WL.val (OV.assign rfl) rfl rfl rfl ?_
      refine WL.nil ?_
      refine KX.go (hK_144' [(0, st s), (5, w_3'), (6, Value.int .i64 i_1'), (7, Value.int .u8 ((s.getD i_1'.toNat 0).toNat : Int)), (8, Value.pointer (some ⟨b_4', 0, none⟩)), (9, Value.int .i64 (i_1' + 1)), (10, Value.int .i64 0), (11, Value.int .i64 0)] _ ?_) ⟨rfl, rfl, rfl, rfl, rfl, rfl, rfl, rfl, trivial⟩
      obtain ⟨J0_2', hJ_2', h⟩ := h
      refine wc_seqJ (X := Int × Int × Int × Int × (List UInt8)) (fun σ => J0_2' σ.1 σ.2.1 σ.2.2.1 σ.2.2.2.1 σ.2.2.2.2) (fun σ => [(0, st s), (5, w_3'), (8, Value.pointer (some ⟨b_4', 0, none⟩)), (9, Value.int .i64 σ.1), (10, Value.int .i64 σ.2.1), (11, Value.int .i64 σ.2.2.1)]) (fun σ => [HA.blk b_4' (.cells [Value.int .i64 σ.2.2.2.1, Value.int .i64 i_1', st σ.2.2.2.2].toArray 40 (0, 0)), HA.row w_3' 40 3 l_1'.length (l_1'.flatMap tokC)]) ?_ (fun K0_173' hK_173' => ?_)
      · rintro ⟨next_12', e_2', at0_2', t_0_2', t_2_2'⟩ hj
        replace h := hJ_2' next_12' e_2' at0_2' t_0_2' t_2_2' hj
        show WC _ _ _ _ [(0, st s), (5, w_3'), (8, Value.pointer (some ⟨b_4', 0, none⟩)), (9, Value.int .i64 next_12'), (10, Value.int .i64 e_2'), (11, Value.int .i64 at0_2')] [HA.blk b_4' (.cells [Value.int .i64 t_0_2', Value.int .i64 i_1', st t_2_2'].toArray 40 (0, 0)), HA.row w_3' 40 3 l_1'.length (l_1'.flatMap tokC)]
        refine wc_seq (fun K0_174' hK_174' => ?_)
        refine wc_seq (fun K0_175' hK_175' => ?_)
        refine wc_region ?_
        refine WL.val (OV.move rfl) rfl rfl rfl ?_
        refine WL.val (OV.neq rfl rfl) rfl rfl rfl ?_
        refine WL.nil ?_
        refine KX.go (hK_175' [(0, st s), (5, w_3'), (8, Value.pointer (some ⟨b_4', 0, none⟩)), (9, Value.int .i64 next_12'), (10, Value.int .i64 e_2'), (11, Value.int .i64 at0_2'), (114, Value.bool (!decide (e_2' = 0)))] _ ?_) ⟨rfl, rfl, rfl, rfl, rfl, rfl, rfl, trivial⟩
        refine wc_cond (b := !decide (e_2' = 0)) rfl (fun hb => ?_) (fun hb => ?_)
        · replace h := if_T h hb
          refine wc_seq (fun K0_176' hK_176' => ?_)
          refine wc_region ?_
          refine WL.val (OV.move rfl) rfl rfl rfl ?_
          refine WL.val (OV.move rfl) rfl rfl rfl ?_
          refine WL.val (OV.assign rfl) rfl rfl rfl ?_
          refine WL.nilRow 40 3 tokC ?_
          refine WL.val (OV.assign rfl) rfl rfl rfl ?_
          refine WL.val (OV.assign rfl) rfl rfl rfl ?_
          refine WL.nil ?_
          refine KX.go (hK_176' [(2, Value.slice none 0 0), (3, Value.int .i64 e_2'), (4, Value.int .i64 at0_2')] _ ?_) ⟨rfl, rfl, rfl, trivial⟩
          refine wc_ret ?_
          exact hE.ret [0] rfl rfl (.inl ⟨_, _, _, _, h, rfl⟩) (ResV.of3 rfl (RV.tmp rfl) (RV.tmp rfl) (RV.tmp rfl))
        · replace h := if_F h hb
          refine wc_skip ?_
          refine KX.go (hK_174' [(0, st s), (5, w_3'), (8, Value.pointer (some ⟨b_4', 0, none⟩)), (9, Value.int .i64 next_12')] _ ?_) ⟨rfl, rfl, rfl, rfl, trivial⟩
          refine wc_seq (fun K0_177' hK_177' => ?_)
          refine wc_region ?_
          refine WL.val (OV.move rfl) rfl rfl rfl ?_
          refine WL.val (OV.loadR rfl (At.own 0 rfl) tf_row_40) rfl rfl rfl ?_
          refine WL.make (MV.buildSlice (cs := [Value.int .i64 t_0_2', Value.int .i64 i_1', st t_2_2']) rfl tf_sl_23 (by kernel_rfl)) rfl rfl rfl (fun b_5' => ?_)
          obtain ⟨o_166', h⟩ := h
          refine WL.append (f := tokC) (ms := [(t_0_2', i_1', t_2_2')]) 2 0 rfl rfl rfl rfl rfl rfl tokC_len (by decide) rfl tf_sl_23 tf_info_40 rfl o_166' rfl rfl (fun w_4' => ?_)
          refine WL.val (OV.assign rfl) rfl rfl rfl ?_
          refine WL.nil ?_
          refine KX.go (hK_177' [(0, st s), (5, w_4'), (9, Value.int .i64 next_12')] _ ?_) ⟨rfl, rfl, rfl, trivial⟩
          refine wc_region ?_
          refine WL.val (OV.move rfl) rfl rfl rfl ?_
          refine WL.val (OV.move rfl) rfl rfl rfl ?_
          obtain ⟨o_167', h⟩ := h
          refine WL.call (A := []) tf_ent_17 rfl (gap_does s next_12' o_167') rfl trivial rfl rfl ?_
          refine WL.val (OV.assign rfl) rfl rfl rfl ?_
          refine WL.nil ?_
          exact KX.goH (hK_139' (gapM s next_12', w_4', l_1' ++ [(t_0_2', i_1', t_2_2')]) h.1 h.2) ⟨rfl, rfl, rfl, trivial⟩ [2] rfl rfl
      · skip
        refine wc_seq (fun K0_178' hK_178' => ?_)
        refine wc_region ?_
        refine WL.val (OV.move rfl) rfl rfl rfl ?_
        refine WL.call (A := []) tf_ent_18 rfl (refletter_does ((s.getD i_1'.toNat 0).toNat : Int)) rfl trivial rfl rfl ?_
        refine WL.nil ?_
        refine KX.go (hK_178' [(0, st s), (5, w_3'), (6, Value.int .i64 i_1'), (7, Value.int .u8 ((s.getD i_1'.toNat 0).toNat : Int)), (8, Value.pointer (some ⟨b_4', 0, none⟩)), (9, Value.int .i64 (i_1' + 1)), (10, Value.int .i64 0), (11, Value.int .i64 0), (29, Value.bool (letterB ((s.getD i_1'.toNat 0).toNat : Int)))] _ ?_) ⟨rfl, rfl, rfl, rfl, rfl, rfl, rfl, rfl, rfl, trivial⟩
        refine wc_cond (b := letterB ((s.getD i_1'.toNat 0).toNat : Int)) rfl (fun hb => ?_) (fun hb => ?_)
        · replace h := if_T h hb
          refine wc_seq (fun K0_179' hK_179' => ?_)
          refine wc_block ?_
          obtain ⟨Inv_6', mu_6', h0_6', hr_6'⟩ := h
          refine wc_loop (S := Int) (fun σ => Inv_6' σ) (fun σ => mu_6' σ) (fun σ => [(0, st s), (5, w_3'), (6, Value.int .i64 i_1'), (8, Value.pointer (some ⟨b_4', 0, none⟩)), (9, Value.int .i64 σ), (10, Value.int .i64 0), (11, Value.int .i64 0)]) (fun σ => [HA.blk b_4' (.cells [Value.int .i64 0, Value.int .i64 i_1', st []].toArray 40 (0, 0)), HA.row w_3' 40 3 l_1'.length (l_1'.flatMap tokC)]) (i_1' + 1) h0_6' ⟨rfl, rfl, rfl, rfl, rfl, rfl, rfl, trivial⟩ rfl ?_
          rintro next_14' hi K0_188' hK_188'
          have h := hr_6' next_14' hi
          show WC _ _ _ _ [(0, st s), (5, w_3'), (6, Value.int .i64 i_1'), (8, Value.pointer (some ⟨b_4', 0, none⟩)), (9, Value.int .i64 next_14'), (10, Value.int .i64 0), (11, Value.int .i64 0)] [HA.blk b_4' (.cells [Value.int .i64 0, Value.int .i64 i_1', st []].toArray 40 (0, 0)), HA.row w_3' 40 3 l_1'.length (l_1'.flatMap tokC)]
          refine wc_seq (fun K0_189' hK_189' => ?_)
          refine wc_seq (fun K0_190' hK_190' => ?_)
          refine wc_region ?_
          refine WL.val (OV.move rfl) rfl rfl rfl ?_
          refine WL.val (OV.move rfl) rfl rfl rfl ?_
          refine WL.val (OV.len rfl tf_str_9) rfl rfl rfl ?_
          refine WL.val (OV.lss rfl rfl) rfl rfl rfl ?_
          refine WL.val (OV.move rfl) rfl rfl rfl ?_
          obtain ⟨o_181', h⟩ := h
          refine WL.cut 11 [(0, st s), (5, w_3'), (6, Value.int .i64 i_1'), (8, Value.pointer (some ⟨b_4', 0, none⟩)), (9, Value.int .i64 next_14'), (10, Value.int .i64 0), (11, Value.int .i64 0), (45, Value.bool ((decide (next_14' < (s.length : Int))) && ((letterB ((s.getD next_14'.toNat 0).toNat : Int)) || (digitB ((s.getD next_14'.toNat 0).toNat : Int)))))] ?_ (fun K0_192' hK_192' => ?_)
          rotate_left
          · refine WL.split (decide (next_14' < (s.length : Int))) (fun hb => ?_) (fun hb => ?_)
            · obtain ⟨o_178', o_180'⟩ := o_181' hb
              refine WL.set 34 rfl (congrArg Value.bool hb) ?_
              refine WL.val (OV.move rfl) rfl rfl rfl ?_
              refine WL.val (OV.move rfl) rfl rfl rfl ?_
              refine WL.val (OV.index rfl rfl tf_str_9 o_178') rfl rfl rfl ?_
              refine WL.call (A := []) tf_ent_18 rfl (refletter_does ((s.getD next_14'.toNat 0).toNat : Int)) rfl trivial rfl rfl ?_
              refine WL.val (OV.move rfl) rfl rfl rfl ?_
              refine WL.cut 5 [(0, st s), (5, w_3'), (6, Value.int .i64 i_1'), (8, Value.pointer (some ⟨b_4', 0, none⟩)), (9, Value.int .i64 next_14'), (10, Value.int .i64 0), (11, Value.int .i64 0), (34, Value.bool true), (44, Value.bool ((letterB ((s.getD next_14'.toNat 0).toNat : Int)) || (digitB ((s.getD next_14'.toNat 0).toNat : Int))))] ?_ (fun K0_191' hK_191' => ?_)
              rotate_left
              · refine WL.split (letterB ((s.getD next_14'.toNat 0).toNat : Int)) (fun hb => ?_) (fun hb => ?_)
                · refine WL.set 39 rfl (congrArg Value.bool hb) ?_
                  refine WL.skip rfl rfl rfl ?_
                  refine WL.skip rfl rfl rfl ?_
                  refine WL.skip rfl rfl rfl ?_
                  refine WL.skip rfl rfl rfl ?_
                  refine WL.val (OV.pickT rfl rfl) rfl rfl rfl ?_
                  refine WL.set 44 rfl (oT (v := digitB ((s.getD next_14'.toNat 0).toNat : Int)) hb) ?_
                  exact WL.end_ (KX.go hK_191' ⟨rfl, rfl, rfl, rfl, rfl, rfl, rfl, rfl, rfl, trivial⟩)
                · have o_179' := o_180' hb
                  refine WL.set 39 rfl (congrArg Value.bool hb) ?_
                  refine WL.val (OV.move rfl) rfl rfl rfl ?_
                  refine WL.val (OV.move rfl) rfl rfl rfl ?_
                  refine WL.val (OV.index rfl rfl tf_str_9 o_179') rfl rfl rfl ?_
                  refine WL.call (A := []) tf_ent_19 rfl (refdigit_does ((s.getD next_14'.toNat 0).toNat : Int)) rfl trivial rfl rfl ?_
                  refine WL.val (OV.pickF rfl rfl) rfl rfl rfl ?_
                  refine WL.set 44 rfl (oF (v := digitB ((s.getD next_14'.toNat 0).toNat : Int)) hb) ?_
                  exact WL.end_ (KX.go hK_191' ⟨rfl, rfl, rfl, rfl, rfl, rfl, rfl, rfl, rfl, trivial⟩)
              refine WL.val (OV.pickT rfl rfl) rfl rfl rfl ?_
              refine WL.set 45 rfl (bT (v := (letterB ((s.getD next_14'.toNat 0).toNat : Int)) || (digitB ((s.getD next_14'.toNat 0).toNat : Int))) hb) ?_
              exact WL.end_ (KX.go hK_192' ⟨rfl, rfl, rfl, rfl, rfl, rfl, rfl, rfl, trivial⟩)
            · refine WL.set 34 rfl (congrArg Value.bool hb) ?_
              refine WL.skip rfl rfl rfl ?_
              refine WL.skip rfl rfl rfl ?_
              refine WL.skip rfl rfl rfl ?_
              refine WL.skip rfl rfl rfl ?_
              refine WL.skip rfl rfl rfl ?_
              refine WL.skip rfl rfl rfl ?_
              refine WL.skip rfl rfl rfl ?_
              refine WL.skip rfl rfl rfl ?_
              refine WL.skip rfl rfl rfl ?_
              refine WL.skip rfl rfl rfl ?_
              refine WL.val (OV.pickF rfl rfl) rfl rfl rfl ?_
              refine WL.set 45 rfl (bF (v := (letterB ((s.getD next_14'.toNat 0).toNat : Int)) || (digitB ((s.getD next_14'.toNat 0).toNat : Int))) hb) ?_
              exact WL.end_ (KX.go hK_192' ⟨rfl, rfl, rfl, rfl, rfl, rfl, rfl, rfl, trivial⟩)
          refine WL.nil ?_
          refine KX.go (hK_190' [(0, st s), (5, w_3'), (6, Value.int .i64 i_1'), (8, Value.pointer (some ⟨b_4', 0, none⟩)), (9, Value.int .i64 next_14'), (10, Value.int .i64 0), (11, Value.int .i64 0), (45, Value.bool ((decide (next_14' < (s.length : Int))) && ((letterB ((s.getD next_14'.toNat 0).toNat : Int)) || (digitB ((s.getD next_14'.toNat 0).toNat : Int)))))] _ ?_) ⟨rfl, rfl, rfl, rfl, rfl, rfl, rfl, rfl, trivial⟩
          refine wc_cond (b := (decide (next_14' < (s.length : Int))) && ((letterB ((s.getD next_14'.toNat 0).toNat : Int)) || (digitB ((s.getD next_14'.toNat 0).toNat : Int)))) rfl (fun hb => ?_) (fun hb => ?_)
          · replace h := if_T h hb
            refine wc_skip ?_
            refine KX.go (hK_189' [(0, st s), (5, w_3'), (6, Value.int .i64 i_1'), (8, Value.pointer (some ⟨b_4', 0, none⟩)), (9, Value.int .i64 next_14'), (10, Value.int .i64 0), (11, Value.int .i64 0)] _ ?_) ⟨rfl, rfl, rfl, rfl, rfl, rfl, rfl, trivial⟩
            refine wc_block ?_
            refine wc_region ?_
            refine WL.val (OV.move rfl) rfl rfl rfl ?_
            obtain ⟨o_182', h⟩ := h
            refine WL.val (OV.add rfl rfl o_182') rfl rfl rfl ?_
            refine WL.val (OV.assign rfl) rfl rfl rfl ?_
            refine WL.nil ?_
            exact KX.goH (hK_188' (next_14' + 1) h.1 h.2) ⟨rfl, rfl, rfl, rfl, rfl, rfl, rfl, trivial⟩ [0, 1] rfl rfl
          · replace h := if_F h hb
            refine wc_exit ?_
            refine KX.go (hK_179' [(0, st s), (5, w_3'), (6, Value.int .i64 i_1'), (8, Value.pointer (some ⟨b_4', 0, none⟩)), (9, Value.int .i64 next_14'), (10, Value.int .i64 0), (11, Value.int .i64 0)] _ ?_) ⟨rfl, rfl, rfl, rfl, rfl, rfl, rfl, trivial⟩
            refine wc_seq (fun K0_193' hK_193' => ?_)
            refine wc_seq (fun K0_194' hK_194' => ?_)
            refine wc_region ?_
            refine WL.val (OV.move rfl) rfl rfl rfl ?_
            refine WL.val (OV.move rfl) rfl rfl rfl ?_
            obtain ⟨o_183', h⟩ := h
            refine WL.val (OV.sub rfl rfl o_183') rfl rfl rfl ?_
            refine WL.val (OV.gtr rfl rfl) rfl rfl rfl ?_
            refine WL.nil ?_
            refine KX.go (hK_194' [(0, st s), (5, w_3'), (6, Value.int .i64 i_1'), (8, Value.pointer (some ⟨b_4', 0, none⟩)), (9, Value.int .i64 next_14'), (10, Value.int .i64 0), (11, Value.int .i64 0), (51, Value.bool (decide (32 < next_14' - i_1')))] _ ?_) ⟨rfl, rfl, rfl, rfl, rfl, rfl, rfl, rfl, trivial⟩
            refine wc_cond (b := decide (32 < next_14' - i_1')) rfl (fun hb => ?_) (fun hb => ?_)
            · replace h := if_T h hb
              refine wc_seq (fun K0_195' hK_195' => ?_)
              refine wc_region ?_
              refine WL.val (OV.move rfl) rfl rfl rfl ?_
              refine WL.val (OV.assign rfl) rfl rfl rfl ?_
              refine WL.nilRow 40 3 tokC ?_
              refine WL.val (OV.assign rfl) rfl rfl rfl ?_
              refine WL.val (OV.assign rfl) rfl rfl rfl ?_
              refine WL.nil ?_
              refine KX.go (hK_195' [(2, Value.slice none 0 0), (3, Value.int .i64 1), (4, Value.int .i64 i_1')] _ ?_) ⟨rfl, rfl, rfl, trivial⟩
              refine wc_ret ?_
              exact hE.ret [0] rfl rfl (.inl ⟨_, _, _, _, h, rfl⟩) (ResV.of3 rfl (RV.tmp rfl) (RV.tmp rfl) (RV.tmp rfl))
            · replace h := if_F h hb
              refine wc_skip ?_
              refine KX.go (hK_193' [(0, st s), (5, w_3'), (6, Value.int .i64 i_1'), (8, Value.pointer (some ⟨b_4', 0, none⟩)), (9, Value.int .i64 next_14'), (10, Value.int .i64 0), (11, Value.int .i64 0)] _ ?_) ⟨rfl, rfl, rfl, rfl, rfl, rfl, rfl, trivial⟩
              refine wc_drawT 5 [1] [HA.row w_3' 40 3 l_1'.length (l_1'.flatMap tokC)] rfl rfl tf_mixed (by kernel_rfl) (fun T_10' hT_10' => ?_)
              refine TW.val (OV.move rfl) rfl rfl rfl ?_
              refine TW.val (OV.move rfl) rfl rfl rfl ?_
              refine TW.val (OV.move rfl) rfl rfl rfl ?_
              obtain ⟨o_185', h⟩ := h
              refine TW.val (OV.sliceS rfl rfl rfl tf_str_9 o_185') rfl rfl rfl ?_
              refine TW.val (OV.fieldAddr0 rfl tf_field_40_0) rfl rfl rfl ?_
              refine TW.nil (hT_10' _ ?_)
              refine WLK.op [1] rfl rfl (OpK.store (vs := [Value.int .i64 1]) (cs' := [Value.int .i64 1, Value.int .i64 i_1', st []]) 0 rfl rfl rfl rfl tf_size_3 (Nat.le_of_ble_eq_true rfl) rfl rfl) rfl ?_
              refine WLK.op [1] rfl rfl (OpK.val (OV.fieldAddr0 rfl tf_field_40_2) rfl rfl) rfl ?_
              refine WLK.op [1] rfl rfl (OpK.store (vs := [st ((s.drop i_1'.toNat).take (next_14'.toNat - i_1'.toNat))]) (cs' := [Value.int .i64 1, Value.int .i64 i_1', st ((s.drop i_1'.toNat).take (next_14'.toNat - i_1'.toNat))]) 0 rfl rfl rfl rfl tf_size_9 (Nat.le_of_ble_eq_true rfl) rfl rfl) rfl ?_
              refine WLK.nil ?_
              exact KX.goH (hK_173' (next_14', 0, 0, 1, (s.drop i_1'.toNat).take (next_14'.toNat - i_1'.toNat)) h) ⟨rfl, rfl, rfl, rfl, rfl, rfl, trivial⟩ [0, 1] rfl rfl
        · replace h := if_F h hb
          refine wc_seq (fun K0_196' hK_196' => ?_)
          refine wc_region ?_
          refine WL.val (OV.move rfl) rfl rfl rfl ?_
          refine WL.val (OV.eql rfl rfl) rfl rfl rfl ?_
          refine WL.nil ?_
          refine KX.go (hK_196' [(0, st s), (5, w_3'), (6, Value.int .i64 i_1'), (7, Value.int .u8 ((s.getD i_1'.toNat 0).toNat : Int)), (8, Value.pointer (some ⟨b_4', 0, none⟩)), (9, Value.int .i64 (i_1' + 1)), (10, Value.int .i64 0), (11, Value.int .i64 0), (60, Value.bool (decide (((s.getD i_1'.toNat 0).toNat : Int) = 34)))] _ ?_) ⟨rfl, rfl, rfl, rfl, rfl, rfl, rfl, rfl, rfl, trivial⟩
          refine wc_cond (b := decide (((s.getD i_1'.toNat 0).toNat : Int) = 34)) rfl (fun hb => ?_) (fun hb => ?_)
          · replace h := if_T h hb
            refine wc_seq (fun K0_197' hK_197' => ?_)
            refine wc_region ?_
            refine WL.val (OV.fieldAddr0 rfl tf_field_40_0) rfl rfl rfl ?_
            refine WL.store (vs := [Value.int .i64 2]) (cs' := [Value.int .i64 2, Value.int .i64 i_1', st []]) 0 rfl rfl rfl rfl tf_size_3 (Nat.le_of_ble_eq_true rfl) rfl rfl rfl ?_
            refine WL.nil ?_
            refine KX.go (hK_197' [(0, st s), (5, w_3'), (6, Value.int .i64 i_1'), (8, Value.pointer (some ⟨b_4', 0, none⟩))] _ ?_) ⟨rfl, rfl, rfl, rfl, trivial⟩
            refine wc_region ?_
            refine WL.val (OV.move rfl) rfl rfl rfl ?_
            refine WL.val (OV.move rfl) rfl rfl rfl ?_
            obtain ⟨o_186', h⟩ := h
            refine WL.call (A := []) tf_ent_20 rfl (refquoted_does s i_1' o_186') rfl trivial rfl rfl ?_
            refine WL.val (OV.move rfl) rfl rfl rfl ?_
            refine WL.val (OV.extract 0 rfl rfl) rfl rfl rfl ?_
            refine WL.val (OV.extract 1 rfl rfl) rfl rfl rfl ?_
            refine WL.val (OV.extract 2 rfl rfl) rfl rfl rfl ?_
            refine WL.val (OV.extract 3 rfl rfl) rfl rfl rfl ?_
            refine WL.val (OV.fieldAddr0 rfl tf_field_40_2) rfl rfl rfl ?_
            refine WL.store (vs := [st ((rqM s i_1').1)]) (cs' := [Value.int .i64 2, Value.int .i64 i_1', st ((rqM s i_1').1)]) 0 rfl rfl rfl rfl tf_size_9 (Nat.le_of_ble_eq_true rfl) rfl rfl rfl ?_
            refine WL.val (OV.assign rfl) rfl rfl rfl ?_
            refine WL.val (OV.assign rfl) rfl rfl rfl ?_
            refine WL.val (OV.assign rfl) rfl rfl rfl ?_
            refine WL.nil ?_
            exact KX.goH (hK_173' ((rqM s i_1').2.1, (rqM s i_1').2.2.1, (rqM s i_1').2.2.2, 2, (rqM s i_1').1) h) ⟨rfl, rfl, rfl, rfl, rfl, rfl, trivial⟩ [0, 1] rfl rfl
          · replace h := if_F h hb
            refine wc_seq (fun K0_198' hK_198' => ?_)
            refine wc_region ?_
            refine WL.val (OV.move rfl) rfl rfl rfl ?_
            refine WL.val (OV.eql rfl rfl) rfl rfl rfl ?_
            refine WL.nil ?_
            refine KX.go (hK_198' [(0, st s), (5, w_3'), (6, Value.int .i64 i_1'), (7, Value.int .u8 ((s.getD i_1'.toNat 0).toNat : Int)), (8, Value.pointer (some ⟨b_4', 0, none⟩)), (9, Value.int .i64 (i_1' + 1)), (10, Value.int .i64 0), (11, Value.int .i64 0), (72, Value.bool (decide (((s.getD i_1'.toNat 0).toNat : Int) = 47)))] _ ?_) ⟨rfl, rfl, rfl, rfl, rfl, rfl, rfl, rfl, rfl, trivial⟩
            refine wc_cond (b := decide (((s.getD i_1'.toNat 0).toNat : Int) = 47)) rfl (fun hb => ?_) (fun hb => ?_)
            · replace h := if_T h hb
              refine wc_seq (fun K0_199' hK_199' => ?_)
              refine wc_region ?_
              refine WL.val (OV.fieldAddr0 rfl tf_field_40_0) rfl rfl rfl ?_
              refine WL.store (vs := [Value.int .i64 3]) (cs' := [Value.int .i64 3, Value.int .i64 i_1', st []]) 0 rfl rfl rfl rfl tf_size_3 (Nat.le_of_ble_eq_true rfl) rfl rfl rfl ?_
              refine WL.nil ?_
              refine KX.go (hK_199' [(0, st s), (5, w_3'), (6, Value.int .i64 i_1'), (8, Value.pointer (some ⟨b_4', 0, none⟩))] _ ?_) ⟨rfl, rfl, rfl, rfl, trivial⟩
              refine wc_region ?_
              refine WL.val (OV.move rfl) rfl rfl rfl ?_
              refine WL.val (OV.move rfl) rfl rfl rfl ?_
              obtain ⟨o_187', h⟩ := h
              refine WL.call (A := []) tf_ent_21 rfl (refregex_does s i_1' o_187') rfl trivial rfl rfl ?_
              refine WL.val (OV.move rfl) rfl rfl rfl ?_
              refine WL.val (OV.extract 0 rfl rfl) rfl rfl rfl ?_
              refine WL.val (OV.extract 1 rfl rfl) rfl rfl rfl ?_
              refine WL.val (OV.extract 2 rfl rfl) rfl rfl rfl ?_
              refine WL.val (OV.extract 3 rfl rfl) rfl rfl rfl ?_
              refine WL.val (OV.fieldAddr0 rfl tf_field_40_2) rfl rfl rfl ?_
              refine WL.store (vs := [st ((rrM s i_1').1)]) (cs' := [Value.int .i64 3, Value.int .i64 i_1', st ((rrM s i_1').1)]) 0 rfl rfl rfl rfl tf_size_9 (Nat.le_of_ble_eq_true rfl) rfl rfl rfl ?_
              refine WL.val (OV.assign rfl) rfl rfl rfl ?_
              refine WL.val (OV.assign rfl) rfl rfl rfl ?_
              refine WL.val (OV.assign rfl) rfl rfl rfl ?_
              refine WL.nil ?_
              exact KX.goH (hK_173' ((rrM s i_1').2.1, (rrM s i_1').2.2.1, (rrM s i_1').2.2.2, 3, (rrM s i_1').1) h) ⟨rfl, rfl, rfl, rfl, rfl, rfl, trivial⟩ [0, 1] rfl rfl
            · replace h := if_F h hb
              refine wc_seq (fun K0_200' hK_200' => ?_)
              refine wc_region ?_
              refine WL.val (OV.move rfl) rfl rfl rfl ?_
              obtain ⟨o_188', h⟩ := h
              refine WL.call (A := []) tf_ent_22 rfl (mark_does ((s.getD i_1'.toNat 0).toNat : Int) o_188') rfl trivial rfl rfl ?_
              refine WL.nil ?_
              refine KX.go (hK_200' [(0, st s), (5, w_3'), (6, Value.int .i64 i_1'), (7, Value.int .u8 ((s.getD i_1'.toNat 0).toNat : Int)), (8, Value.pointer (some ⟨b_4', 0, none⟩)), (9, Value.int .i64 (i_1' + 1)), (10, Value.int .i64 0), (11, Value.int .i64 0), (84, Value.bool (marksL.contains (((s.getD i_1'.toNat 0).toNat : Int)).toNat.toUInt8))] _ ?_) ⟨rfl, rfl, rfl, rfl, rfl, rfl, rfl, rfl, rfl, trivial⟩
              refine wc_cond (b := marksL.contains (((s.getD i_1'.toNat 0).toNat : Int)).toNat.toUInt8) rfl (fun hb => ?_) (fun hb => ?_)
              · replace h := if_T h hb
                refine wc_drawT 6 [1] [HA.row w_3' 40 3 l_1'.length (l_1'.flatMap tokC)] rfl rfl tf_mixed (by kernel_rfl) (fun T_11' hT_11' => ?_)
                refine TW.val (OV.move rfl) rfl rfl rfl ?_
                refine TW.val (OV.move rfl) rfl rfl rfl ?_
                refine TW.val (OV.move rfl) rfl rfl rfl ?_
                obtain ⟨o_191', h⟩ := h
                refine TW.val (OV.add rfl rfl o_191') rfl rfl rfl ?_
                obtain ⟨o_192', h⟩ := h
                refine TW.val (OV.sliceS rfl rfl rfl tf_str_9 o_192') rfl rfl rfl ?_
                refine TW.val (OV.fieldAddr0 rfl tf_field_40_0) rfl rfl rfl ?_
                refine TW.nil (hT_11' _ ?_)
                refine WLK.op [1] rfl rfl (OpK.store (vs := [Value.int .i64 4]) (cs' := [Value.int .i64 4, Value.int .i64 i_1', st []]) 0 rfl rfl rfl rfl tf_size_3 (Nat.le_of_ble_eq_true rfl) rfl rfl) rfl ?_
                refine WLK.op [1] rfl rfl (OpK.val (OV.fieldAddr0 rfl tf_field_40_2) rfl rfl) rfl ?_
                refine WLK.op [1] rfl rfl (OpK.store (vs := [st ((s.drop i_1'.toNat).take ((i_1' + 1).toNat - i_1'.toNat))]) (cs' := [Value.int .i64 4, Value.int .i64 i_1', st ((s.drop i_1'.toNat).take ((i_1' + 1).toNat - i_1'.toNat))]) 0 rfl rfl rfl rfl tf_size_9 (Nat.le_of_ble_eq_true rfl) rfl rfl) rfl ?_
                refine WLK.nil ?_
                exact KX.goH (hK_173' (i_1' + 1, 0, 0, 4, (s.drop i_1'.toNat).take ((i_1' + 1).toNat - i_1'.toNat)) h) ⟨rfl, rfl, rfl, rfl, rfl, rfl, trivial⟩ [0, 1] rfl rfl
              · replace h := if_F h hb
                refine wc_seq (fun K0_201' hK_201' => ?_)
                refine wc_region ?_
                refine WL.val (OV.move rfl) rfl rfl rfl ?_
                refine WL.val (OV.eql rfl rfl) rfl rfl rfl ?_
                refine WL.val (OV.move rfl) rfl rfl rfl ?_
                obtain ⟨o_194', h⟩ := h
                refine WL.cut 6 [(0, st s), (5, w_3'), (6, Value.int .i64 i_1'), (8, Value.pointer (some ⟨b_4', 0, none⟩)), (10, Value.int .i64 0), (11, Value.int .i64 0), (100, Value.bool ((decide (((s.getD i_1'.toNat 0).toNat : Int) = 62)) && (decide (i_1' + 1 < (s.length : Int)))))] ?_ (fun K0_202' hK_202' => ?_)
                rotate_left
                · refine WL.split (decide (((s.getD i_1'.toNat 0).toNat : Int) = 62)) (fun hb => ?_) (fun hb => ?_)
                  · have o_193' := o_194' hb
                    refine WL.set 94 rfl (congrArg Value.bool hb) ?_
                    refine WL.val (OV.move rfl) rfl rfl rfl ?_
                    refine WL.val (OV.add rfl rfl o_193') rfl rfl rfl ?_
                    refine WL.val (OV.move rfl) rfl rfl rfl ?_
                    refine WL.val (OV.len rfl tf_str_9) rfl rfl rfl ?_
                    refine WL.val (OV.lss rfl rfl) rfl rfl rfl ?_
                    refine WL.val (OV.pickT rfl rfl) rfl rfl rfl ?_
                    refine WL.set 100 rfl (bT (v := decide (i_1' + 1 < (s.length : Int))) hb) ?_
                    exact WL.end_ (KX.go hK_202' ⟨rfl, rfl, rfl, rfl, rfl, rfl, rfl, trivial⟩)
                  · refine WL.set 94 rfl (congrArg Value.bool hb) ?_
                    refine WL.skip rfl rfl rfl ?_
                    refine WL.skip rfl rfl rfl ?_
                    refine WL.skip rfl rfl rfl ?_
                    refine WL.skip rfl rfl rfl ?_
                    refine WL.skip rfl rfl rfl ?_
                    refine WL.val (OV.pickF rfl rfl) rfl rfl rfl ?_
                    refine WL.set 100 rfl (bF (v := decide (i_1' + 1 < (s.length : Int))) hb) ?_
                    exact WL.end_ (KX.go hK_202' ⟨rfl, rfl, rfl, rfl, rfl, rfl, rfl, trivial⟩)
                refine WL.val (OV.move rfl) rfl rfl rfl ?_
                obtain ⟨o_197', h⟩ := h
                refine WL.cut 6 [(0, st s), (5, w_3'), (6, Value.int .i64 i_1'), (8, Value.pointer (some ⟨b_4', 0, none⟩)), (10, Value.int .i64 0), (11, Value.int .i64 0), (107, Value.bool (((decide (((s.getD i_1'.toNat 0).toNat : Int) = 62)) && (decide (i_1' + 1 < (s.length : Int)))) && (decide (((s.getD (i_1' + 1).toNat 0).toNat : Int) = 62))))] ?_ (fun K0_203' hK_203' => ?_)
                rotate_left
                · refine WL.split ((decide (((s.getD i_1'.toNat 0).toNat : Int) = 62)) && (decide (i_1' + 1 < (s.length : Int)))) (fun hb => ?_) (fun hb => ?_)
                  · obtain ⟨o_195', o_196'⟩ := o_197' hb
                    refine WL.set 101 rfl (congrArg Value.bool hb) ?_
                    refine WL.val (OV.move rfl) rfl rfl rfl ?_
                    refine WL.val (OV.move rfl) rfl rfl rfl ?_
                    refine WL.val (OV.add rfl rfl o_195') rfl rfl rfl ?_
                    refine WL.val (OV.index rfl rfl tf_str_9 o_196') rfl rfl rfl ?_
                    refine WL.val (OV.eql rfl rfl) rfl rfl rfl ?_
                    refine WL.val (OV.pickT rfl rfl) rfl rfl rfl ?_
                    refine WL.set 107 rfl (bT (v := decide (((s.getD (i_1' + 1).toNat 0).toNat : Int) = 62)) hb) ?_
                    exact WL.end_ (KX.go hK_203' ⟨rfl, rfl, rfl, rfl, rfl, rfl, rfl, trivial⟩)
                  · refine WL.set 101 rfl (congrArg Value.bool hb) ?_
                    refine WL.skip rfl rfl rfl ?_
                    refine WL.skip rfl rfl rfl ?_
                    refine WL.skip rfl rfl rfl ?_
                    refine WL.skip rfl rfl rfl ?_
                    refine WL.skip rfl rfl rfl ?_
                    refine WL.val (OV.pickF rfl rfl) rfl rfl rfl ?_
                    refine WL.set 107 rfl (bF (v := decide (((s.getD (i_1' + 1).toNat 0).toNat : Int) = 62)) hb) ?_
                    exact WL.end_ (KX.go hK_203' ⟨rfl, rfl, rfl, rfl, rfl, rfl, rfl, trivial⟩)
                refine WL.nil ?_
                refine KX.go (hK_201' [(0, st s), (5, w_3'), (6, Value.int .i64 i_1'), (8, Value.pointer (some ⟨b_4', 0, none⟩)), (10, Value.int .i64 0), (11, Value.int .i64 0), (107, Value.bool (((decide (((s.getD i_1'.toNat 0).toNat : Int) = 62)) && (decide (i_1' + 1 < (s.length : Int)))) && (decide (((s.getD (i_1' + 1).toNat 0).toNat : Int) = 62))))] _ ?_) ⟨rfl, rfl, rfl, rfl, rfl, rfl, rfl, trivial⟩
                refine wc_cond (b := ((decide (((s.getD i_1'.toNat 0).toNat : Int) = 62)) && (decide (i_1' + 1 < (s.length : Int)))) && (decide (((s.getD (i_1' + 1).toNat 0).toNat : Int) = 62))) rfl (fun hb => ?_) (fun hb => ?_)
                · replace h := if_T h hb
                  refine wc_seq (fun K0_204' hK_204' => ?_)
                  refine wc_region ?_
                  refine WL.val (OV.move rfl) rfl rfl rfl ?_
                  obtain ⟨o_198', h⟩ := h
                  refine WL.val (OV.add rfl rfl o_198') rfl rfl rfl ?_
                  refine WL.val (OV.assign rfl) rfl rfl rfl ?_
                  refine WL.nil ?_
                  refine KX.go (hK_204' [(0, st s), (5, w_3'), (8, Value.pointer (some ⟨b_4', 0, none⟩)), (9, Value.int .i64 (i_1' + 2)), (10, Value.int .i64 0), (11, Value.int .i64 0)] _ ?_) ⟨rfl, rfl, rfl, rfl, rfl, rfl, trivial⟩
                  refine wc_region ?_
                  refine WL.val (OV.fieldAddr0 rfl tf_field_40_0) rfl rfl rfl ?_
                  refine WL.store (vs := [Value.int .i64 4]) (cs' := [Value.int .i64 4, Value.int .i64 i_1', st []]) 0 rfl rfl rfl rfl tf_size_3 (Nat.le_of_ble_eq_true rfl) rfl rfl rfl ?_
                  refine WL.val (OV.fieldAddr0 rfl tf_field_40_2) rfl rfl rfl ?_
                  refine WL.store (vs := [st ([62, 62] : List UInt8)]) (cs' := [Value.int .i64 4, Value.int .i64 i_1', st ([62, 62] : List UInt8)]) 0 rfl rfl rfl rfl tf_size_9 (Nat.le_of_ble_eq_true rfl) rfl rfl rfl ?_
                  refine WL.nil ?_
                  exact KX.goH (hK_173' (i_1' + 2, 0, 0, 4, ([62, 62] : List UInt8)) h) ⟨rfl, rfl, rfl, rfl, rfl, rfl, trivial⟩ [0, 1] rfl rfl
                · replace h := if_F h hb
                  refine wc_seq (fun K0_205' hK_205' => ?_)
                  refine wc_region ?_
                  refine WL.val (OV.move rfl) rfl rfl rfl ?_
                  refine WL.val (OV.assign rfl) rfl rfl rfl ?_
                  refine WL.nilRow 40 3 tokC ?_
                  refine WL.val (OV.assign rfl) rfl rfl rfl ?_
                  refine WL.val (OV.assign rfl) rfl rfl rfl ?_
                  refine WL.nil ?_
                  refine KX.go (hK_205' [(2, Value.slice none 0 0), (3, Value.int .i64 50), (4, Value.int .i64 i_1')] _ ?_) ⟨rfl, rfl, rfl, trivial⟩
                  refine wc_ret ?_
                  exact hE.ret [0] rfl rfl (.inl ⟨_, _, _, _, h, rfl⟩) (ResV.of3 rfl (RV.tmp rfl) (RV.tmp rfl) (RV.tmp rfl))
    · replace h := if_F h hb
      refine wc_exit ?_
      refine KX.go (hK_6' [(0, st s), (5, w_3')] _ ?_) ⟨rfl, rfl, trivial⟩
      refine wc_seq (fun K0_206' hK_206' => ?_)
      refine wc_region ?_
      refine WL.val (OV.move rfl) rfl rfl rfl ?_
      refine WL.val (OV.move rfl) rfl rfl rfl ?_
      refine WL.val (OV.len rfl tf_str_9) rfl rfl rfl ?_
      refine WL.val (OV.build rfl (cs := [Value.int .i64 0, Value.int .i64 (s.length : Int), st []]) rfl) rfl rfl rfl ?_
      refine WL.make (MV.buildSlice (cs := [Value.int .i64 0, Value.int .i64 (s.length : Int), st []]) rfl tf_sl_23 (by kernel_rfl)) rfl rfl rfl (fun b_6' => ?_)
      obtain ⟨o_199', h⟩ := h
      refine WL.append (f := tokC) (ms := [(0, (s.length : Int), ([] : List UInt8))]) 1 0 rfl rfl rfl rfl rfl rfl tokC_len (by decide) rfl tf_sl_23 tf_info_40 rfl o_199' rfl rfl (fun w_5' => ?_)
      refine WL.val (OV.assign rfl) rfl rfl rfl ?_
      refine WL.val (OV.assign rfl) rfl rfl rfl ?_
      refine WL.val (OV.assign rfl) rfl rfl rfl ?_
      refine WL.nil ?_
      refine KX.go (hK_206' [(2, w_5'), (3, Value.int .i64 0), (4, Value.int .i64 0)] _ ?_) ⟨rfl, rfl, rfl, trivial⟩
      refine wc_ret ?_
      exact hE.ret [1] rfl rfl (.inl ⟨_, _, _, _, h, rfl⟩) (ResV.of3 rfl (RV.tmp rfl) (RV.tmp rfl) (RV.tmp rfl))

theorem quotedF_err {t : List UInt8} {fr : Int} : ∀ {n : Nat} {out : List UInt8} {k : Int} {e p : Int}, quotedF t fr n out k = .error (e, p) → e ≠ 0
  | 0, _, _, _, _, h => by rw [quotedF] at h; simp only [Except.error.injEq, Prod.mk.injEq] at h; omega
  | n + 1, out, k, e, p, h => by
    rw [quotedF] at h
    repeat' split at h
    all_goals first | (exact quotedF_err h) | (simp only [Except.error.injEq, Prod.mk.injEq] at h; omega) | cases h
theorem regexF_err {t : List UInt8} {fr : Int} : ∀ {n : Nat} {k : Int} {e p : Int}, regexF t fr n k = .error (e, p) → e ≠ 0
  | 0, _, _, _, h => by rw [regexF] at h; simp only [Except.error.injEq, Prod.mk.injEq] at h; omega
  | n + 1, k, e, p, h => by
    rw [regexF] at h
    repeat' split at h
    all_goals first | (exact regexF_err h) | (simp only [Except.error.injEq, Prod.mk.injEq] at h; omega) | cases h
def OneIs (t : List UInt8) (i next e p k : Int) (x : List UInt8) : Prop := if e = 0 then oneM t i = .ok ((k, i, x), next) else oneM t i = .error (e, p)
theorem OneIs.ok {t : List UInt8} {i next k : Int} {x : List UInt8} (h : oneM t i = .ok ((k, i, x), next)) : OneIs t i next 0 0 k x := by unfold OneIs; rw [if_pos rfl]; exact h
theorem one_quoted {t : List UInt8} {i : Int} (h : oneM t i = quotedM t i) : OneIs t i (rqM t i).2.1 (rqM t i).2.2.1 (rqM t i).2.2.2 2 (rqM t i).1 := by
  unfold OneIs rqM
  rw [h]
  unfold quotedM
  cases hq : quotedF t i (t.length + 1) [] (i + 1) with
  | ok r => simp [rOf]
  | error e =>
    have := quotedF_err (e := e.1) (p := e.2) hq
    simp [rOf, this]
theorem one_regex {t : List UInt8} {i : Int} (h : oneM t i = regexM t i) : OneIs t i (rrM t i).2.1 (rrM t i).2.2.1 (rrM t i).2.2.2 3 (rrM t i).1 := by
  unfold OneIs rrM
  rw [h]
  unfold regexM
  cases hq : regexF t i (t.length + 1) (i + 1) with
  | ok r => simp [rOf]
  | error e =>
    have := regexF_err (e := e.1) (p := e.2) hq
    simp [rOf, this]
theorem refscan_does (t : List UInt8) : Does Try.prog 10 [st t] [] [] (fun o => ∃ w : Value, o = .ret (.tuple #[w, .int .i64 (scanR t).2.1, .int .i64 (scanR t).2.2]) [HA.row w 40 3 (scanR t).1.length ((scanR t).1.flatMap tokC)]) := by
  refine (refscan_wp t (fun l c p => (l, c, p) = scanR t) ?_).weak ?_
  · unfold refscan_vc scanR
    by_cases h0 : 4096 < t.length
    · rw [if_pos (by simp; omega), if_pos h0]
    · rw [if_neg (by simp; omega), if_neg h0]
      have eb : ∀ i : Int, ((t.getD i.toNat 0).toNat : Int) = bt t i := fun _ => rfl
      simp only [eb]
      have hg0 := gapM_bd (t := t) (a := 0) ⟨by omega, by omega⟩
      refine ⟨⟨by omega, by omega, by omega⟩, fun a l => 0 ≤ a ∧ a ≤ t.length ∧ l.length ≤ a ∧ ∃ n, (t.length - a).toNat < n ∧ scanF t (t.length + 1) [] (gapM t 0) = scanF t n l a, fun a _ => (t.length - a).toNat, ⟨by omega, by omega, by simp; omega, t.length + 1, by omega, rfl⟩, ?_⟩
      rintro a l ⟨a0, a1, hl, n, hn, hF⟩
      obtain ⟨n, rfl⟩ : ∃ m, n = m + 1 := ⟨n - 1, by omega⟩
      by_cases ha : a < t.length
      · rw [if_pos (by simpa using ha)]
        have hb : 0 ≤ a ∧ a < t.length := ⟨a0, ha⟩
        have herr : ∀ e p, oneM t a = .error (e, p) → (([] : List Tok), e, p) = (match scanF t (t.length + 1) [] (gapM t 0) with | .ok l => (l, 0, 0) | .error (e, p) => ([], e, p)) := fun e p ho => by
          rw [hF, scanF, if_pos ha, ho]
        refine ⟨hb, ⟨by omega, by omega⟩, fun next e p k x => OneIs t a next e p k x, fun next e p k x hJ => ?_, ?_⟩
        · replace hJ : OneIs t a next e p k x := hJ
          unfold OneIs at hJ
          by_cases he : e = 0
          · rw [if_neg (by simp [he])]
            rw [if_pos he] at hJ
            have hq := oneM_ok hb hJ
            have hg := gapM_bd (t := t) (a := next) ⟨by omega, hq.2⟩
            refine ⟨⟨by omega, by omega⟩, ⟨by omega, hq.2, by omega⟩, ⟨by omega, hg.2, by simp; omega, n, by omega, ?_⟩, by show (t.length - gapM t next).toNat < (t.length - a).toNat; omega⟩
            rw [hF, scanF, if_pos ha, hJ]
          · rw [if_pos (by simpa using he)]
            rw [if_neg he] at hJ
            exact herr e p hJ
        · by_cases e1 : letterB (bt t a) = true
          · rw [if_pos e1]
            have hs0 := nameL_at hb
            rw [if_pos (by simp [e1])] at hs0
            refine ⟨fun q => a + 1 ≤ q ∧ q ≤ t.length ∧ q + nameL (t.drop q.toNat) = a + nameL (t.drop a.toNat), fun q => (t.length - q).toNat, ⟨Int.le_refl _, by omega, by omega⟩, ?_⟩
            rintro q ⟨q0, q1, hq⟩
            refine ⟨fun hh => ⟨⟨by omega, by simpa using hh⟩, fun _ => ⟨by omega, by simpa using hh⟩⟩, ?_⟩
            have hend : q = a + nameL (t.drop a.toNat) → (I64 (q - a)) ∧ (if decide (32 < q - a) = true then (([] : List Tok), (1 : Int), a) = (match scanF t (t.length + 1) [] (gapM t 0) with | .ok l => (l, 0, 0) | .error (e, p) => ([], e, p)) else (0 ≤ a ∧ a ≤ q ∧ q ≤ t.length) ∧ OneIs t a q 0 0 1 ((t.drop a.toNat).take (q.toNat - a.toNat))) := fun hqe => by
              refine ⟨⟨by omega, by omega⟩, ?_⟩
              by_cases e2 : 32 < q - a
              · rw [if_pos (by simpa using e2)]
                exact herr 1 a (by unfold oneM; rw [if_pos e1, if_pos (by omega)])
              · rw [if_neg (by simpa using e2)]
                refine ⟨⟨by omega, by omega, q1⟩, ?_⟩
                unfold OneIs oneM
                rw [if_pos rfl, if_pos e1, if_neg (by omega), ← hqe]; rfl
            by_cases hql : q < t.length
            · have hqb : 0 ≤ q ∧ q < t.length := ⟨by omega, hql⟩
              have hs := nameL_at hqb
              by_cases e3 : (letterB (bt t q) || digitB (bt t q)) = true
              · rw [if_pos (by rw [e3]; simpa using hql)]
                rw [if_pos e3] at hs
                exact ⟨⟨by omega, by omega⟩, ⟨by omega, by omega, by omega⟩, by show (t.length - (q + 1)).toNat < (t.length - q).toNat; omega⟩
              · rw [if_neg (by rw [Bool.eq_false_iff.2 e3]; simp)]
                rw [if_neg e3] at hs
                exact hend (by omega)
            · rw [if_neg (by simp; omega)]
              have := name_end (t := t) (p := q) (by omega)
              exact hend (by omega)
          · rw [if_neg e1]
            have hone : oneM t a = if bt t a = 34 then quotedM t a else if bt t a = 47 then regexM t a else if marksL.contains (bt t a).toNat.toUInt8 = true then .ok ((4, a, cut t a (a + 1)), a + 1) else if a + 1 < t.length ∧ bt t a = 62 ∧ bt t (a + 1) = 62 then .ok ((4, a, [62, 62]), a + 2) else .error (50, a) := by
              unfold oneM; rw [if_neg e1]
            by_cases e2 : bt t a = 34
            · rw [if_pos (by simpa using e2)]
              rw [if_pos e2] at hone
              exact ⟨⟨a0, ha, by omega⟩, one_quoted hone⟩
            · rw [if_neg (by simpa using e2)]
              rw [if_neg e2] at hone
              by_cases e3 : bt t a = 47
              · rw [if_pos (by simpa using e3)]
                rw [if_pos e3] at hone
                exact ⟨⟨a0, ha, by omega⟩, one_regex hone⟩
              · rw [if_neg (by simpa using e3)]
                rw [if_neg e3] at hone
                refine ⟨bt_bd t a, ?_⟩
                by_cases e4 : marksL.contains (bt t a).toNat.toUInt8 = true
                · rw [if_pos e4]
                  rw [if_pos e4] at hone
                  refine ⟨⟨by omega, by omega⟩, ⟨by omega, by omega, by omega⟩, ?_⟩
                  exact OneIs.ok hone
                · rw [if_neg e4]
                  rw [if_neg e4] at hone
                  refine ⟨fun _ => ⟨by omega, by omega⟩, fun hh => ⟨⟨by omega, by omega⟩, by omega, by simp at hh; omega⟩, ?_⟩
                  by_cases e5 : a + 1 < t.length ∧ bt t a = 62 ∧ bt t (a + 1) = 62
                  · rw [if_pos (by simp [e5.1, e5.2.1, e5.2.2])]
                    rw [if_pos e5] at hone
                    refine ⟨⟨by omega, by omega⟩, ?_⟩
                    exact OneIs.ok hone
                  · rw [if_neg (by simp; intro p1 p2 p3; exact e5 ⟨p2, p1, p3⟩)]
                    rw [if_neg e5] at hone
                    exact herr 50 a hone
      · rw [if_neg (by simpa using ha)]
        refine ⟨⟨by omega, by omega⟩, ?_⟩
        rw [hF, scanF, if_neg ha]
  · rintro o (⟨w, l, c, p, he, rfl⟩ | h)
    · rw [← he]; exact ⟨w, rfl⟩
    · exact h.elim

end Go.Proofs.Ytiaafdjdppganaa
