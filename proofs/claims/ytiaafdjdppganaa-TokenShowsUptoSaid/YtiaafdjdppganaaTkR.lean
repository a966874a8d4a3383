/-
  The document's reading of texts in quotes and of regular expressions.
-/
import Derived.Test.YtiaafdjdppganaaTkC
namespace Go.Proofs.Ytiaafdjdppganaa
open Go Go.RowKit

theorem tf_ent_30 : entB Try.prog 30 = true := by kernel_rfl
theorem tf_ent_31 : entB Try.prog 31 = true := by kernel_rfl

def rOf (m : Except (Int × Int) (Tok × Int)) : List UInt8 × Int × Int × Int := match m with
  | .ok (k, q) => (k.2.2, q, 0, 0)
  | .error (e, p) => ([], 0, e, p)
def rqM (t : List UInt8) (i : Int) : List UInt8 × Int × Int × Int := rOf (quotedM t i)
def rrM (t : List UInt8) (i : Int) : List UInt8 × Int × Int × Int := rOf (regexM t i)

def refquoted_vc (s : List UInt8) (i : Int) (K : (List UInt8) → Int → Int → Int → Prop) : Prop :=
  (I64 (i + 1)) ∧
  ∃ (Inv_4' : Int → (List UInt8) → Prop) (mu_4' : Int → (List UInt8) → Nat),
    Inv_4' (i + 1) [] ∧ ∀ (k_3' : Int) (l_3' : List UInt8), Inv_4' k_3' l_3' →
      (if (decide (k_3' < (s.length : Int))) = true then
        (0 ≤ k_3' ∧ k_3' < s.length) ∧
        (if (decide (((s.getD k_3'.toNat 0).toNat : Int) = 34)) = true then
          (I64 (k_3' + 1)) ∧
          K l_3' (k_3' + 1) 0 0
        else
          (if (!(printB ((s.getD k_3'.toNat 0).toNat : Int))) = true then
            K [] 0 50 k_3'
          else
            (if (!decide (((s.getD k_3'.toNat 0).toNat : Int) = 92)) = true then
              (((l_3'.length + 1) + (l_3'.length + 1) / 4 + 192) * 1 ≤ 281474976710656 ∧ l_3'.length + 1 ≤ 9223372036854775807) ∧
              (I64 (k_3' + 1)) ∧
              Inv_4' (k_3' + 1) (l_3' ++ [(s.getD k_3'.toNat 0)]) ∧ mu_4' (k_3' + 1) (l_3' ++ [(s.getD k_3'.toNat 0)]) < mu_4' k_3' l_3'
            else
              (I64 (k_3' + 1)) ∧
              (if (decide ((s.length : Int) ≤ k_3' + 1)) = true then
                K [] 0 51 i
              else
                ∃ (J0_7' : Int → (List UInt8) → Prop),
                  (∀ (k_4' : Int) (l_4' : List UInt8), J0_7' k_4' l_4' →
                    (I64 (k_4' + 2)) ∧
                    Inv_4' (k_4' + 2) l_4' ∧ mu_4' (k_4' + 2) l_4' < mu_4' k_3' l_3') ∧
                  (I64 (k_3' + 1)) ∧
                  (0 ≤ (k_3' + 1) ∧ (k_3' + 1) < s.length) ∧
                  (if (decide (((s.getD (k_3' + 1).toNat 0).toNat : Int) = 110)) = true then
                    (((l_3'.length + 1) + (l_3'.length + 1) / 4 + 192) * 1 ≤ 281474976710656 ∧ l_3'.length + 1 ≤ 9223372036854775807) ∧
                    J0_7' k_3' (l_3' ++ [10])
                  else
                    (if (decide (((s.getD (k_3' + 1).toNat 0).toNat : Int) = 114)) = true then
                      (((l_3'.length + 1) + (l_3'.length + 1) / 4 + 192) * 1 ≤ 281474976710656 ∧ l_3'.length + 1 ≤ 9223372036854775807) ∧
                      J0_7' k_3' (l_3' ++ [13])
                    else
                      (if (decide (((s.getD (k_3' + 1).toNat 0).toNat : Int) = 116)) = true then
                        (((l_3'.length + 1) + (l_3'.length + 1) / 4 + 192) * 1 ≤ 281474976710656 ∧ l_3'.length + 1 ≤ 9223372036854775807) ∧
                        J0_7' k_3' (l_3' ++ [9])
                      else
                        ∃ (J0_8' : Bool → Prop),
                          (∀ (t66_5' : Bool), J0_8' t66_5' →
                            (if t66_5' = true then
                              (I64 (k_3' + 1)) ∧
                              (0 ≤ (k_3' + 1) ∧ (k_3' + 1) < s.length) ∧
                              (((l_3'.length + 1) + (l_3'.length + 1) / 4 + 192) * 1 ≤ 281474976710656 ∧ l_3'.length + 1 ≤ 9223372036854775807) ∧
                              J0_7' k_3' (l_3' ++ [(s.getD (k_3' + 1).toNat 0)])
                            else
                              (if (decide (((s.getD (k_3' + 1).toNat 0).toNat : Int) = 120)) = true then
                                ∃ (Inv_6' : Int → Prop) (mu_6' : Int → Nat),
                                  Inv_6' 2 ∧ ∀ (d_11' : Int), Inv_6' d_11' →
                                    (if (decide (d_11' < 4)) = true then
                                      (I64 (k_3' + d_11')) ∧
                                      (if (decide ((s.length : Int) ≤ k_3' + d_11')) = true then
                                        K [] 0 51 i
                                      else
                                        (I64 (k_3' + d_11')) ∧
                                        (0 ≤ (k_3' + d_11') ∧ (k_3' + d_11') < s.length) ∧
                                        (0 ≤ ((s.getD (k_3' + d_11').toNat 0).toNat : Int) ∧ ((s.getD (k_3' + d_11').toNat 0).toNat : Int) < 256) ∧
                                        (if (decide (refHex ((s.getD (k_3' + d_11').toNat 0).toNat : Int) < 0)) = true then
                                          (I64 (k_3' + d_11')) ∧
                                          K [] 0 50 (k_3' + d_11')
                                        else
                                          (I64 (d_11' + 1)) ∧
                                          Inv_6' (d_11' + 1) ∧ mu_6' (d_11' + 1) < mu_6' d_11'))
                                    else
                                      (I64 (k_3' + 2)) ∧
                                      (0 ≤ (k_3' + 2) ∧ (k_3' + 2) < s.length) ∧
                                      (0 ≤ ((s.getD (k_3' + 2).toNat 0).toNat : Int) ∧ ((s.getD (k_3' + 2).toNat 0).toNat : Int) < 256) ∧
                                      (I64 (16 * (refHex ((s.getD (k_3' + 2).toNat 0).toNat : Int)))) ∧
                                      (I64 (k_3' + 3)) ∧
                                      (0 ≤ (k_3' + 3) ∧ (k_3' + 3) < s.length) ∧
                                      (0 ≤ ((s.getD (k_3' + 3).toNat 0).toNat : Int) ∧ ((s.getD (k_3' + 3).toNat 0).toNat : Int) < 256) ∧
                                      (I64 ((16 * (refHex ((s.getD (k_3' + 2).toNat 0).toNat : Int))) + (refHex ((s.getD (k_3' + 3).toNat 0).toNat : Int)))) ∧
                                      (0 ≤ IntKind.wrap .u8 ((16 * (refHex ((s.getD (k_3' + 2).toNat 0).toNat : Int))) + (refHex ((s.getD (k_3' + 3).toNat 0).toNat : Int))) ∧ IntKind.wrap .u8 ((16 * (refHex ((s.getD (k_3' + 2).toNat 0).toNat : Int))) + (refHex ((s.getD (k_3' + 3).toNat 0).toNat : Int))) < 256) ∧
                                      (((l_3'.length + 1) + (l_3'.length + 1) / 4 + 192) * 1 ≤ 281474976710656 ∧ l_3'.length + 1 ≤ 9223372036854775807) ∧
                                      (I64 (k_3' + 2)) ∧
                                      J0_7' (k_3' + 2) (l_3' ++ [(IntKind.wrap .u8 ((16 * (refHex ((s.getD (k_3' + 2).toNat 0).toNat : Int))) + (refHex ((s.getD (k_3' + 3).toNat 0).toNat : Int)))).toNat.toUInt8]))
                              else
                                (I64 (k_3' + 1)) ∧
                                K [] 0 50 (k_3' + 1)))) ∧
                          (if (decide (((s.getD (k_3' + 1).toNat 0).toNat : Int) = 34)) = true then
                            J0_8' (decide (((s.getD (k_3' + 1).toNat 0).toNat : Int) = 34))
                          else
                            J0_8' (decide (((s.getD (k_3' + 1).toNat 0).toNat : Int) = 92))))))))))
      else
        K [] 0 51 i)
set_option maxRecDepth 100000 in
theorem refquoted_wp  (s : List UInt8) (i : Int) (K : (List UInt8) → Int → Int → Int → Prop) (h : refquoted_vc s i K) :
    Does Try.prog 20 [st s, Value.int .i64 i] [] [] (fun o => (∃ (v : List UInt8) (v_1' : Int) (v_2' : Int) (v_3' : Int), K v v_1' v_2' v_3' ∧ o = .ret (Value.tuple #[st v, Value.int .i64 v_1', Value.int .i64 v_2', Value.int .i64 v_3']) []) ∨ (False)) := by
  unfold refquoted_vc at h
  refine does_of_wc (n := 120) (L0 := [(0, st s), (1, Value.int .i64 i)]) Try.func20 rfl rfl rfl rfl (fun w0 M Q hE => ?_)
  refine wc_seq (fun K0 hK => ?_)
  refine wc_region ?_
  refine WL.val (OV.assign rfl) rfl rfl rfl ?_
  refine WL.val (OV.assign rfl) rfl rfl rfl ?_
  refine WL.val (OV.assign rfl) rfl rfl rfl ?_
  refine WL.val (OV.assign rfl) rfl rfl rfl ?_
  refine WL.nil ?_
  refine KX.go (hK [(0, st s), (1, Value.int .i64 i)] _ ?_) ⟨rfl, rfl, trivial⟩
  refine wc_seq (fun K0_1' hK_1' => ?_)
  refine wc_region ?_
  refine WL.val (OV.assign rfl) rfl rfl rfl ?_
  refine WL.nilRow 5 1 byteC ?_
  refine WL.nil ?_
  refine KX.go (hK_1' [(0, st s), (1, Value.int .i64 i), (8, Value.slice none 0 0)] _ ?_) ⟨rfl, rfl, rfl, trivial⟩
  refine wc_seq (fun K0_2' hK_2' => ?_)
  refine wc_region ?_
  refine WL.val (OV.move rfl) rfl rfl rfl ?_
  obtain ⟨o, h⟩ := h
  refine WL.val (OV.add rfl rfl o) rfl rfl rfl ?_
  refine WL.val (OV.assign rfl) rfl rfl rfl ?_
  refine WL.nil ?_
  refine KX.go (hK_2' [(0, st s), (1, Value.int .i64 i), (8, Value.slice none 0 0), (9, Value.int .i64 (i + 1))] _ ?_) ⟨rfl, rfl, rfl, rfl, trivial⟩
  refine wc_seq (fun K0_3' hK_3' => ?_)
  refine wc_block ?_
  obtain ⟨Inv_4', mu_4', h0_4', hr_4'⟩ := h
  refine wc_loop (S := Int × Value × (List UInt8)) (fun σ => Inv_4' σ.1 σ.2.2) (fun σ => mu_4' σ.1 σ.2.2) (fun σ => [(0, st s), (1, Value.int .i64 i), (8, σ.2.1), (9, Value.int .i64 σ.1)]) (fun σ => [HA.row σ.2.1 5 1 σ.2.2.length (σ.2.2.flatMap byteC)]) (i + 1, Value.slice none 0 0, []) h0_4' ⟨rfl, rfl, rfl, rfl, trivial⟩ rfl ?_
  rintro ⟨k_3', w_25', l_3'⟩ hi K0_186' hK_186'
  have h := hr_4' k_3' l_3' hi
  show WC _ _ _ _ [(0, st s), (1, Value.int .i64 i), (8, w_25'), (9, Value.int .i64 k_3')] [HA.row w_25' 5 1 l_3'.length (l_3'.flatMap byteC)]
  refine wc_seq (fun K0_187' hK_187' => ?_)
  refine wc_seq (fun K0_188' hK_188' => ?_)
  refine wc_region ?_
  refine WL.val (OV.move rfl) rfl rfl rfl ?_
  refine WL.val (OV.move rfl) rfl rfl rfl ?_
  refine WL.val (OV.len rfl tf_str_9) rfl rfl rfl ?_
  refine WL.val (OV.lss rfl rfl) rfl rfl rfl ?_
  refine WL.nil ?_
  refine KX.go (hK_188' [(0, st s), (1, Value.int .i64 i), (8, w_25'), (9, Value.int .i64 k_3'), (17, Value.bool (decide (k_3' < (s.length : Int))))] _ ?_) ⟨rfl, rfl, rfl, rfl, rfl, trivial⟩
  refine wc_cond (b := decide (k_3' < (s.length : Int))) rfl (fun hb => ?_) (fun hb => ?_)
  · replace h := if_T h hb
    refine wc_skip ?_
    refine KX.go (hK_187' [(0, st s), (1, Value.int .i64 i), (8, w_25'), (9, Value.int .i64 k_3')] _ ?_) ⟨rfl, rfl, rfl, rfl, trivial⟩
    refine wc_block ?_
    refine wc_seq (fun K0_189' hK_189' => ?_)
    refine wc_region ?_
    refine WL.val (OV.move rfl) rfl rfl rfl ?_
    refine WL.val (OV.move rfl) rfl rfl rfl ?_
    obtain ⟨o_161', h⟩ := h
    refine WL.val (OV.index rfl rfl tf_str_9 o_161') rfl rfl rfl ?_
    refine WL.val (OV.assign rfl) rfl rfl rfl ?_
    refine WL.nil ?_
    refine KX.go (hK_189' [(0, st s), (1, Value.int .i64 i), (8, w_25'), (9, Value.int .i64 k_3'), (10, Value.int .u8 ((s.getD k_3'.toNat 0).toNat : Int))] _ ?_) ⟨rfl, rfl, rfl, rfl, rfl, trivial⟩
    refine wc_seq (fun K0_190' hK_190' => ?_)
    refine wc_seq (fun K0_191' hK_191' => ?_)
    refine wc_region ?_
    refine WL.val (OV.move rfl) rfl rfl rfl ?_
    refine WL.val (OV.eql rfl rfl) rfl rfl rfl ?_
    refine WL.nil ?_
    refine KX.go (hK_191' [(0, st s), (1, Value.int .i64 i), (8, w_25'), (9, Value.int .i64 k_3'), (10, Value.int .u8 ((s.getD k_3'.toNat 0).toNat : Int)), (22, Value.bool (decide (((s.getD k_3'.toNat 0).toNat : Int) = 34)))] _ ?_) ⟨rfl, rfl, rfl, rfl, rfl, rfl, trivial⟩
    refine wc_cond (b := decide (((s.getD k_3'.toNat 0).toNat : Int) = 34)) rfl (fun hb => ?_) (fun hb => ?_)
    · replace h := if_T h hb
      refine wc_seq (fun K0_192' hK_192' => ?_)
      refine wc_region ?_
      refine WL.val (OV.move rfl) rfl rfl rfl ?_
      refine WL.val (OV.bytesRow (l := l_3') 0 rfl rfl tf_sl_52 Try.underlying5 tf_str_9) rfl rfl rfl ?_
      refine WL.val (OV.move rfl) rfl rfl rfl ?_
      obtain ⟨o_162', h⟩ := h
      refine WL.val (OV.add rfl rfl o_162') rfl rfl rfl ?_
      refine WL.val (OV.assign rfl) rfl rfl rfl ?_
      refine WL.val (OV.assign rfl) rfl rfl rfl ?_
      refine WL.val (OV.assign rfl) rfl rfl rfl ?_
      refine WL.val (OV.assign rfl) rfl rfl rfl ?_
      refine WL.nil ?_
      refine KX.go (hK_192' [(4, st l_3'), (5, Value.int .i64 (k_3' + 1)), (6, Value.int .i64 0), (7, Value.int .i64 0)] _ ?_) ⟨rfl, rfl, rfl, rfl, trivial⟩
      refine wc_ret ?_
      exact hE.ret [] rfl rfl (.inl ⟨_, _, _, _, h, rfl⟩) (ResV.of4 rfl (RV.tmp rfl) (RV.tmp rfl) (RV.tmp rfl) (RV.tmp rfl))
    · replace h := if_F h hb
      refine wc_skip ?_
      refine KX.go (hK_190' [(0, st s), (1, Value.int .i64 i), (8, w_25'), (9, Value.int .i64 k_3'), (10, Value.int .u8 ((s.getD k_3'.toNat 0).toNat : Int))] _ ?_) ⟨rfl, rfl, rfl, rfl, rfl, trivial⟩
      refine wc_seq (fun K0_193' hK_193' => ?_)
      refine wc_seq (fun K0_194' hK_194' => ?_)
      refine wc_region ?_
      refine WL.val (OV.move rfl) rfl rfl rfl ?_
      refine WL.call (A := []) tf_ent_30 rfl (refplain_does ((s.getD k_3'.toNat 0).toNat : Int)) rfl trivial rfl rfl ?_
      refine WL.val (OV.not rfl) rfl rfl rfl ?_
      refine WL.nil ?_
      refine KX.go (hK_194' [(0, st s), (1, Value.int .i64 i), (8, w_25'), (9, Value.int .i64 k_3'), (10, Value.int .u8 ((s.getD k_3'.toNat 0).toNat : Int)), (29, Value.bool (!(printB ((s.getD k_3'.toNat 0).toNat : Int))))] _ ?_) ⟨rfl, rfl, rfl, rfl, rfl, rfl, trivial⟩
      refine wc_cond (b := !(printB ((s.getD k_3'.toNat 0).toNat : Int))) rfl (fun hb => ?_) (fun hb => ?_)
      · replace h := if_T h hb
        refine wc_seq (fun K0_195' hK_195' => ?_)
        refine wc_region ?_
        refine WL.val (OV.move rfl) rfl rfl rfl ?_
        refine WL.val (OV.assign rfl) rfl rfl rfl ?_
        refine WL.val (OV.assign rfl) rfl rfl rfl ?_
        refine WL.val (OV.assign rfl) rfl rfl rfl ?_
        refine WL.val (OV.assign rfl) rfl rfl rfl ?_
        refine WL.nil ?_
        refine KX.go (hK_195' [(4, st []), (5, Value.int .i64 0), (6, Value.int .i64 50), (7, Value.int .i64 k_3')] _ ?_) ⟨rfl, rfl, rfl, rfl, trivial⟩
        refine wc_ret ?_
        exact hE.ret [] rfl rfl (.inl ⟨_, _, _, _, h, rfl⟩) (ResV.of4 rfl (RV.tmp rfl) (RV.tmp rfl) (RV.tmp rfl) (RV.tmp rfl))
      · replace h := if_F h hb
        refine wc_skip ?_
        refine KX.go (hK_193' [(0, st s), (1, Value.int .i64 i), (8, w_25'), (9, Value.int .i64 k_3'), (10, Value.int .u8 ((s.getD k_3'.toNat 0).toNat : Int))] _ ?_) ⟨rfl, rfl, rfl, rfl, rfl, trivial⟩
        refine wc_seq (fun K0_196' hK_196' => ?_)
        refine wc_seq (fun K0_197' hK_197' => ?_)
        refine wc_region ?_
        refine WL.val (OV.move rfl) rfl rfl rfl ?_
        refine WL.val (OV.neq rfl rfl) rfl rfl rfl ?_
        refine WL.nil ?_
        refine KX.go (hK_197' [(0, st s), (1, Value.int .i64 i), (8, w_25'), (9, Value.int .i64 k_3'), (10, Value.int .u8 ((s.getD k_3'.toNat 0).toNat : Int)), (32, Value.bool (!decide (((s.getD k_3'.toNat 0).toNat : Int) = 92)))] _ ?_) ⟨rfl, rfl, rfl, rfl, rfl, rfl, trivial⟩
        refine wc_cond (b := !decide (((s.getD k_3'.toNat 0).toNat : Int) = 92)) rfl (fun hb => ?_) (fun hb => ?_)
        · replace h := if_T h hb
          refine wc_seq (fun K0_198' hK_198' => ?_)
          refine wc_region ?_
          refine WL.val (OV.move rfl) rfl rfl rfl ?_
          refine WL.val (OV.move rfl) rfl rfl rfl ?_
          refine WL.make (MV.buildSlice (cs := [Value.int .u8 ((s.getD k_3'.toNat 0).toNat : Int)]) rfl tf_sl_52 (by kernel_rfl)) rfl rfl rfl (fun b_22' => ?_)
          obtain ⟨o_163', h⟩ := h
          refine WL.append (f := byteC) (ms := [(s.getD k_3'.toNat 0)]) 1 0 rfl rfl rfl rfl rfl rfl byteC_len (by decide) rfl tf_sl_52 tf_info_5 rfl o_163' rfl rfl (fun w_26' => ?_)
          refine WL.val (OV.assign rfl) rfl rfl rfl ?_
          refine WL.nil ?_
          refine KX.go (hK_198' [(0, st s), (1, Value.int .i64 i), (8, w_26'), (9, Value.int .i64 k_3')] _ ?_) ⟨rfl, rfl, rfl, rfl, trivial⟩
          refine wc_seq (fun K0_199' hK_199' => ?_)
          refine wc_region ?_
          refine WL.val (OV.move rfl) rfl rfl rfl ?_
          obtain ⟨o_164', h⟩ := h
          refine WL.val (OV.add rfl rfl o_164') rfl rfl rfl ?_
          refine WL.val (OV.assign rfl) rfl rfl rfl ?_
          refine WL.nil ?_
          refine KX.go (hK_199' [(0, st s), (1, Value.int .i64 i), (8, w_26'), (9, Value.int .i64 (k_3' + 1))] _ ?_) ⟨rfl, rfl, rfl, rfl, trivial⟩
          refine wc_exit ?_
          exact KX.goH (hK_186' (k_3' + 1, w_26', l_3' ++ [(s.getD k_3'.toNat 0)]) h.1 h.2) ⟨rfl, rfl, rfl, rfl, trivial⟩ [1] rfl rfl
        · replace h := if_F h hb
          refine wc_skip ?_
          refine KX.go (hK_196' [(0, st s), (1, Value.int .i64 i), (8, w_25'), (9, Value.int .i64 k_3')] _ ?_) ⟨rfl, rfl, rfl, rfl, trivial⟩
          refine wc_seq (fun K0_200' hK_200' => ?_)
          refine wc_seq (fun K0_201' hK_201' => ?_)
          refine wc_region ?_
          refine WL.val (OV.move rfl) rfl rfl rfl ?_
          obtain ⟨o_165', h⟩ := h
          refine WL.val (OV.add rfl rfl o_165') rfl rfl rfl ?_
          refine WL.val (OV.move rfl) rfl rfl rfl ?_
          refine WL.val (OV.len rfl tf_str_9) rfl rfl rfl ?_
          refine WL.val (OV.geq rfl rfl) rfl rfl rfl ?_
          refine WL.nil ?_
          refine KX.go (hK_201' [(0, st s), (1, Value.int .i64 i), (8, w_25'), (9, Value.int .i64 k_3'), (43, Value.bool (decide ((s.length : Int) ≤ k_3' + 1)))] _ ?_) ⟨rfl, rfl, rfl, rfl, rfl, trivial⟩
          refine wc_cond (b := decide ((s.length : Int) ≤ k_3' + 1)) rfl (fun hb => ?_) (fun hb => ?_)
          · replace h := if_T h hb
            refine wc_seq (fun K0_202' hK_202' => ?_)
            refine wc_region ?_
            refine WL.val (OV.move rfl) rfl rfl rfl ?_
            refine WL.val (OV.assign rfl) rfl rfl rfl ?_
            refine WL.val (OV.assign rfl) rfl rfl rfl ?_
            refine WL.val (OV.assign rfl) rfl rfl rfl ?_
            refine WL.val (OV.assign rfl) rfl rfl rfl ?_
            refine WL.nil ?_
            refine KX.go (hK_202' [(4, st []), (5, Value.int .i64 0), (6, Value.int .i64 51), (7, Value.int .i64 i)] _ ?_) ⟨rfl, rfl, rfl, rfl, trivial⟩
            refine wc_ret ?_
            exact hE.ret [] rfl rfl (.inl ⟨_, _, _, _, h, rfl⟩) (ResV.of4 rfl (RV.tmp rfl) (RV.tmp rfl) (RV.tmp rfl) (RV.tmp rfl))
          · replace h := if_F h hb
            refine wc_skip ?_
            refine KX.go (hK_200' [(0, st s), (1, Value.int .i64 i), (8, w_25'), (9, Value.int .i64 k_3')] _ ?_) ⟨rfl, rfl, rfl, rfl, trivial⟩
            obtain ⟨J0_7', hJ_7', h⟩ := h
            refine wc_seqJ (X := Int × Value × (List UInt8)) (fun σ => J0_7' σ.1 σ.2.2) (fun σ => [(0, st s), (1, Value.int .i64 i), (8, σ.2.1), (9, Value.int .i64 σ.1)]) (fun σ => [HA.row σ.2.1 5 1 σ.2.2.length (σ.2.2.flatMap byteC)]) ?_ (fun K0_240' hK_240' => ?_)
            · rintro ⟨k_4', w_32', l_4'⟩ hj
              replace h := hJ_7' k_4' l_4' hj
              show WC _ _ _ _ [(0, st s), (1, Value.int .i64 i), (8, w_32'), (9, Value.int .i64 k_4')] [HA.row w_32' 5 1 l_4'.length (l_4'.flatMap byteC)]
              refine wc_region ?_
              refine WL.val (OV.move rfl) rfl rfl rfl ?_
              obtain ⟨o_203', h⟩ := h
              refine WL.val (OV.add rfl rfl o_203') rfl rfl rfl ?_
              refine WL.val (OV.assign rfl) rfl rfl rfl ?_
              refine WL.nil ?_
              exact KX.goH (hK_186' (k_4' + 2, w_32', l_4') h.1 h.2) ⟨rfl, rfl, rfl, rfl, trivial⟩ [0] rfl rfl
            · skip
              refine wc_seq (fun K0_241' hK_241' => ?_)
              refine wc_region ?_
              refine WL.val (OV.move rfl) rfl rfl rfl ?_
              refine WL.val (OV.move rfl) rfl rfl rfl ?_
              obtain ⟨o_204', h⟩ := h
              refine WL.val (OV.add rfl rfl o_204') rfl rfl rfl ?_
              obtain ⟨o_205', h⟩ := h
              refine WL.val (OV.index rfl rfl tf_str_9 o_205') rfl rfl rfl ?_
              refine WL.nil ?_
              refine KX.go (hK_241' [(0, st s), (1, Value.int .i64 i), (8, w_25'), (9, Value.int .i64 k_3'), (48, Value.int .u8 ((s.getD (k_3' + 1).toNat 0).toNat : Int))] _ ?_) ⟨rfl, rfl, rfl, rfl, rfl, trivial⟩
              refine wc_block ?_
              refine wc_seq (fun K0_242' hK_242' => ?_)
              refine wc_region ?_
              refine WL.val (OV.eql rfl rfl) rfl rfl rfl ?_
              refine WL.val (OV.assign rfl) rfl rfl rfl ?_
              refine WL.nil ?_
              refine KX.go (hK_242' [(0, st s), (1, Value.int .i64 i), (8, w_25'), (9, Value.int .i64 k_3'), (48, Value.int .u8 ((s.getD (k_3' + 1).toNat 0).toNat : Int)), (51, Value.bool (decide (((s.getD (k_3' + 1).toNat 0).toNat : Int) = 110)))] _ ?_) ⟨rfl, rfl, rfl, rfl, rfl, rfl, trivial⟩
              refine wc_cond (b := decide (((s.getD (k_3' + 1).toNat 0).toNat : Int) = 110)) rfl (fun hb => ?_) (fun hb => ?_)
              · replace h := if_T h hb
                refine wc_region ?_
                refine WL.val (OV.move rfl) rfl rfl rfl ?_
                refine WL.make (MV.buildSlice (cs := [Value.int .u8 10]) rfl tf_sl_52 (by kernel_rfl)) rfl rfl rfl (fun b_28' => ?_)
                obtain ⟨o_206', h⟩ := h
                refine WL.append (f := byteC) (ms := [10]) 1 0 rfl rfl rfl rfl rfl rfl byteC_len (by decide) rfl tf_sl_52 tf_info_5 rfl o_206' rfl rfl (fun w_33' => ?_)
                refine WL.val (OV.assign rfl) rfl rfl rfl ?_
                refine WL.nil ?_
                exact KX.goH (hK_240' (k_3', w_33', l_3' ++ [10]) h) ⟨rfl, rfl, rfl, rfl, trivial⟩ [1] rfl rfl
              · replace h := if_F h hb
                refine wc_seq (fun K0_243' hK_243' => ?_)
                refine wc_region ?_
                refine WL.val (OV.eql rfl rfl) rfl rfl rfl ?_
                refine WL.val (OV.assign rfl) rfl rfl rfl ?_
                refine WL.nil ?_
                refine KX.go (hK_243' [(0, st s), (1, Value.int .i64 i), (8, w_25'), (9, Value.int .i64 k_3'), (48, Value.int .u8 ((s.getD (k_3' + 1).toNat 0).toNat : Int)), (56, Value.bool (decide (((s.getD (k_3' + 1).toNat 0).toNat : Int) = 114)))] _ ?_) ⟨rfl, rfl, rfl, rfl, rfl, rfl, trivial⟩
                refine wc_cond (b := decide (((s.getD (k_3' + 1).toNat 0).toNat : Int) = 114)) rfl (fun hb => ?_) (fun hb => ?_)
                · replace h := if_T h hb
                  refine wc_region ?_
                  refine WL.val (OV.move rfl) rfl rfl rfl ?_
                  refine WL.make (MV.buildSlice (cs := [Value.int .u8 13]) rfl tf_sl_52 (by kernel_rfl)) rfl rfl rfl (fun b_29' => ?_)
                  obtain ⟨o_207', h⟩ := h
                  refine WL.append (f := byteC) (ms := [13]) 1 0 rfl rfl rfl rfl rfl rfl byteC_len (by decide) rfl tf_sl_52 tf_info_5 rfl o_207' rfl rfl (fun w_34' => ?_)
                  refine WL.val (OV.assign rfl) rfl rfl rfl ?_
                  refine WL.nil ?_
                  exact KX.goH (hK_240' (k_3', w_34', l_3' ++ [13]) h) ⟨rfl, rfl, rfl, rfl, trivial⟩ [1] rfl rfl
                · replace h := if_F h hb
                  refine wc_seq (fun K0_244' hK_244' => ?_)
                  refine wc_region ?_
                  refine WL.val (OV.eql rfl rfl) rfl rfl rfl ?_
                  refine WL.val (OV.assign rfl) rfl rfl rfl ?_
                  refine WL.nil ?_
                  refine KX.go (hK_244' [(0, st s), (1, Value.int .i64 i), (8, w_25'), (9, Value.int .i64 k_3'), (48, Value.int .u8 ((s.getD (k_3' + 1).toNat 0).toNat : Int)), (61, Value.bool (decide (((s.getD (k_3' + 1).toNat 0).toNat : Int) = 116)))] _ ?_) ⟨rfl, rfl, rfl, rfl, rfl, rfl, trivial⟩
                  refine wc_cond (b := decide (((s.getD (k_3' + 1).toNat 0).toNat : Int) = 116)) rfl (fun hb => ?_) (fun hb => ?_)
                  · replace h := if_T h hb
                    refine wc_region ?_
                    refine WL.val (OV.move rfl) rfl rfl rfl ?_
                    refine WL.make (MV.buildSlice (cs := [Value.int .u8 9]) rfl tf_sl_52 (by kernel_rfl)) rfl rfl rfl (fun b_30' => ?_)
                    obtain ⟨o_208', h⟩ := h
                    refine WL.append (f := byteC) (ms := [9]) 1 0 rfl rfl rfl rfl rfl rfl byteC_len (by decide) rfl tf_sl_52 tf_info_5 rfl o_208' rfl rfl (fun w_35' => ?_)
                    refine WL.val (OV.assign rfl) rfl rfl rfl ?_
                    refine WL.nil ?_
                    exact KX.goH (hK_240' (k_3', w_35', l_3' ++ [9]) h) ⟨rfl, rfl, rfl, rfl, trivial⟩ [1] rfl rfl
                  · replace h := if_F h hb
                    obtain ⟨J0_8', hJ_8', h⟩ := h
                    refine wc_seqJ (X := Bool) (fun σ => J0_8' σ) (fun σ => [(0, st s), (1, Value.int .i64 i), (8, w_25'), (9, Value.int .i64 k_3'), (48, Value.int .u8 ((s.getD (k_3' + 1).toNat 0).toNat : Int)), (66, Value.bool σ)]) (fun σ => [HA.row w_25' 5 1 l_3'.length (l_3'.flatMap byteC)]) ?_ (fun K0_246' hK_246' => ?_)
                    · rintro t66_5' hj
                      replace h := hJ_8' t66_5' hj
                      show WC _ _ _ _ [(0, st s), (1, Value.int .i64 i), (8, w_25'), (9, Value.int .i64 k_3'), (48, Value.int .u8 ((s.getD (k_3' + 1).toNat 0).toNat : Int)), (66, Value.bool t66_5')] [HA.row w_25' 5 1 l_3'.length (l_3'.flatMap byteC)]
                      refine wc_cond (b := t66_5') rfl (fun hb => ?_) (fun hb => ?_)
                      · replace h := if_T h hb
                        refine wc_region ?_
                        refine WL.val (OV.move rfl) rfl rfl rfl ?_
                        refine WL.val (OV.move rfl) rfl rfl rfl ?_
                        refine WL.val (OV.move rfl) rfl rfl rfl ?_
                        obtain ⟨o_209', h⟩ := h
                        refine WL.val (OV.add rfl rfl o_209') rfl rfl rfl ?_
                        obtain ⟨o_210', h⟩ := h
                        refine WL.val (OV.index rfl rfl tf_str_9 o_210') rfl rfl rfl ?_
                        refine WL.make (MV.buildSlice (cs := [Value.int .u8 ((s.getD (k_3' + 1).toNat 0).toNat : Int)]) rfl tf_sl_52 (by kernel_rfl)) rfl rfl rfl (fun b_31' => ?_)
                        obtain ⟨o_211', h⟩ := h
                        refine WL.append (f := byteC) (ms := [(s.getD (k_3' + 1).toNat 0)]) 1 0 rfl rfl rfl rfl rfl rfl byteC_len (by decide) rfl tf_sl_52 tf_info_5 rfl o_211' rfl rfl (fun w_36' => ?_)
                        refine WL.val (OV.assign rfl) rfl rfl rfl ?_
                        refine WL.nil ?_
                        exact KX.goH (hK_240' (k_3', w_36', l_3' ++ [(s.getD (k_3' + 1).toNat 0)]) h) ⟨rfl, rfl, rfl, rfl, trivial⟩ [1] rfl rfl
                      · replace h := if_F h hb
                        refine wc_seq (fun K0_247' hK_247' => ?_)
                        refine wc_region ?_
                        refine WL.val (OV.eql rfl rfl) rfl rfl rfl ?_
                        refine WL.val (OV.assign rfl) rfl rfl rfl ?_
                        refine WL.nil ?_
                        refine KX.go (hK_247' [(0, st s), (1, Value.int .i64 i), (8, w_25'), (9, Value.int .i64 k_3'), (76, Value.bool (decide (((s.getD (k_3' + 1).toNat 0).toNat : Int) = 120)))] _ ?_) ⟨rfl, rfl, rfl, rfl, rfl, trivial⟩
                        refine wc_cond (b := decide (((s.getD (k_3' + 1).toNat 0).toNat : Int) = 120)) rfl (fun hb => ?_) (fun hb => ?_)
                        · replace h := if_T h hb
                          refine wc_seq (fun K0_248' hK_248' => ?_)
                          refine wc_seq (fun K0_249' hK_249' => ?_)
                          refine wc_region ?_
                          refine WL.val (OV.assign rfl) rfl rfl rfl ?_
                          refine WL.nil ?_
                          refine KX.go (hK_249' [(0, st s), (1, Value.int .i64 i), (8, w_25'), (9, Value.int .i64 k_3'), (11, Value.int .i64 2)] _ ?_) ⟨rfl, rfl, rfl, rfl, rfl, trivial⟩
                          refine wc_block ?_
                          obtain ⟨Inv_6', mu_6', h0_6', hr_6'⟩ := h
                          refine wc_loop (S := Int) (fun σ => Inv_6' σ) (fun σ => mu_6' σ) (fun σ => [(0, st s), (1, Value.int .i64 i), (8, w_25'), (9, Value.int .i64 k_3'), (11, Value.int .i64 σ)]) (fun σ => [HA.row w_25' 5 1 l_3'.length (l_3'.flatMap byteC)]) 2 h0_6' ⟨rfl, rfl, rfl, rfl, rfl, trivial⟩ rfl ?_
                          rintro d_11' hi K0_266' hK_266'
                          have h := hr_6' d_11' hi
                          show WC _ _ _ _ [(0, st s), (1, Value.int .i64 i), (8, w_25'), (9, Value.int .i64 k_3'), (11, Value.int .i64 d_11')] [HA.row w_25' 5 1 l_3'.length (l_3'.flatMap byteC)]
                          refine wc_seq (fun K0_267' hK_267' => ?_)
                          refine wc_seq (fun K0_268' hK_268' => ?_)
                          refine wc_region ?_
                          refine WL.val (OV.move rfl) rfl rfl rfl ?_
                          refine WL.val (OV.lss rfl rfl) rfl rfl rfl ?_
                          refine WL.nil ?_
                          refine KX.go (hK_268' [(0, st s), (1, Value.int .i64 i), (8, w_25'), (9, Value.int .i64 k_3'), (11, Value.int .i64 d_11'), (79, Value.bool (decide (d_11' < 4)))] _ ?_) ⟨rfl, rfl, rfl, rfl, rfl, rfl, trivial⟩
                          refine wc_cond (b := decide (d_11' < 4)) rfl (fun hb => ?_) (fun hb => ?_)
                          · replace h := if_T h hb
                            refine wc_skip ?_
                            refine KX.go (hK_267' [(0, st s), (1, Value.int .i64 i), (8, w_25'), (9, Value.int .i64 k_3'), (11, Value.int .i64 d_11')] _ ?_) ⟨rfl, rfl, rfl, rfl, rfl, trivial⟩
                            refine wc_seq (fun K0_269' hK_269' => ?_)
                            refine wc_block ?_
                            refine wc_seq (fun K0_270' hK_270' => ?_)
                            refine wc_seq (fun K0_271' hK_271' => ?_)
                            refine wc_region ?_
                            refine WL.val (OV.move rfl) rfl rfl rfl ?_
                            refine WL.val (OV.move rfl) rfl rfl rfl ?_
                            obtain ⟨o_223', h⟩ := h
                            refine WL.val (OV.add rfl rfl o_223') rfl rfl rfl ?_
                            refine WL.val (OV.move rfl) rfl rfl rfl ?_
                            refine WL.val (OV.len rfl tf_str_9) rfl rfl rfl ?_
                            refine WL.val (OV.geq rfl rfl) rfl rfl rfl ?_
                            refine WL.nil ?_
                            refine KX.go (hK_271' [(0, st s), (1, Value.int .i64 i), (8, w_25'), (9, Value.int .i64 k_3'), (11, Value.int .i64 d_11'), (87, Value.bool (decide ((s.length : Int) ≤ k_3' + d_11')))] _ ?_) ⟨rfl, rfl, rfl, rfl, rfl, rfl, trivial⟩
                            refine wc_cond (b := decide ((s.length : Int) ≤ k_3' + d_11')) rfl (fun hb => ?_) (fun hb => ?_)
                            · replace h := if_T h hb
                              refine wc_seq (fun K0_272' hK_272' => ?_)
                              refine wc_region ?_
                              refine WL.val (OV.move rfl) rfl rfl rfl ?_
                              refine WL.val (OV.assign rfl) rfl rfl rfl ?_
                              refine WL.val (OV.assign rfl) rfl rfl rfl ?_
                              refine WL.val (OV.assign rfl) rfl rfl rfl ?_
                              refine WL.val (OV.assign rfl) rfl rfl rfl ?_
                              refine WL.nil ?_
                              refine KX.go (hK_272' [(4, st []), (5, Value.int .i64 0), (6, Value.int .i64 51), (7, Value.int .i64 i)] _ ?_) ⟨rfl, rfl, rfl, rfl, trivial⟩
                              refine wc_ret ?_
                              exact hE.ret [] rfl rfl (.inl ⟨_, _, _, _, h, rfl⟩) (ResV.of4 rfl (RV.tmp rfl) (RV.tmp rfl) (RV.tmp rfl) (RV.tmp rfl))
                            · replace h := if_F h hb
                              refine wc_skip ?_
                              refine KX.go (hK_270' [(0, st s), (1, Value.int .i64 i), (8, w_25'), (9, Value.int .i64 k_3'), (11, Value.int .i64 d_11')] _ ?_) ⟨rfl, rfl, rfl, rfl, rfl, trivial⟩
                              refine wc_seq (fun K0_273' hK_273' => ?_)
                              refine wc_region ?_
                              refine WL.val (OV.move rfl) rfl rfl rfl ?_
                              refine WL.val (OV.move rfl) rfl rfl rfl ?_
                              refine WL.val (OV.move rfl) rfl rfl rfl ?_
                              obtain ⟨o_224', h⟩ := h
                              refine WL.val (OV.add rfl rfl o_224') rfl rfl rfl ?_
                              obtain ⟨o_225', h⟩ := h
                              refine WL.val (OV.index rfl rfl tf_str_9 o_225') rfl rfl rfl ?_
                              obtain ⟨o_226', h⟩ := h
                              refine WL.call (A := []) tf_ent_31 rfl (refhex_does ((s.getD (k_3' + d_11').toNat 0).toNat : Int) o_226') rfl trivial rfl rfl ?_
                              refine WL.val (OV.lss rfl rfl) rfl rfl rfl ?_
                              refine WL.nil ?_
                              refine KX.go (hK_273' [(0, st s), (1, Value.int .i64 i), (8, w_25'), (9, Value.int .i64 k_3'), (11, Value.int .i64 d_11'), (95, Value.bool (decide (refHex ((s.getD (k_3' + d_11').toNat 0).toNat : Int) < 0)))] _ ?_) ⟨rfl, rfl, rfl, rfl, rfl, rfl, trivial⟩
                              refine wc_cond (b := decide (refHex ((s.getD (k_3' + d_11').toNat 0).toNat : Int) < 0)) rfl (fun hb => ?_) (fun hb => ?_)
                              · replace h := if_T h hb
                                refine wc_seq (fun K0_274' hK_274' => ?_)
                                refine wc_region ?_
                                refine WL.val (OV.move rfl) rfl rfl rfl ?_
                                refine WL.val (OV.move rfl) rfl rfl rfl ?_
                                obtain ⟨o_227', h⟩ := h
                                refine WL.val (OV.add rfl rfl o_227') rfl rfl rfl ?_
                                refine WL.val (OV.assign rfl) rfl rfl rfl ?_
                                refine WL.val (OV.assign rfl) rfl rfl rfl ?_
                                refine WL.val (OV.assign rfl) rfl rfl rfl ?_
                                refine WL.val (OV.assign rfl) rfl rfl rfl ?_
                                refine WL.nil ?_
                                refine KX.go (hK_274' [(4, st []), (5, Value.int .i64 0), (6, Value.int .i64 50), (7, Value.int .i64 (k_3' + d_11'))] _ ?_) ⟨rfl, rfl, rfl, rfl, trivial⟩
                                refine wc_ret ?_
                                exact hE.ret [] rfl rfl (.inl ⟨_, _, _, _, h, rfl⟩) (ResV.of4 rfl (RV.tmp rfl) (RV.tmp rfl) (RV.tmp rfl) (RV.tmp rfl))
                              · replace h := if_F h hb
                                refine wc_skip ?_
                                refine KX.go (hK_269' [(0, st s), (1, Value.int .i64 i), (8, w_25'), (9, Value.int .i64 k_3'), (11, Value.int .i64 d_11')] _ ?_) ⟨rfl, rfl, rfl, rfl, rfl, trivial⟩
                                refine wc_region ?_
                                refine WL.val (OV.move rfl) rfl rfl rfl ?_
                                obtain ⟨o_228', h⟩ := h
                                refine WL.val (OV.add rfl rfl o_228') rfl rfl rfl ?_
                                refine WL.val (OV.assign rfl) rfl rfl rfl ?_
                                refine WL.nil ?_
                                exact KX.goH (hK_266' (d_11' + 1) h.1 h.2) ⟨rfl, rfl, rfl, rfl, rfl, trivial⟩ [0] rfl rfl
                          · replace h := if_F h hb
                            refine wc_exit ?_
                            refine KX.go (hK_248' [(0, st s), (1, Value.int .i64 i), (8, w_25'), (9, Value.int .i64 k_3')] _ ?_) ⟨rfl, rfl, rfl, rfl, trivial⟩
                            refine wc_seq (fun K0_275' hK_275' => ?_)
                            refine wc_draw 15 [(14, .cells [Value.int .u8 (IntKind.wrap .u8 ((16 * (refHex ((s.getD (k_3' + 2).toNat 0).toNat : Int))) + (refHex ((s.getD (k_3' + 3).toNat 0).toNat : Int))))].toArray 5 (0, 0))] tf_mixed (by kernel_rfl) rfl (fun T_5' hT_5' => ?_)
                            refine FL.val (fun _ => OV.move rfl) rfl (fun _ => rfl) rfl rfl ?_
                            refine FL.val (fun _ => OV.move rfl) rfl (fun _ => rfl) rfl rfl ?_
                            refine FL.val (fun _ => OV.move rfl) rfl (fun _ => rfl) rfl rfl ?_
                            obtain ⟨o_229', h⟩ := h
                            refine FL.val (fun _ => OV.add rfl rfl o_229') rfl (fun _ => rfl) rfl rfl ?_
                            obtain ⟨o_230', h⟩ := h
                            refine FL.val (fun _ => OV.index rfl rfl tf_str_9 o_230') rfl (fun _ => rfl) rfl rfl ?_
                            obtain ⟨o_231', h⟩ := h
                            refine FL.call tf_ent_31 (fun _ => rfl) (refhex_does ((s.getD (k_3' + 2).toNat 0).toNat : Int) o_231') trivial rfl (fun _ => rfl) rfl ?_
                            obtain ⟨o_232', h⟩ := h
                            refine FL.val (fun _ => OV.mul rfl rfl o_232') rfl (fun _ => rfl) rfl rfl ?_
                            refine FL.val (fun _ => OV.move rfl) rfl (fun _ => rfl) rfl rfl ?_
                            refine FL.val (fun _ => OV.move rfl) rfl (fun _ => rfl) rfl rfl ?_
                            obtain ⟨o_233', h⟩ := h
                            refine FL.val (fun _ => OV.add rfl rfl o_233') rfl (fun _ => rfl) rfl rfl ?_
                            obtain ⟨o_234', h⟩ := h
                            refine FL.val (fun _ => OV.index rfl rfl tf_str_9 o_234') rfl (fun _ => rfl) rfl rfl ?_
                            obtain ⟨o_235', h⟩ := h
                            refine FL.call tf_ent_31 (fun _ => rfl) (refhex_does ((s.getD (k_3' + 3).toNat 0).toNat : Int) o_235') trivial rfl (fun _ => rfl) rfl ?_
                            obtain ⟨o_236', h⟩ := h
                            refine FL.val (fun _ => OV.add rfl rfl o_236') rfl (fun _ => rfl) rfl rfl ?_
                            refine FL.val (fun _ => OV.conv rfl tf_some_3 Try.underlying5) rfl (fun _ => rfl) rfl rfl ?_
                            refine FL.make (fun _ => MV.buildSlice (cs := [Value.int .u8 (IntKind.wrap .u8 ((16 * (refHex ((s.getD (k_3' + 2).toNat 0).toNat : Int))) + (refHex ((s.getD (k_3' + 3).toNat 0).toNat : Int))))]) rfl tf_sl_52 (by kernel_rfl)) rfl (fun _ => rfl) rfl rfl ?_
                            refine FL.weak (L' := fun γ => [(0, st s), (1, Value.int .i64 i), (8, w_25'), (9, Value.int .i64 k_3'), (99, w_25'), (113, Value.slice (some ⟨(γ 14), 0, none⟩) 1 1)]) (fun γ => ⟨rfl, rfl, rfl, rfl, rfl, rfl, trivial⟩) (FL.nil (hT_5' (fun γ => [(0, st s), (1, Value.int .i64 i), (8, w_25'), (9, Value.int .i64 k_3'), (99, w_25'), (113, Value.slice (some ⟨(γ 14), 0, none⟩) 1 1)]) (fun γ => ?_)))
                            show WL _ _ _ _ [(0, st s), (1, Value.int .i64 i), (8, w_25'), (9, Value.int .i64 k_3'), (99, w_25'), (113, Value.slice (some ⟨(γ 14), 0, none⟩) 1 1)] [HA.blk (γ 14) (.cells [Value.int .u8 (IntKind.wrap .u8 ((16 * (refHex ((s.getD (k_3' + 2).toNat 0).toNat : Int))) + (refHex ((s.getD (k_3' + 3).toNat 0).toNat : Int))))].toArray 5 (0, 0)), HA.row w_25' 5 1 l_3'.length (l_3'.flatMap byteC)] _
                            generalize γ 14 = b_32'
                            obtain ⟨o_237', h⟩ := h
                            obtain ⟨o_238', h⟩ := h
                            refine WL.append (f := byteC) (ms := [(IntKind.wrap .u8 ((16 * (refHex ((s.getD (k_3' + 2).toNat 0).toNat : Int))) + (refHex ((s.getD (k_3' + 3).toNat 0).toNat : Int)))).toNat.toUInt8]) 1 0 rfl rfl rfl rfl (byte_cell o_237') rfl byteC_len (by decide) rfl tf_sl_52 tf_info_5 rfl o_238' rfl rfl (fun w_37' => ?_)
                            refine WL.val (OV.assign rfl) rfl rfl rfl ?_
                            refine WL.nil ?_
                            refine KX.go (hK_275' [(0, st s), (1, Value.int .i64 i), (8, w_37'), (9, Value.int .i64 k_3')] _ ?_) ⟨rfl, rfl, rfl, rfl, trivial⟩
                            refine wc_region ?_
                            refine WL.val (OV.move rfl) rfl rfl rfl ?_
                            obtain ⟨o_239', h⟩ := h
                            refine WL.val (OV.add rfl rfl o_239') rfl rfl rfl ?_
                            refine WL.val (OV.assign rfl) rfl rfl rfl ?_
                            refine WL.nil ?_
                            exact KX.goH (hK_240' (k_3' + 2, w_37', l_3' ++ [(IntKind.wrap .u8 ((16 * (refHex ((s.getD (k_3' + 2).toNat 0).toNat : Int))) + (refHex ((s.getD (k_3' + 3).toNat 0).toNat : Int)))).toNat.toUInt8]) h) ⟨rfl, rfl, rfl, rfl, trivial⟩ [1] rfl rfl
                        · replace h := if_F h hb
                          refine wc_seq (fun K0_276' hK_276' => ?_)
                          refine wc_region ?_
                          refine WL.val (OV.move rfl) rfl rfl rfl ?_
                          obtain ⟨o_240', h⟩ := h
                          refine WL.val (OV.add rfl rfl o_240') rfl rfl rfl ?_
                          refine WL.val (OV.assign rfl) rfl rfl rfl ?_
                          refine WL.val (OV.assign rfl) rfl rfl rfl ?_
                          refine WL.val (OV.assign rfl) rfl rfl rfl ?_
                          refine WL.val (OV.assign rfl) rfl rfl rfl ?_
                          refine WL.nil ?_
                          refine KX.go (hK_276' [(4, st []), (5, Value.int .i64 0), (6, Value.int .i64 50), (7, Value.int .i64 (k_3' + 1))] _ ?_) ⟨rfl, rfl, rfl, rfl, trivial⟩
                          refine wc_ret ?_
                          exact hE.ret [] rfl rfl (.inl ⟨_, _, _, _, h, rfl⟩) (ResV.of4 rfl (RV.tmp rfl) (RV.tmp rfl) (RV.tmp rfl) (RV.tmp rfl))
                    · skip
                      refine wc_seq (fun K0_277' hK_277' => ?_)
                      refine wc_region ?_
                      refine WL.val (OV.eql rfl rfl) rfl rfl rfl ?_
                      refine WL.val (OV.assign rfl) rfl rfl rfl ?_
                      refine WL.nil ?_
                      refine KX.go (hK_277' [(0, st s), (1, Value.int .i64 i), (8, w_25'), (9, Value.int .i64 k_3'), (48, Value.int .u8 ((s.getD (k_3' + 1).toNat 0).toNat : Int)), (66, Value.bool (decide (((s.getD (k_3' + 1).toNat 0).toNat : Int) = 34)))] _ ?_) ⟨rfl, rfl, rfl, rfl, rfl, rfl, trivial⟩
                      refine wc_cond (b := decide (((s.getD (k_3' + 1).toNat 0).toNat : Int) = 34)) rfl (fun hb => ?_) (fun hb => ?_)
                      · replace h := if_T h hb
                        refine wc_skip ?_
                        exact KX.goH (hK_246' (decide (((s.getD (k_3' + 1).toNat 0).toNat : Int) = 34)) h) ⟨rfl, rfl, rfl, rfl, rfl, rfl, trivial⟩ [0] rfl rfl
                      · replace h := if_F h hb
                        refine wc_region ?_
                        refine WL.val (OV.eql rfl rfl) rfl rfl rfl ?_
                        refine WL.val (OV.assign rfl) rfl rfl rfl ?_
                        refine WL.nil ?_
                        exact KX.goH (hK_246' (decide (((s.getD (k_3' + 1).toNat 0).toNat : Int) = 92)) h) ⟨rfl, rfl, rfl, rfl, rfl, rfl, trivial⟩ [0] rfl rfl
  · replace h := if_F h hb
    refine wc_exit ?_
    refine KX.go (hK_3' [(1, Value.int .i64 i)] _ ?_) ⟨rfl, trivial⟩
    refine wc_seq (fun K0_278' hK_278' => ?_)
    refine wc_region ?_
    refine WL.val (OV.move rfl) rfl rfl rfl ?_
    refine WL.val (OV.assign rfl) rfl rfl rfl ?_
    refine WL.val (OV.assign rfl) rfl rfl rfl ?_
    refine WL.val (OV.assign rfl) rfl rfl rfl ?_
    refine WL.val (OV.assign rfl) rfl rfl rfl ?_
    refine WL.nil ?_
    refine KX.go (hK_278' [(4, st []), (5, Value.int .i64 0), (6, Value.int .i64 51), (7, Value.int .i64 i)] _ ?_) ⟨rfl, rfl, rfl, rfl, trivial⟩
    refine wc_ret ?_
    exact hE.ret [] rfl rfl (.inl ⟨_, _, _, _, h, rfl⟩) (ResV.of4 rfl (RV.tmp rfl) (RV.tmp rfl) (RV.tmp rfl) (RV.tmp rfl))

def refregex_vc (s : List UInt8) (i : Int) (K : (List UInt8) → Int → Int → Int → Prop) : Prop :=
  (I64 (i + 1)) ∧
  ∃ (Inv : Int → Prop) (mu : Int → Nat),
    Inv (i + 1) ∧ ∀ (k_3' : Int), Inv k_3' →
      (if (decide (k_3' < (s.length : Int))) = true then
        (0 ≤ k_3' ∧ k_3' < s.length) ∧
        (if (!(printB ((s.getD k_3'.toNat 0).toNat : Int))) = true then
          K [] 0 50 k_3'
        else
          (0 ≤ k_3' ∧ k_3' < s.length) ∧
          (if (decide (((s.getD k_3'.toNat 0).toNat : Int) = 47)) = true then
            (I64 (i + 1)) ∧
            (0 ≤ (i + 1) ∧ (i + 1) ≤ k_3' ∧ k_3' ≤ s.length) ∧
            (I64 (k_3' + 1)) ∧
            K ((s.drop (i + 1).toNat).take (k_3'.toNat - (i + 1).toNat)) (k_3' + 1) 0 0
          else
            ∃ (J0_2' : Int → Prop),
              (∀ (k_4' : Int), J0_2' k_4' →
                (I64 (k_4' + 1)) ∧
                Inv (k_4' + 1) ∧ mu (k_4' + 1) < mu k_3') ∧
              (0 ≤ k_3' ∧ k_3' < s.length) ∧
              (if (decide (((s.getD k_3'.toNat 0).toNat : Int) = 92)) = true then
                (I64 (k_3' + 1)) ∧
                ((decide (k_3' + 1 < (s.length : Int))) = true → (0 ≤ (k_3' + 1) ∧ (k_3' + 1) < s.length)) ∧
                (if ((decide (k_3' + 1 < (s.length : Int))) && (!(printB ((s.getD (k_3' + 1).toNat 0).toNat : Int)))) = true then
                  K [] 0 50 (k_3' + 1)
                else
                  J0_2' (k_3' + 1))
              else
                J0_2' k_3')))
      else
        K [] 0 52 i)
set_option maxRecDepth 100000 in
theorem refregex_wp  (s : List UInt8) (i : Int) (K : (List UInt8) → Int → Int → Int → Prop) (h : refregex_vc s i K) :
    Does Try.prog 21 [st s, Value.int .i64 i] [] [] (fun o => (∃ (v : List UInt8) (v_1' : Int) (v_2' : Int) (v_3' : Int), K v v_1' v_2' v_3' ∧ o = .ret (Value.tuple #[st v, Value.int .i64 v_1', Value.int .i64 v_2', Value.int .i64 v_3']) []) ∨ (False)) := by
  unfold refregex_vc at h
  refine does_of_wc (n := 53) (L0 := [(0, st s), (1, Value.int .i64 i)]) Try.func21 rfl rfl rfl rfl (fun w0 M Q hE => ?_)
  refine wc_seq (fun K0 hK => ?_)
  refine wc_region ?_
  refine WL.val (OV.assign rfl) rfl rfl rfl ?_
  refine WL.val (OV.assign rfl) rfl rfl rfl ?_
  refine WL.val (OV.assign rfl) rfl rfl rfl ?_
  refine WL.val (OV.assign rfl) rfl rfl rfl ?_
  refine WL.nil ?_
  refine KX.go (hK [(0, st s), (1, Value.int .i64 i)] _ ?_) ⟨rfl, rfl, trivial⟩
  refine wc_seq (fun K0_1' hK_1' => ?_)
  refine wc_region ?_
  refine WL.val (OV.move rfl) rfl rfl rfl ?_
  obtain ⟨o, h⟩ := h
  refine WL.val (OV.add rfl rfl o) rfl rfl rfl ?_
  refine WL.val (OV.assign rfl) rfl rfl rfl ?_
  refine WL.nil ?_
  refine KX.go (hK_1' [(0, st s), (1, Value.int .i64 i), (8, Value.int .i64 (i + 1))] _ ?_) ⟨rfl, rfl, rfl, trivial⟩
  refine wc_seq (fun K0_2' hK_2' => ?_)
  refine wc_block ?_
  obtain ⟨Inv, mu, h0, hr⟩ := h
  refine wc_loop (S := Int) (fun σ => Inv σ) (fun σ => mu σ) (fun σ => [(0, st s), (1, Value.int .i64 i), (8, Value.int .i64 σ)]) (fun σ => []) (i + 1) h0 ⟨rfl, rfl, rfl, trivial⟩ rfl ?_
  rintro k_3' hi K0_41' hK_41'
  have h := hr k_3' hi
  show WC _ _ _ _ [(0, st s), (1, Value.int .i64 i), (8, Value.int .i64 k_3')] []
  refine wc_seq (fun K0_42' hK_42' => ?_)
  refine wc_seq (fun K0_43' hK_43' => ?_)
  refine wc_region ?_
  refine WL.val (OV.move rfl) rfl rfl rfl ?_
  refine WL.val (OV.move rfl) rfl rfl rfl ?_
  refine WL.val (OV.len rfl tf_str_9) rfl rfl rfl ?_
  refine WL.val (OV.lss rfl rfl) rfl rfl rfl ?_
  refine WL.nil ?_
  refine KX.go (hK_43' [(0, st s), (1, Value.int .i64 i), (8, Value.int .i64 k_3'), (14, Value.bool (decide (k_3' < (s.length : Int))))] _ ?_) ⟨rfl, rfl, rfl, rfl, trivial⟩
  refine wc_cond (b := decide (k_3' < (s.length : Int))) rfl (fun hb => ?_) (fun hb => ?_)
  · replace h := if_T h hb
    refine wc_skip ?_
    refine KX.go (hK_42' [(0, st s), (1, Value.int .i64 i), (8, Value.int .i64 k_3')] _ ?_) ⟨rfl, rfl, rfl, trivial⟩
    refine wc_block ?_
    refine wc_seq (fun K0_44' hK_44' => ?_)
    refine wc_seq (fun K0_45' hK_45' => ?_)
    refine wc_region ?_
    refine WL.val (OV.move rfl) rfl rfl rfl ?_
    refine WL.val (OV.move rfl) rfl rfl rfl ?_
    obtain ⟨o_29', h⟩ := h
    refine WL.val (OV.index rfl rfl tf_str_9 o_29') rfl rfl rfl ?_
    refine WL.call (A := []) tf_ent_30 rfl (refplain_does ((s.getD k_3'.toNat 0).toNat : Int)) rfl trivial rfl rfl ?_
    refine WL.val (OV.not rfl) rfl rfl rfl ?_
    refine WL.nil ?_
    refine KX.go (hK_45' [(0, st s), (1, Value.int .i64 i), (8, Value.int .i64 k_3'), (19, Value.bool (!(printB ((s.getD k_3'.toNat 0).toNat : Int))))] _ ?_) ⟨rfl, rfl, rfl, rfl, trivial⟩
    refine wc_cond (b := !(printB ((s.getD k_3'.toNat 0).toNat : Int))) rfl (fun hb => ?_) (fun hb => ?_)
    · replace h := if_T h hb
      refine wc_seq (fun K0_46' hK_46' => ?_)
      refine wc_region ?_
      refine WL.val (OV.move rfl) rfl rfl rfl ?_
      refine WL.val (OV.assign rfl) rfl rfl rfl ?_
      refine WL.val (OV.assign rfl) rfl rfl rfl ?_
      refine WL.val (OV.assign rfl) rfl rfl rfl ?_
      refine WL.val (OV.assign rfl) rfl rfl rfl ?_
      refine WL.nil ?_
      refine KX.go (hK_46' [(4, st []), (5, Value.int .i64 0), (6, Value.int .i64 50), (7, Value.int .i64 k_3')] _ ?_) ⟨rfl, rfl, rfl, rfl, trivial⟩
      refine wc_ret ?_
      exact hE.ret [] rfl rfl (.inl ⟨_, _, _, _, h, rfl⟩) (ResV.of4 rfl (RV.tmp rfl) (RV.tmp rfl) (RV.tmp rfl) (RV.tmp rfl))
    · replace h := if_F h hb
      refine wc_skip ?_
      refine KX.go (hK_44' [(0, st s), (1, Value.int .i64 i), (8, Value.int .i64 k_3')] _ ?_) ⟨rfl, rfl, rfl, trivial⟩
      refine wc_seq (fun K0_47' hK_47' => ?_)
      refine wc_seq (fun K0_48' hK_48' => ?_)
      refine wc_region ?_
      refine WL.val (OV.move rfl) rfl rfl rfl ?_
      refine WL.val (OV.move rfl) rfl rfl rfl ?_
      obtain ⟨o_30', h⟩ := h
      refine WL.val (OV.index rfl rfl tf_str_9 o_30') rfl rfl rfl ?_
      refine WL.val (OV.eql rfl rfl) rfl rfl rfl ?_
      refine WL.nil ?_
      refine KX.go (hK_48' [(0, st s), (1, Value.int .i64 i), (8, Value.int .i64 k_3'), (24, Value.bool (decide (((s.getD k_3'.toNat 0).toNat : Int) = 47)))] _ ?_) ⟨rfl, rfl, rfl, rfl, trivial⟩
      refine wc_cond (b := decide (((s.getD k_3'.toNat 0).toNat : Int) = 47)) rfl (fun hb => ?_) (fun hb => ?_)
      · replace h := if_T h hb
        refine wc_seq (fun K0_49' hK_49' => ?_)
        refine wc_region ?_
        refine WL.val (OV.move rfl) rfl rfl rfl ?_
        refine WL.val (OV.move rfl) rfl rfl rfl ?_
        obtain ⟨o_31', h⟩ := h
        refine WL.val (OV.add rfl rfl o_31') rfl rfl rfl ?_
        refine WL.val (OV.move rfl) rfl rfl rfl ?_
        obtain ⟨o_32', h⟩ := h
        refine WL.val (OV.sliceS rfl rfl rfl tf_str_9 o_32') rfl rfl rfl ?_
        refine WL.val (OV.move rfl) rfl rfl rfl ?_
        obtain ⟨o_33', h⟩ := h
        refine WL.val (OV.add rfl rfl o_33') rfl rfl rfl ?_
        refine WL.val (OV.assign rfl) rfl rfl rfl ?_
        refine WL.val (OV.assign rfl) rfl rfl rfl ?_
        refine WL.val (OV.assign rfl) rfl rfl rfl ?_
        refine WL.val (OV.assign rfl) rfl rfl rfl ?_
        refine WL.nil ?_
        refine KX.go (hK_49' [(4, st ((s.drop (i + 1).toNat).take (k_3'.toNat - (i + 1).toNat))), (5, Value.int .i64 (k_3' + 1)), (6, Value.int .i64 0), (7, Value.int .i64 0)] _ ?_) ⟨rfl, rfl, rfl, rfl, trivial⟩
        refine wc_ret ?_
        exact hE.ret [] rfl rfl (.inl ⟨_, _, _, _, h, rfl⟩) (ResV.of4 rfl (RV.tmp rfl) (RV.tmp rfl) (RV.tmp rfl) (RV.tmp rfl))
      · replace h := if_F h hb
        refine wc_skip ?_
        refine KX.go (hK_47' [(0, st s), (1, Value.int .i64 i), (8, Value.int .i64 k_3')] _ ?_) ⟨rfl, rfl, rfl, trivial⟩
        obtain ⟨J0_2', hJ_2', h⟩ := h
        refine wc_seqJ (X := Int) (fun σ => J0_2' σ) (fun σ => [(0, st s), (1, Value.int .i64 i), (8, Value.int .i64 σ)]) (fun σ => []) ?_ (fun K0_55' hK_55' => ?_)
        · rintro k_4' hj
          replace h := hJ_2' k_4' hj
          show WC _ _ _ _ [(0, st s), (1, Value.int .i64 i), (8, Value.int .i64 k_4')] []
          refine wc_region ?_
          refine WL.val (OV.move rfl) rfl rfl rfl ?_
          obtain ⟨o_38', h⟩ := h
          refine WL.val (OV.add rfl rfl o_38') rfl rfl rfl ?_
          refine WL.val (OV.assign rfl) rfl rfl rfl ?_
          refine WL.nil ?_
          exact KX.goH (hK_41' (k_4' + 1) h.1 h.2) ⟨rfl, rfl, rfl, trivial⟩ [] rfl rfl
        · skip
          refine wc_seq (fun K0_56' hK_56' => ?_)
          refine wc_region ?_
          refine WL.val (OV.move rfl) rfl rfl rfl ?_
          refine WL.val (OV.move rfl) rfl rfl rfl ?_
          obtain ⟨o_39', h⟩ := h
          refine WL.val (OV.index rfl rfl tf_str_9 o_39') rfl rfl rfl ?_
          refine WL.val (OV.eql rfl rfl) rfl rfl rfl ?_
          refine WL.nil ?_
          refine KX.go (hK_56' [(0, st s), (1, Value.int .i64 i), (8, Value.int .i64 k_3'), (35, Value.bool (decide (((s.getD k_3'.toNat 0).toNat : Int) = 92)))] _ ?_) ⟨rfl, rfl, rfl, rfl, trivial⟩
          refine wc_cond (b := decide (((s.getD k_3'.toNat 0).toNat : Int) = 92)) rfl (fun hb => ?_) (fun hb => ?_)
          · replace h := if_T h hb
            refine wc_seq (fun K0_57' hK_57' => ?_)
            refine wc_region ?_
            refine WL.val (OV.move rfl) rfl rfl rfl ?_
            obtain ⟨o_40', h⟩ := h
            refine WL.val (OV.add rfl rfl o_40') rfl rfl rfl ?_
            refine WL.val (OV.assign rfl) rfl rfl rfl ?_
            refine WL.nil ?_
            refine KX.go (hK_57' [(0, st s), (1, Value.int .i64 i), (8, Value.int .i64 (k_3' + 1))] _ ?_) ⟨rfl, rfl, rfl, trivial⟩
            refine wc_seq (fun K0_58' hK_58' => ?_)
            refine wc_region ?_
            refine WL.val (OV.move rfl) rfl rfl rfl ?_
            refine WL.val (OV.move rfl) rfl rfl rfl ?_
            refine WL.val (OV.len rfl tf_str_9) rfl rfl rfl ?_
            refine WL.val (OV.lss rfl rfl) rfl rfl rfl ?_
            refine WL.val (OV.move rfl) rfl rfl rfl ?_
            obtain ⟨o_42', h⟩ := h
            refine WL.cut 6 [(0, st s), (1, Value.int .i64 i), (8, Value.int .i64 (k_3' + 1)), (48, Value.bool ((decide (k_3' + 1 < (s.length : Int))) && (!(printB ((s.getD (k_3' + 1).toNat 0).toNat : Int)))))] ?_ (fun K0_59' hK_59' => ?_)
            rotate_left
            · refine WL.split (decide (k_3' + 1 < (s.length : Int))) (fun hb => ?_) (fun hb => ?_)
              · have o_41' := o_42' hb
                refine WL.set 42 rfl (congrArg Value.bool hb) ?_
                refine WL.val (OV.move rfl) rfl rfl rfl ?_
                refine WL.val (OV.move rfl) rfl rfl rfl ?_
                refine WL.val (OV.index rfl rfl tf_str_9 o_41') rfl rfl rfl ?_
                refine WL.call (A := []) tf_ent_30 rfl (refplain_does ((s.getD (k_3' + 1).toNat 0).toNat : Int)) rfl trivial rfl rfl ?_
                refine WL.val (OV.not rfl) rfl rfl rfl ?_
                refine WL.val (OV.pickT rfl rfl) rfl rfl rfl ?_
                refine WL.set 48 rfl (bT (v := !(printB ((s.getD (k_3' + 1).toNat 0).toNat : Int))) hb) ?_
                exact WL.end_ (KX.go hK_59' ⟨rfl, rfl, rfl, rfl, trivial⟩)
              · refine WL.set 42 rfl (congrArg Value.bool hb) ?_
                refine WL.skip rfl rfl rfl ?_
                refine WL.skip rfl rfl rfl ?_
                refine WL.skip rfl rfl rfl ?_
                refine WL.skip rfl rfl rfl ?_
                refine WL.skip rfl rfl rfl ?_
                refine WL.val (OV.pickF rfl rfl) rfl rfl rfl ?_
                refine WL.set 48 rfl (bF (v := !(printB ((s.getD (k_3' + 1).toNat 0).toNat : Int))) hb) ?_
                exact WL.end_ (KX.go hK_59' ⟨rfl, rfl, rfl, rfl, trivial⟩)
            refine WL.nil ?_
            refine KX.go (hK_58' [(0, st s), (1, Value.int .i64 i), (8, Value.int .i64 (k_3' + 1)), (48, Value.bool ((decide (k_3' + 1 < (s.length : Int))) && (!(printB ((s.getD (k_3' + 1).toNat 0).toNat : Int)))))] _ ?_) ⟨rfl, rfl, rfl, rfl, trivial⟩
            refine wc_cond (b := (decide (k_3' + 1 < (s.length : Int))) && (!(printB ((s.getD (k_3' + 1).toNat 0).toNat : Int)))) rfl (fun hb => ?_) (fun hb => ?_)
            · replace h := if_T h hb
              refine wc_seq (fun K0_60' hK_60' => ?_)
              refine wc_region ?_
              refine WL.val (OV.move rfl) rfl rfl rfl ?_
              refine WL.val (OV.assign rfl) rfl rfl rfl ?_
              refine WL.val (OV.assign rfl) rfl rfl rfl ?_
              refine WL.val (OV.assign rfl) rfl rfl rfl ?_
              refine WL.val (OV.assign rfl) rfl rfl rfl ?_
              refine WL.nil ?_
              refine KX.go (hK_60' [(4, st []), (5, Value.int .i64 0), (6, Value.int .i64 50), (7, Value.int .i64 (k_3' + 1))] _ ?_) ⟨rfl, rfl, rfl, rfl, trivial⟩
              refine wc_ret ?_
              exact hE.ret [] rfl rfl (.inl ⟨_, _, _, _, h, rfl⟩) (ResV.of4 rfl (RV.tmp rfl) (RV.tmp rfl) (RV.tmp rfl) (RV.tmp rfl))
            · replace h := if_F h hb
              refine wc_skip ?_
              exact KX.goH (hK_55' (k_3' + 1) h) ⟨rfl, rfl, rfl, trivial⟩ [] rfl rfl
          · replace h := if_F h hb
            refine wc_skip ?_
            exact KX.goH (hK_55' k_3' h) ⟨rfl, rfl, rfl, trivial⟩ [] rfl rfl
  · replace h := if_F h hb
    refine wc_exit ?_
    refine KX.go (hK_2' [(1, Value.int .i64 i)] _ ?_) ⟨rfl, trivial⟩
    refine wc_seq (fun K0_61' hK_61' => ?_)
    refine wc_region ?_
    refine WL.val (OV.move rfl) rfl rfl rfl ?_
    refine WL.val (OV.assign rfl) rfl rfl rfl ?_
    refine WL.val (OV.assign rfl) rfl rfl rfl ?_
    refine WL.val (OV.assign rfl) rfl rfl rfl ?_
    refine WL.val (OV.assign rfl) rfl rfl rfl ?_
    refine WL.nil ?_
    refine KX.go (hK_61' [(4, st []), (5, Value.int .i64 0), (6, Value.int .i64 52), (7, Value.int .i64 i)] _ ?_) ⟨rfl, rfl, rfl, rfl, trivial⟩
    refine wc_ret ?_
    exact hE.ret [] rfl rfl (.inl ⟨_, _, _, _, h, rfl⟩) (ResV.of4 rfl (RV.tmp rfl) (RV.tmp rfl) (RV.tmp rfl) (RV.tmp rfl))

theorem refquoted_does (t : List UInt8) (i : Int) (h : 0 ≤ i ∧ i < t.length ∧ t.length ≤ 4096) : Does Try.prog 20 [st t, .int .i64 i] [] []
    (Ret (.tuple #[st (rqM t i).1, .int .i64 (rqM t i).2.1, .int .i64 (rqM t i).2.2.1, .int .i64 (rqM t i).2.2.2]) []) := by
  refine (refquoted_wp t i (fun x q e p => (x, q, e, p) = rqM t i) ?_).weak ?_
  · unfold refquoted_vc
    have eb : ∀ i : Int, ((t.getD i.toNat 0).toNat : Int) = bt t i := fun _ => rfl
    have eb2 : ∀ i : Int, t.getD i.toNat 0 = (bt t i).toNat.toUInt8 := fun i => by unfold bt; simp
    simp only [eb]
    refine ⟨⟨by omega, by omega⟩, fun k out => i < k ∧ k ≤ t.length + 1 ∧ out.length ≤ k ∧ ∃ n, (t.length + 1 - k).toNat < n ∧ quotedF t i (t.length + 1) [] (i + 1) = quotedF t i n out k, fun k _ => (t.length + 1 - k).toNat, ⟨by omega, by omega, by simp; omega, t.length + 1, by omega, rfl⟩, ?_⟩
    rintro k out ⟨k0, k1, k2, n, hn, hF⟩
    obtain ⟨n, rfl⟩ : ∃ m, n = m + 1 := ⟨n - 1, by omega⟩
    have hok : ∀ x q, quotedF t i (n + 1) out k = .ok (x, q) → (x, q, (0 : Int), (0 : Int)) = rqM t i := fun x q hr => by unfold rqM quotedM; rw [hF, hr]; rfl
    have her : ∀ e p, quotedF t i (n + 1) out k = .error (e, p) → (([] : List UInt8), (0 : Int), e, p) = rqM t i := fun x q hr => by unfold rqM quotedM; rw [hF, hr]; rfl
    by_cases hk : k < t.length
    · rw [if_pos (by simpa using hk)]
      have hroom : ((out.length + 1) + (out.length + 1) / 4 + 192) * 1 ≤ 281474976710656 ∧ out.length + 1 ≤ 9223372036854775807 := ⟨by omega, by omega⟩
      have hI : ∀ j : Int, 0 ≤ j → j ≤ 4 → I64 (k + j) := fun j _ _ => ⟨by omega, by omega⟩
      refine ⟨⟨by omega, hk⟩, ?_⟩
      by_cases e1 : bt t k = 34
      · rw [if_pos (by simpa using e1)]
        exact ⟨hI 1 (by omega) (by omega), hok out (k + 1) (by rw [quotedF, if_pos hk, if_pos e1])⟩
      · rw [if_neg (by simpa using e1)]
        by_cases e2 : printB (bt t k) = true
        · rw [if_neg (by simp [e2])]
          by_cases e3 : bt t k = 92
          · rw [if_neg (by simp [e3])]
            refine ⟨hI 1 (by omega) (by omega), ?_⟩
            have hstep : ∀ c ok q, escM t k = (c, ok, q) → quotedF t i (n + 1) out k = if (t.length : Int) ≤ q then .error (51, i) else if ok = false then .error (50, q) else quotedF t i n (out ++ [c.toNat.toUInt8]) (q + 1) := fun c ok q he => by
              rw [quotedF, if_pos hk, if_neg e1, if_neg (by simp [e2]), if_neg (by simp [e3]), he]
            by_cases h1 : (t.length : Int) ≤ k + 1
            · rw [if_pos (by simpa using h1)]
              exact her 51 i (by rw [hstep 0 false (k + 1) (by unfold escM; rw [if_pos h1]), if_pos h1])
            · rw [if_neg (by simpa using h1)]
              have hesc : ∀ r, escM t k = r → escM t k = r := fun _ h => h
              refine ⟨fun k' out' => k + 1 ≤ k' + 1 ∧ k' + 2 ≤ t.length ∧ out'.length ≤ out.length + 1 ∧ quotedF t i (n + 1) out k = quotedF t i n out' (k' + 2), fun k' out' hh => ⟨⟨by omega, by omega⟩, ⟨by omega, by omega, by omega, n, by omega, by rw [hF]; exact hh.2.2.2⟩, by show (t.length + 1 - (k' + 2)).toNat < (t.length + 1 - k).toNat; omega⟩, hI 1 (by omega) (by omega), ⟨by omega, by omega⟩, ?_⟩
              have ok1 : ∀ c : Int, escM t k = (c, true, k + 1) → k + 1 ≤ k + 1 ∧ k + 2 ≤ t.length ∧ (out ++ [c.toNat.toUInt8]).length ≤ out.length + 1 ∧ quotedF t i (n + 1) out k = quotedF t i n (out ++ [c.toNat.toUInt8]) (k + 2) := fun c hc =>
                ⟨by omega, by omega, by simp, by rw [hstep _ _ _ hc, if_neg h1, if_neg (by simp), show k + 1 + 1 = k + 2 by omega]⟩
              by_cases c1 : bt t (k + 1) = 110
              · rw [if_pos (by simpa using c1)]
                exact ⟨hroom, ok1 10 (by unfold escM; simp only [if_neg h1, if_pos c1])⟩
              · rw [if_neg (by simpa using c1)]
                by_cases c2 : bt t (k + 1) = 114
                · rw [if_pos (by simpa using c2)]
                  exact ⟨hroom, ok1 13 (by unfold escM; simp only [if_neg h1, if_neg c1, if_pos c2])⟩
                · rw [if_neg (by simpa using c2)]
                  by_cases c3 : bt t (k + 1) = 116
                  · rw [if_pos (by simpa using c3)]
                    exact ⟨hroom, ok1 9 (by unfold escM; simp only [if_neg h1, if_neg c1, if_neg c2, if_pos c3])⟩
                  · rw [if_neg (by simpa using c3)]
                    refine ⟨fun r => r = decide (bt t (k + 1) = 34 ∨ bt t (k + 1) = 92), fun r hr => ?_, ?_⟩
                    · by_cases c4 : bt t (k + 1) = 34 ∨ bt t (k + 1) = 92
                      · rw [hr, if_pos (by simpa using c4), eb2 (k + 1)]
                        exact ⟨hI 1 (by omega) (by omega), ⟨by omega, by omega⟩, hroom, ok1 _ (by unfold escM; simp only [if_neg h1, if_neg c1, if_neg c2, if_neg c3, if_pos c4])⟩
                      · rw [hr, if_neg (by simpa using c4)]
                        by_cases c5 : bt t (k + 1) = 120
                        · rw [if_pos (by simpa using c5)]
                          have hx : escM t k = if (t.length : Int) ≤ k + 2 then (0, false, k + 2) else if refHex (bt t (k + 2)) < 0 then (0, false, k + 2) else if (t.length : Int) ≤ k + 3 then (0, false, k + 3) else if refHex (bt t (k + 3)) < 0 then (0, false, k + 3) else (16 * refHex (bt t (k + 2)) + refHex (bt t (k + 3)), true, k + 3) := by
                            unfold escM; simp only [if_neg h1, if_neg c1, if_neg c2, if_neg c3, if_neg c4, if_pos c5]
                          refine ⟨fun d => 2 ≤ d ∧ d ≤ 4 ∧ (3 ≤ d → k + 2 < t.length ∧ 0 ≤ refHex (bt t (k + 2))) ∧ (4 ≤ d → k + 3 < t.length ∧ 0 ≤ refHex (bt t (k + 3))), fun d => (4 - d).toNat, ⟨by omega, by omega, fun _ => by omega, fun _ => by omega⟩, ?_⟩
                          rintro d ⟨d0, d1, d2, d3⟩
                          by_cases hd : d < 4
                          · rw [if_pos (by simpa using hd)]
                            have hdd : d = 2 ∨ d = 3 := by omega
                            have hId : I64 (k + d) := hI d (by omega) (by omega)
                            refine ⟨hId, ?_⟩
                            by_cases f1 : (t.length : Int) ≤ k + d
                            · rw [if_pos (by simpa using f1)]
                              rcases hdd with rfl | rfl
                              · exact her 51 i (by rw [hstep 0 false (k + 2) (by rw [hx, if_pos f1]), if_pos f1])
                              · have := d2 (by omega)
                                exact her 51 i (by rw [hstep 0 false (k + 3) (by rw [hx, if_neg (by omega), if_neg (by omega), if_pos f1]), if_pos f1])
                            · rw [if_neg (by simpa using f1)]
                              refine ⟨hId, ⟨by omega, by omega⟩, bt_bd t (k + d), ?_⟩
                              by_cases f2 : refHex (bt t (k + d)) < 0
                              · rw [if_pos (by simpa using f2)]
                                refine ⟨hId, ?_⟩
                                rcases hdd with rfl | rfl
                                · exact her 50 (k + 2) (by rw [hstep 0 false (k + 2) (by rw [hx, if_neg f1, if_pos f2]), if_neg f1, if_pos rfl])
                                · have := d2 (by omega)
                                  exact her 50 (k + 3) (by rw [hstep 0 false (k + 3) (by rw [hx, if_neg (by omega), if_neg (by omega), if_neg f1, if_pos f2]), if_neg f1, if_pos rfl])
                              · rw [if_neg (by simpa using f2)]
                                refine ⟨⟨by omega, by omega⟩, ⟨by omega, by omega, fun _ => ?_, fun _ => ?_⟩, by show (4 - (d + 1)).toNat < (4 - d).toNat; omega⟩
                                · rcases hdd with rfl | rfl
                                  · exact ⟨by omega, by omega⟩
                                  · exact d2 (by omega)
                                · rcases hdd with rfl | rfl
                                  · omega
                                  · exact ⟨by omega, by omega⟩
                          · rw [if_neg (by simpa using hd)]
                            have g2 := d2 (by omega)
                            have g3 := d3 (by omega)
                            have r2 := refHex_bd (c := bt t (k + 2))
                            have r3 := refHex_bd (c := bt t (k + 3))
                            have hwr : IntKind.wrap .u8 (16 * refHex (bt t (k + 2)) + refHex (bt t (k + 3))) = 16 * refHex (bt t (k + 2)) + refHex (bt t (k + 3)) := IntWalk.u8_in _ (by omega)
                            rw [hwr]
                            refine ⟨hI 2 (by omega) (by omega), ⟨by omega, g2.1⟩, bt_bd t _, ⟨by omega, by omega⟩, hI 3 (by omega) (by omega), ⟨by omega, g3.1⟩, bt_bd t _, ⟨by omega, by omega⟩, ⟨by omega, by omega⟩, hroom, hI 2 (by omega) (by omega), by omega, by omega, by simp, ?_⟩
                            rw [hstep (16 * refHex (bt t (k + 2)) + refHex (bt t (k + 3))) true (k + 3) (by rw [hx, if_neg (by omega), if_neg (by omega), if_neg (by omega), if_neg (by omega)]), if_neg (by omega), if_neg (by simp), show k + 3 + 1 = k + 2 + 2 by omega]
                        · rw [if_neg (by simpa using c5)]
                          exact ⟨hI 1 (by omega) (by omega), her 50 (k + 1) (by rw [hstep 0 false (k + 1) (by unfold escM; simp only [if_neg h1, if_neg c1, if_neg c2, if_neg c3, if_neg c4, if_neg c5]), if_neg h1, if_pos rfl])⟩
                    · by_cases c4 : bt t (k + 1) = 34
                      · simp [c4]
                      · simp [c4]
          · rw [if_pos (by simpa using e3)]
            refine ⟨hroom, hI 1 (by omega) (by omega), ⟨by omega, by omega, by simp; omega, n, by omega, ?_⟩, by show (t.length + 1 - (k + 1)).toNat < (t.length + 1 - k).toNat; omega⟩
            rw [hF, quotedF, if_pos hk, if_neg e1, if_neg (by simp [e2]), if_pos e3, eb2 k]
        · rw [if_pos (by simpa using e2)]
          exact her 50 k (by rw [quotedF, if_pos hk, if_neg e1, if_pos (by simpa using e2)])
    · rw [if_neg (by simpa using hk)]
      exact her 51 i (by rw [quotedF, if_neg hk])
  · rintro o (⟨x, q, e, p, he, rfl⟩ | h)
    · rw [← he]; rfl
    · exact h.elim
theorem refregex_does (t : List UInt8) (i : Int) (h : 0 ≤ i ∧ i < t.length ∧ t.length ≤ 4096) : Does Try.prog 21 [st t, .int .i64 i] [] []
    (Ret (.tuple #[st (rrM t i).1, .int .i64 (rrM t i).2.1, .int .i64 (rrM t i).2.2.1, .int .i64 (rrM t i).2.2.2]) []) := by
  refine (refregex_wp t i (fun x q e p => (x, q, e, p) = rrM t i) ?_).weak ?_
  · unfold refregex_vc
    have eb : ∀ i : Int, ((t.getD i.toNat 0).toNat : Int) = bt t i := fun _ => rfl
    simp only [eb]
    refine ⟨⟨by omega, by omega⟩, fun k => i < k ∧ k ≤ t.length + 2 ∧ ∃ n, (t.length + 1 - k).toNat < n ∧ regexF t i (t.length + 1) (i + 1) = regexF t i n k, fun k => (t.length + 2 - k).toNat, ⟨by omega, by omega, t.length + 1, by omega, rfl⟩, ?_⟩
    rintro k ⟨k0, k1, n, hn, hF⟩
    obtain ⟨n, rfl⟩ : ∃ m, n = m + 1 := ⟨n - 1, by omega⟩
    have hok : ∀ x q, regexF t i (n + 1) k = .ok (x, q) → (x, q, (0 : Int), (0 : Int)) = rrM t i := fun x q hr => by unfold rrM regexM; rw [hF, hr]; rfl
    have her : ∀ e p, regexF t i (n + 1) k = .error (e, p) → (([] : List UInt8), (0 : Int), e, p) = rrM t i := fun x q hr => by unfold rrM regexM; rw [hF, hr]; rfl
    have hnil : ∀ m k, (t.length : Int) ≤ k → regexF t i (m + 1) k = .error (52, i) := fun m k hk => by rw [regexF, if_neg (by omega)]
    by_cases hk : k < t.length
    · rw [if_pos (by simpa using hk)]
      have hI : ∀ j : Int, 0 ≤ j → j ≤ 4 → I64 (k + j) := fun j _ _ => ⟨by omega, by omega⟩
      refine ⟨⟨by omega, hk⟩, ?_⟩
      by_cases e2 : printB (bt t k) = true
      · rw [if_neg (by simp [e2])]
        refine ⟨⟨by omega, hk⟩, ?_⟩
        by_cases e1 : bt t k = 47
        · rw [if_pos (by simpa using e1)]
          exact ⟨⟨by omega, by omega⟩, ⟨by omega, by omega, by omega⟩, hI 1 (by omega) (by omega), hok _ _ (by rw [regexF, if_pos hk, if_neg (by omega), if_neg (by simp [e2]), if_pos e1]; rfl)⟩
        · rw [if_neg (by simpa using e1)]
          refine ⟨fun k' => k ≤ k' ∧ k' ≤ t.length ∧ ∃ m, (t.length + 1 - (k' + 1)).toNat < m ∧ regexF t i (n + 1) k = regexF t i m (k' + 1), fun k' hh => ?_, ⟨by omega, hk⟩, ?_⟩
          · obtain ⟨q0, q1, m, hm, hR⟩ := hh
            exact ⟨⟨by omega, by omega⟩, ⟨by omega, by omega, m, hm, by rw [hF, hR]⟩, by show (t.length + 2 - (k' + 1)).toNat < (t.length + 2 - k).toNat; omega⟩
          · by_cases e3 : bt t k = 92
            · rw [if_pos (by simpa using e3)]
              refine ⟨hI 1 (by omega) (by omega), fun hh => ⟨by omega, by simpa using hh⟩, ?_⟩
              by_cases e4 : k + 1 < t.length
              · by_cases e5 : printB (bt t (k + 1)) = true
                · rw [if_neg (by simp [e5])]
                  exact ⟨by omega, by omega, n, by omega, by rw [regexF, if_pos hk, if_pos ⟨e3, e4⟩, if_neg (by simp [e5]), show k + 1 + 1 = k + 2 by omega]⟩
                · rw [if_pos (by simp [e4]; simpa using e5)]
                  exact her 50 (k + 1) (by rw [regexF, if_pos hk, if_pos ⟨e3, e4⟩, if_pos (by simpa using e5)])
              · rw [if_neg (by simp [e4])]
                refine ⟨by omega, by omega, 1, by omega, ?_⟩
                rw [hnil 0 _ (by omega), regexF, if_pos hk, if_neg (by omega), if_neg (by simp [e2]), if_neg e1]
                obtain ⟨n, rfl⟩ : ∃ m, n = m + 1 := ⟨n - 1, by omega⟩
                rw [hnil n _ (by omega)]
            · rw [if_neg (by simpa using e3)]
              exact ⟨by omega, by omega, n, by omega, by rw [regexF, if_pos hk, if_neg (by omega), if_neg (by simp [e2]), if_neg e1]⟩
      · rw [if_pos (by simpa using e2)]
        refine her 50 k ?_
        have hne : bt t k ≠ 92 := fun e => e2 (by rw [e]; rfl)
        rw [regexF, if_pos hk, if_neg (by omega), if_pos (by simpa using e2)]
    · rw [if_neg (by simpa using hk)]
      exact her 52 i (hnil n k (by omega))
  · rintro o (⟨x, q, e, p, he, rfl⟩ | h)
    · rw [← he]; rfl
    · exact h.elim

end Go.Proofs.Ytiaafdjdppganaa
