/-
  The document's reading: single.
-/
import Derived.Test.YtkjnhjhkaaampaaDoorRdR
namespace Go.Proofs.YtkjnhjhkaaampaaDoor
open Go Go.RowKit

theorem tf_ent_22 : entB Tryd.prog 22 = true := by kernel_rfl
theorem tf_ent_21 : entB Tryd.prog 21 = true := by kernel_rfl
theorem tf_ent_33 : entB Tryd.prog 33 = true := by kernel_rfl

def refsingle_vc (text : List UInt8) (i : Int) (inner : Bool) (K : Int → Int → Int → Prop) : Prop :=
  (if (decide ((text.length : Int) ≤ i)) = true then
    K 0 0 (text.length : Int)
  else
    (0 ≤ i ∧ i < text.length) ∧
    (if (!decide (((text.getD i.toNat 0).toNat : Int) = 92)) = true then
      ∃ (J0 : Bool → Prop),
        (∀ (bad : Bool), J0 bad →
          (if bad = true then
            K 0 0 i
          else
            (I64 (i + 1)) ∧
            K ((text.getD i.toNat 0).toNat : Int) (i + 1) (-1))) ∧
        (if inner = true then
          (((decide (((text.getD i.toNat 0).toNat : Int) < 32)) || (decide (126 < ((text.getD i.toNat 0).toNat : Int)))) = false → (0 ≤ ((text.getD i.toNat 0).toNat : Int) ∧ ((text.getD i.toNat 0).toNat : Int) < 256)) ∧
          J0 (((decide (((text.getD i.toNat 0).toNat : Int) < 32)) || (decide (126 < ((text.getD i.toNat 0).toNat : Int)))) || (inL.contains (((text.getD i.toNat 0).toNat : Int)).toNat.toUInt8))
        else
          (((decide (((text.getD i.toNat 0).toNat : Int) < 32)) || (decide (126 < ((text.getD i.toNat 0).toNat : Int)))) = false → (0 ≤ ((text.getD i.toNat 0).toNat : Int) ∧ ((text.getD i.toNat 0).toNat : Int) < 256)) ∧
          J0 (((decide (((text.getD i.toNat 0).toNat : Int) < 32)) || (decide (126 < ((text.getD i.toNat 0).toNat : Int)))) || (spL.contains (((text.getD i.toNat 0).toNat : Int)).toNat.toUInt8)))
    else
      (I64 (i + 1)) ∧
      (if (decide ((text.length : Int) ≤ i + 1)) = true then
        K 0 0 (text.length : Int)
      else
        (I64 (i + 1)) ∧
        (0 ≤ (i + 1) ∧ (i + 1) < text.length) ∧
        (if (decide (((text.getD (i + 1).toNat 0).toNat : Int) = 110)) = true then
          (I64 (i + 2)) ∧
          K 10 (i + 2) (-1)
        else
          (if (decide (((text.getD (i + 1).toNat 0).toNat : Int) = 114)) = true then
            (I64 (i + 2)) ∧
            K 13 (i + 2) (-1)
          else
            (if (decide (((text.getD (i + 1).toNat 0).toNat : Int) = 116)) = true then
              (I64 (i + 2)) ∧
              K 9 (i + 2) (-1)
            else
              (if (decide (((text.getD (i + 1).toNat 0).toNat : Int) = 120)) = true then
                (I64 (i + 2)) ∧
                ((decide ((text.length : Int) ≤ i + 2)) = false → (I64 (i + 2)) ∧ (0 ≤ (i + 2) ∧ (i + 2) < text.length) ∧ (0 ≤ ((text.getD (i + 2).toNat 0).toNat : Int) ∧ ((text.getD (i + 2).toNat 0).toNat : Int) < 256)) ∧
                (if ((decide ((text.length : Int) ≤ i + 2)) || (decide (refHex ((text.getD (i + 2).toNat 0).toNat : Int) < 0))) = true then
                  (I64 (i + 2)) ∧
                  K 0 0 (i + 2)
                else
                  (I64 (i + 3)) ∧
                  ((decide ((text.length : Int) ≤ i + 3)) = false → (I64 (i + 3)) ∧ (0 ≤ (i + 3) ∧ (i + 3) < text.length) ∧ (0 ≤ ((text.getD (i + 3).toNat 0).toNat : Int) ∧ ((text.getD (i + 3).toNat 0).toNat : Int) < 256)) ∧
                  (if ((decide ((text.length : Int) ≤ i + 3)) || (decide (refHex ((text.getD (i + 3).toNat 0).toNat : Int) < 0))) = true then
                    (I64 (i + 3)) ∧
                    K 0 0 (i + 3)
                  else
                    (I64 (i + 2)) ∧
                    (0 ≤ (i + 2) ∧ (i + 2) < text.length) ∧
                    (0 ≤ ((text.getD (i + 2).toNat 0).toNat : Int) ∧ ((text.getD (i + 2).toNat 0).toNat : Int) < 256) ∧
                    (I64 (16 * (refHex ((text.getD (i + 2).toNat 0).toNat : Int)))) ∧
                    (I64 (i + 3)) ∧
                    (0 ≤ (i + 3) ∧ (i + 3) < text.length) ∧
                    (0 ≤ ((text.getD (i + 3).toNat 0).toNat : Int) ∧ ((text.getD (i + 3).toNat 0).toNat : Int) < 256) ∧
                    (I64 ((16 * (refHex ((text.getD (i + 2).toNat 0).toNat : Int))) + (refHex ((text.getD (i + 3).toNat 0).toNat : Int)))) ∧
                    (I64 (i + 4)) ∧
                    K (IntKind.wrap .u8 ((16 * (refHex ((text.getD (i + 2).toNat 0).toNat : Int))) + (refHex ((text.getD (i + 3).toNat 0).toNat : Int)))) (i + 4) (-1)))
              else
                (if (((decide (((text.getD (i + 1).toNat 0).toNat : Int) < 32)) || (decide (126 < ((text.getD (i + 1).toNat 0).toNat : Int)))) || ((((decide (97 ≤ ((text.getD (i + 1).toNat 0).toNat : Int))) && (decide (((text.getD (i + 1).toNat 0).toNat : Int) ≤ 122))) || ((decide (65 ≤ ((text.getD (i + 1).toNat 0).toNat : Int))) && (decide (((text.getD (i + 1).toNat 0).toNat : Int) ≤ 90)))) || ((decide (48 ≤ ((text.getD (i + 1).toNat 0).toNat : Int))) && (decide (((text.getD (i + 1).toNat 0).toNat : Int) ≤ 57))))) = true then
                  (I64 (i + 1)) ∧
                  K 0 0 (i + 1)
                else
                  (I64 (i + 2)) ∧
                  K ((text.getD (i + 1).toNat 0).toNat : Int) (i + 2) (-1)))))))))
set_option maxRecDepth 100000 in
theorem refsingle_wp  (text : List UInt8) (i : Int) (inner : Bool) (K : Int → Int → Int → Prop) (h : refsingle_vc text i inner K) :
    Does Tryd.prog 25 [st text, Value.int .i64 i, Value.bool inner] [] [] (fun o => (∃ (v : Int) (v_1' : Int) (v_2' : Int), K v v_1' v_2' ∧ o = .ret (Value.tuple #[Value.int .u8 v, Value.int .i64 v_1', Value.int .i64 v_2']) []) ∨ (False)) := by
  unfold refsingle_vc at h
  refine does_of_wc (n := 144) (L0 := [(0, st text), (1, Value.int .i64 i), (2, Value.bool inner)]) Tryd.func25 rfl rfl rfl rfl (fun w0 M Q hE => ?_)
  refine wc_seq (fun K0 hK => ?_)
  refine wc_region ?_
  refine WL.val (OV.assign rfl) rfl rfl rfl ?_
  refine WL.val (OV.assign rfl) rfl rfl rfl ?_
  refine WL.val (OV.assign rfl) rfl rfl rfl ?_
  refine WL.nil ?_
  refine KX.go (hK [(0, st text), (1, Value.int .i64 i), (2, Value.bool inner)] _ ?_) ⟨rfl, rfl, rfl, trivial⟩
  refine wc_seq (fun K0_1' hK_1' => ?_)
  refine wc_seq (fun K0_2' hK_2' => ?_)
  refine wc_region ?_
  refine WL.val (OV.move rfl) rfl rfl rfl ?_
  refine WL.val (OV.move rfl) rfl rfl rfl ?_
  refine WL.val (OV.len rfl tf_str_9) rfl rfl rfl ?_
  refine WL.val (OV.geq rfl rfl) rfl rfl rfl ?_
  refine WL.nil ?_
  refine KX.go (hK_2' [(0, st text), (1, Value.int .i64 i), (2, Value.bool inner), (16, Value.bool (decide ((text.length : Int) ≤ i)))] _ ?_) ⟨rfl, rfl, rfl, rfl, trivial⟩
  refine wc_cond (b := decide ((text.length : Int) ≤ i)) rfl (fun hb => ?_) (fun hb => ?_)
  · replace h := if_T h hb
    refine wc_seq (fun K0_3' hK_3' => ?_)
    refine wc_region ?_
    refine WL.val (OV.move rfl) rfl rfl rfl ?_
    refine WL.val (OV.len rfl tf_str_9) rfl rfl rfl ?_
    refine WL.val (OV.assign rfl) rfl rfl rfl ?_
    refine WL.val (OV.assign rfl) rfl rfl rfl ?_
    refine WL.val (OV.assign rfl) rfl rfl rfl ?_
    refine WL.nil ?_
    refine KX.go (hK_3' [(6, Value.int .u8 0), (7, Value.int .i64 0), (8, Value.int .i64 (text.length : Int))] _ ?_) ⟨rfl, rfl, rfl, trivial⟩
    refine wc_ret ?_
    exact hE.ret [] rfl rfl (.inl ⟨_, _, _, h, rfl⟩) (ResV.of3 rfl (RV.tmp rfl) (RV.tmp rfl) (RV.tmp rfl))
  · replace h := if_F h hb
    refine wc_skip ?_
    refine KX.go (hK_1' [(0, st text), (1, Value.int .i64 i), (2, Value.bool inner)] _ ?_) ⟨rfl, rfl, rfl, trivial⟩
    refine wc_seq (fun K0_4' hK_4' => ?_)
    refine wc_region ?_
    refine WL.val (OV.move rfl) rfl rfl rfl ?_
    refine WL.val (OV.move rfl) rfl rfl rfl ?_
    obtain ⟨o, h⟩ := h
    refine WL.val (OV.index rfl rfl tf_str_9 o) rfl rfl rfl ?_
    refine WL.val (OV.assign rfl) rfl rfl rfl ?_
    refine WL.nil ?_
    refine KX.go (hK_4' [(0, st text), (1, Value.int .i64 i), (2, Value.bool inner), (9, Value.int .u8 ((text.getD i.toNat 0).toNat : Int))] _ ?_) ⟨rfl, rfl, rfl, rfl, trivial⟩
    refine wc_seq (fun K0_5' hK_5' => ?_)
    refine wc_seq (fun K0_6' hK_6' => ?_)
    refine wc_region ?_
    refine WL.val (OV.move rfl) rfl rfl rfl ?_
    refine WL.val (OV.neq rfl rfl) rfl rfl rfl ?_
    refine WL.nil ?_
    refine KX.go (hK_6' [(0, st text), (1, Value.int .i64 i), (2, Value.bool inner), (9, Value.int .u8 ((text.getD i.toNat 0).toNat : Int)), (23, Value.bool (!decide (((text.getD i.toNat 0).toNat : Int) = 92)))] _ ?_) ⟨rfl, rfl, rfl, rfl, rfl, trivial⟩
    refine wc_cond (b := !decide (((text.getD i.toNat 0).toNat : Int) = 92)) rfl (fun hb => ?_) (fun hb => ?_)
    · replace h := if_T h hb
      refine wc_seq (fun K0_7' hK_7' => ?_)
      refine wc_region ?_
      refine WL.val (OV.move rfl) rfl rfl rfl ?_
      refine WL.val (OV.lss rfl rfl) rfl rfl rfl ?_
      refine WL.val (OV.move rfl) rfl rfl rfl ?_
      refine WL.cut 3 [(1, Value.int .i64 i), (2, Value.bool inner), (9, Value.int .u8 ((text.getD i.toNat 0).toNat : Int)), (29, Value.bool ((decide (((text.getD i.toNat 0).toNat : Int) < 32)) || (decide (126 < ((text.getD i.toNat 0).toNat : Int)))))] ?_ (fun K0_8' hK_8' => ?_)
      rotate_left
      · refine WL.split (decide (((text.getD i.toNat 0).toNat : Int) < 32)) (fun hb => ?_) (fun hb => ?_)
        · refine WL.set 26 rfl (congrArg Value.bool hb) ?_
          refine WL.skip rfl rfl rfl ?_
          refine WL.skip rfl rfl rfl ?_
          refine WL.val (OV.pickT rfl rfl) rfl rfl rfl ?_
          refine WL.set 29 rfl (oT (v := decide (126 < ((text.getD i.toNat 0).toNat : Int))) hb) ?_
          exact WL.end_ (KX.go hK_8' ⟨rfl, rfl, rfl, rfl, trivial⟩)
        · refine WL.set 26 rfl (congrArg Value.bool hb) ?_
          refine WL.val (OV.move rfl) rfl rfl rfl ?_
          refine WL.val (OV.gtr rfl rfl) rfl rfl rfl ?_
          refine WL.val (OV.pickF rfl rfl) rfl rfl rfl ?_
          refine WL.set 29 rfl (oF (v := decide (126 < ((text.getD i.toNat 0).toNat : Int))) hb) ?_
          exact WL.end_ (KX.go hK_8' ⟨rfl, rfl, rfl, rfl, trivial⟩)
      refine WL.val (OV.assign rfl) rfl rfl rfl ?_
      refine WL.nil ?_
      refine KX.go (hK_7' [(1, Value.int .i64 i), (2, Value.bool inner), (9, Value.int .u8 ((text.getD i.toNat 0).toNat : Int)), (10, Value.bool ((decide (((text.getD i.toNat 0).toNat : Int) < 32)) || (decide (126 < ((text.getD i.toNat 0).toNat : Int)))))] _ ?_) ⟨rfl, rfl, rfl, rfl, trivial⟩
      obtain ⟨J0, hJ, h⟩ := h
      refine wc_seqJ (X := Bool) (fun σ => J0 σ) (fun σ => [(1, Value.int .i64 i), (9, Value.int .u8 ((text.getD i.toNat 0).toNat : Int)), (10, Value.bool σ)]) (fun σ => []) ?_ (fun K0_12' hK_12' => ?_)
      · rintro bad hj
        replace h := hJ bad hj
        show WC _ _ _ _ [(1, Value.int .i64 i), (9, Value.int .u8 ((text.getD i.toNat 0).toNat : Int)), (10, Value.bool bad)] []
        refine wc_seq (fun K0_13' hK_13' => ?_)
        refine wc_seq (fun K0_14' hK_14' => ?_)
        refine wc_region ?_
        refine WL.val (OV.move rfl) rfl rfl rfl ?_
        refine WL.nil ?_
        refine KX.go (hK_14' [(1, Value.int .i64 i), (9, Value.int .u8 ((text.getD i.toNat 0).toNat : Int)), (41, Value.bool bad)] _ ?_) ⟨rfl, rfl, rfl, trivial⟩
        refine wc_cond (b := bad) rfl (fun hb => ?_) (fun hb => ?_)
        · replace h := if_T h hb
          refine wc_seq (fun K0_15' hK_15' => ?_)
          refine wc_region ?_
          refine WL.val (OV.move rfl) rfl rfl rfl ?_
          refine WL.val (OV.assign rfl) rfl rfl rfl ?_
          refine WL.val (OV.assign rfl) rfl rfl rfl ?_
          refine WL.val (OV.assign rfl) rfl rfl rfl ?_
          refine WL.nil ?_
          refine KX.go (hK_15' [(6, Value.int .u8 0), (7, Value.int .i64 0), (8, Value.int .i64 i)] _ ?_) ⟨rfl, rfl, rfl, trivial⟩
          refine wc_ret ?_
          exact hE.ret [] rfl rfl (.inl ⟨_, _, _, h, rfl⟩) (ResV.of3 rfl (RV.tmp rfl) (RV.tmp rfl) (RV.tmp rfl))
        · replace h := if_F h hb
          refine wc_skip ?_
          refine KX.go (hK_13' [(1, Value.int .i64 i), (9, Value.int .u8 ((text.getD i.toNat 0).toNat : Int))] _ ?_) ⟨rfl, rfl, trivial⟩
          refine wc_seq (fun K0_16' hK_16' => ?_)
          refine wc_region ?_
          refine WL.val (OV.move rfl) rfl rfl rfl ?_
          refine WL.val (OV.move rfl) rfl rfl rfl ?_
          obtain ⟨o_6', h⟩ := h
          refine WL.val (OV.add rfl rfl o_6') rfl rfl rfl ?_
          refine WL.val (OV.assign rfl) rfl rfl rfl ?_
          refine WL.val (OV.assign rfl) rfl rfl rfl ?_
          refine WL.val (OV.assign rfl) rfl rfl rfl ?_
          refine WL.nil ?_
          refine KX.go (hK_16' [(6, Value.int .u8 ((text.getD i.toNat 0).toNat : Int)), (7, Value.int .i64 (i + 1)), (8, Value.int .i64 (-1))] _ ?_) ⟨rfl, rfl, rfl, trivial⟩
          refine wc_ret ?_
          exact hE.ret [] rfl rfl (.inl ⟨_, _, _, h, rfl⟩) (ResV.of3 rfl (RV.tmp rfl) (RV.tmp rfl) (RV.tmp rfl))
      · skip
        refine wc_seq (fun K0_17' hK_17' => ?_)
        refine wc_region ?_
        refine WL.val (OV.move rfl) rfl rfl rfl ?_
        refine WL.nil ?_
        refine KX.go (hK_17' [(1, Value.int .i64 i), (9, Value.int .u8 ((text.getD i.toNat 0).toNat : Int)), (10, Value.bool ((decide (((text.getD i.toNat 0).toNat : Int) < 32)) || (decide (126 < ((text.getD i.toNat 0).toNat : Int))))), (30, Value.bool inner)] _ ?_) ⟨rfl, rfl, rfl, rfl, trivial⟩
        refine wc_cond (b := inner) rfl (fun hb => ?_) (fun hb => ?_)
        · replace h := if_T h hb
          refine wc_region ?_
          refine WL.val (OV.move rfl) rfl rfl rfl ?_
          refine WL.val (OV.move rfl) rfl rfl rfl ?_
          obtain ⟨o_8', h⟩ := h
          refine WL.cut 3 [(1, Value.int .i64 i), (9, Value.int .u8 ((text.getD i.toNat 0).toNat : Int)), (10, Value.bool ((decide (((text.getD i.toNat 0).toNat : Int) < 32)) || (decide (126 < ((text.getD i.toNat 0).toNat : Int))))), (35, Value.bool (((decide (((text.getD i.toNat 0).toNat : Int) < 32)) || (decide (126 < ((text.getD i.toNat 0).toNat : Int)))) || (inL.contains (((text.getD i.toNat 0).toNat : Int)).toNat.toUInt8)))] ?_ (fun K0_18' hK_18' => ?_)
          rotate_left
          · refine WL.split ((decide (((text.getD i.toNat 0).toNat : Int) < 32)) || (decide (126 < ((text.getD i.toNat 0).toNat : Int)))) (fun hb => ?_) (fun hb => ?_)
            · refine WL.set 32 rfl (congrArg Value.bool hb) ?_
              refine WL.skip rfl rfl rfl ?_
              refine WL.skip rfl rfl rfl ?_
              refine WL.val (OV.pickT rfl rfl) rfl rfl rfl ?_
              refine WL.set 35 rfl (oT (v := inL.contains (((text.getD i.toNat 0).toNat : Int)).toNat.toUInt8) hb) ?_
              exact WL.end_ (KX.go hK_18' ⟨rfl, rfl, rfl, rfl, trivial⟩)
            · have o_7' := o_8' hb
              refine WL.set 32 rfl (congrArg Value.bool hb) ?_
              refine WL.val (OV.move rfl) rfl rfl rfl ?_
              refine WL.call (A := []) tf_ent_22 rfl (inner_does ((text.getD i.toNat 0).toNat : Int) o_7') rfl trivial rfl rfl ?_
              refine WL.val (OV.pickF rfl rfl) rfl rfl rfl ?_
              refine WL.set 35 rfl (oF (v := inL.contains (((text.getD i.toNat 0).toNat : Int)).toNat.toUInt8) hb) ?_
              exact WL.end_ (KX.go hK_18' ⟨rfl, rfl, rfl, rfl, trivial⟩)
          refine WL.val (OV.assign rfl) rfl rfl rfl ?_
          refine WL.nil ?_
          exact KX.goH (hK_12' (((decide (((text.getD i.toNat 0).toNat : Int) < 32)) || (decide (126 < ((text.getD i.toNat 0).toNat : Int)))) || (inL.contains (((text.getD i.toNat 0).toNat : Int)).toNat.toUInt8)) h) ⟨rfl, rfl, rfl, trivial⟩ [] rfl rfl
        · replace h := if_F h hb
          refine wc_region ?_
          refine WL.val (OV.move rfl) rfl rfl rfl ?_
          refine WL.val (OV.move rfl) rfl rfl rfl ?_
          obtain ⟨o_10', h⟩ := h
          refine WL.cut 3 [(1, Value.int .i64 i), (9, Value.int .u8 ((text.getD i.toNat 0).toNat : Int)), (10, Value.bool ((decide (((text.getD i.toNat 0).toNat : Int) < 32)) || (decide (126 < ((text.getD i.toNat 0).toNat : Int))))), (40, Value.bool (((decide (((text.getD i.toNat 0).toNat : Int) < 32)) || (decide (126 < ((text.getD i.toNat 0).toNat : Int)))) || (spL.contains (((text.getD i.toNat 0).toNat : Int)).toNat.toUInt8)))] ?_ (fun K0_19' hK_19' => ?_)
          rotate_left
          · refine WL.split ((decide (((text.getD i.toNat 0).toNat : Int) < 32)) || (decide (126 < ((text.getD i.toNat 0).toNat : Int)))) (fun hb => ?_) (fun hb => ?_)
            · refine WL.set 37 rfl (congrArg Value.bool hb) ?_
              refine WL.skip rfl rfl rfl ?_
              refine WL.skip rfl rfl rfl ?_
              refine WL.val (OV.pickT rfl rfl) rfl rfl rfl ?_
              refine WL.set 40 rfl (oT (v := spL.contains (((text.getD i.toNat 0).toNat : Int)).toNat.toUInt8) hb) ?_
              exact WL.end_ (KX.go hK_19' ⟨rfl, rfl, rfl, rfl, trivial⟩)
            · have o_9' := o_10' hb
              refine WL.set 37 rfl (congrArg Value.bool hb) ?_
              refine WL.val (OV.move rfl) rfl rfl rfl ?_
              refine WL.call (A := []) tf_ent_21 rfl (special_does ((text.getD i.toNat 0).toNat : Int) o_9') rfl trivial rfl rfl ?_
              refine WL.val (OV.pickF rfl rfl) rfl rfl rfl ?_
              refine WL.set 40 rfl (oF (v := spL.contains (((text.getD i.toNat 0).toNat : Int)).toNat.toUInt8) hb) ?_
              exact WL.end_ (KX.go hK_19' ⟨rfl, rfl, rfl, rfl, trivial⟩)
          refine WL.val (OV.assign rfl) rfl rfl rfl ?_
          refine WL.nil ?_
          exact KX.goH (hK_12' (((decide (((text.getD i.toNat 0).toNat : Int) < 32)) || (decide (126 < ((text.getD i.toNat 0).toNat : Int)))) || (spL.contains (((text.getD i.toNat 0).toNat : Int)).toNat.toUInt8)) h) ⟨rfl, rfl, rfl, trivial⟩ [] rfl rfl
    · replace h := if_F h hb
      refine wc_skip ?_
      refine KX.go (hK_5' [(0, st text), (1, Value.int .i64 i)] _ ?_) ⟨rfl, rfl, trivial⟩
      refine wc_seq (fun K0_20' hK_20' => ?_)
      refine wc_seq (fun K0_21' hK_21' => ?_)
      refine wc_region ?_
      refine WL.val (OV.move rfl) rfl rfl rfl ?_
      obtain ⟨o_11', h⟩ := h
      refine WL.val (OV.add rfl rfl o_11') rfl rfl rfl ?_
      refine WL.val (OV.move rfl) rfl rfl rfl ?_
      refine WL.val (OV.len rfl tf_str_9) rfl rfl rfl ?_
      refine WL.val (OV.geq rfl rfl) rfl rfl rfl ?_
      refine WL.nil ?_
      refine KX.go (hK_21' [(0, st text), (1, Value.int .i64 i), (50, Value.bool (decide ((text.length : Int) ≤ i + 1)))] _ ?_) ⟨rfl, rfl, rfl, trivial⟩
      refine wc_cond (b := decide ((text.length : Int) ≤ i + 1)) rfl (fun hb => ?_) (fun hb => ?_)
      · replace h := if_T h hb
        refine wc_seq (fun K0_22' hK_22' => ?_)
        refine wc_region ?_
        refine WL.val (OV.move rfl) rfl rfl rfl ?_
        refine WL.val (OV.len rfl tf_str_9) rfl rfl rfl ?_
        refine WL.val (OV.assign rfl) rfl rfl rfl ?_
        refine WL.val (OV.assign rfl) rfl rfl rfl ?_
        refine WL.val (OV.assign rfl) rfl rfl rfl ?_
        refine WL.nil ?_
        refine KX.go (hK_22' [(6, Value.int .u8 0), (7, Value.int .i64 0), (8, Value.int .i64 (text.length : Int))] _ ?_) ⟨rfl, rfl, rfl, trivial⟩
        refine wc_ret ?_
        exact hE.ret [] rfl rfl (.inl ⟨_, _, _, h, rfl⟩) (ResV.of3 rfl (RV.tmp rfl) (RV.tmp rfl) (RV.tmp rfl))
      · replace h := if_F h hb
        refine wc_skip ?_
        refine KX.go (hK_20' [(0, st text), (1, Value.int .i64 i)] _ ?_) ⟨rfl, rfl, trivial⟩
        refine wc_seq (fun K0_23' hK_23' => ?_)
        refine wc_region ?_
        refine WL.val (OV.move rfl) rfl rfl rfl ?_
        refine WL.val (OV.move rfl) rfl rfl rfl ?_
        obtain ⟨o_12', h⟩ := h
        refine WL.val (OV.add rfl rfl o_12') rfl rfl rfl ?_
        obtain ⟨o_13', h⟩ := h
        refine WL.val (OV.index rfl rfl tf_str_9 o_13') rfl rfl rfl ?_
        refine WL.val (OV.assign rfl) rfl rfl rfl ?_
        refine WL.nil ?_
        refine KX.go (hK_23' [(0, st text), (1, Value.int .i64 i), (9, Value.int .u8 ((text.getD (i + 1).toNat 0).toNat : Int))] _ ?_) ⟨rfl, rfl, rfl, trivial⟩
        refine wc_seq (fun K0_24' hK_24' => ?_)
        refine wc_seq (fun K0_25' hK_25' => ?_)
        refine wc_region ?_
        refine WL.val (OV.move rfl) rfl rfl rfl ?_
        refine WL.val (OV.eql rfl rfl) rfl rfl rfl ?_
        refine WL.nil ?_
        refine KX.go (hK_25' [(0, st text), (1, Value.int .i64 i), (9, Value.int .u8 ((text.getD (i + 1).toNat 0).toNat : Int)), (58, Value.bool (decide (((text.getD (i + 1).toNat 0).toNat : Int) = 110)))] _ ?_) ⟨rfl, rfl, rfl, rfl, trivial⟩
        refine wc_cond (b := decide (((text.getD (i + 1).toNat 0).toNat : Int) = 110)) rfl (fun hb => ?_) (fun hb => ?_)
        · replace h := if_T h hb
          refine wc_seq (fun K0_26' hK_26' => ?_)
          refine wc_region ?_
          refine WL.val (OV.move rfl) rfl rfl rfl ?_
          obtain ⟨o_14', h⟩ := h
          refine WL.val (OV.add rfl rfl o_14') rfl rfl rfl ?_
          refine WL.val (OV.assign rfl) rfl rfl rfl ?_
          refine WL.val (OV.assign rfl) rfl rfl rfl ?_
          refine WL.val (OV.assign rfl) rfl rfl rfl ?_
          refine WL.nil ?_
          refine KX.go (hK_26' [(6, Value.int .u8 10), (7, Value.int .i64 (i + 2)), (8, Value.int .i64 (-1))] _ ?_) ⟨rfl, rfl, rfl, trivial⟩
          refine wc_ret ?_
          exact hE.ret [] rfl rfl (.inl ⟨_, _, _, h, rfl⟩) (ResV.of3 rfl (RV.tmp rfl) (RV.tmp rfl) (RV.tmp rfl))
        · replace h := if_F h hb
          refine wc_skip ?_
          refine KX.go (hK_24' [(0, st text), (1, Value.int .i64 i), (9, Value.int .u8 ((text.getD (i + 1).toNat 0).toNat : Int))] _ ?_) ⟨rfl, rfl, rfl, trivial⟩
          refine wc_seq (fun K0_27' hK_27' => ?_)
          refine wc_seq (fun K0_28' hK_28' => ?_)
          refine wc_region ?_
          refine WL.val (OV.move rfl) rfl rfl rfl ?_
          refine WL.val (OV.eql rfl rfl) rfl rfl rfl ?_
          refine WL.nil ?_
          refine KX.go (hK_28' [(0, st text), (1, Value.int .i64 i), (9, Value.int .u8 ((text.getD (i + 1).toNat 0).toNat : Int)), (62, Value.bool (decide (((text.getD (i + 1).toNat 0).toNat : Int) = 114)))] _ ?_) ⟨rfl, rfl, rfl, rfl, trivial⟩
          refine wc_cond (b := decide (((text.getD (i + 1).toNat 0).toNat : Int) = 114)) rfl (fun hb => ?_) (fun hb => ?_)
          · replace h := if_T h hb
            refine wc_seq (fun K0_29' hK_29' => ?_)
            refine wc_region ?_
            refine WL.val (OV.move rfl) rfl rfl rfl ?_
            obtain ⟨o_15', h⟩ := h
            refine WL.val (OV.add rfl rfl o_15') rfl rfl rfl ?_
            refine WL.val (OV.assign rfl) rfl rfl rfl ?_
            refine WL.val (OV.assign rfl) rfl rfl rfl ?_
            refine WL.val (OV.assign rfl) rfl rfl rfl ?_
            refine WL.nil ?_
            refine KX.go (hK_29' [(6, Value.int .u8 13), (7, Value.int .i64 (i + 2)), (8, Value.int .i64 (-1))] _ ?_) ⟨rfl, rfl, rfl, trivial⟩
            refine wc_ret ?_
            exact hE.ret [] rfl rfl (.inl ⟨_, _, _, h, rfl⟩) (ResV.of3 rfl (RV.tmp rfl) (RV.tmp rfl) (RV.tmp rfl))
          · replace h := if_F h hb
            refine wc_skip ?_
            refine KX.go (hK_27' [(0, st text), (1, Value.int .i64 i), (9, Value.int .u8 ((text.getD (i + 1).toNat 0).toNat : Int))] _ ?_) ⟨rfl, rfl, rfl, trivial⟩
            refine wc_seq (fun K0_30' hK_30' => ?_)
            refine wc_seq (fun K0_31' hK_31' => ?_)
            refine wc_region ?_
            refine WL.val (OV.move rfl) rfl rfl rfl ?_
            refine WL.val (OV.eql rfl rfl) rfl rfl rfl ?_
            refine WL.nil ?_
            refine KX.go (hK_31' [(0, st text), (1, Value.int .i64 i), (9, Value.int .u8 ((text.getD (i + 1).toNat 0).toNat : Int)), (66, Value.bool (decide (((text.getD (i + 1).toNat 0).toNat : Int) = 116)))] _ ?_) ⟨rfl, rfl, rfl, rfl, trivial⟩
            refine wc_cond (b := decide (((text.getD (i + 1).toNat 0).toNat : Int) = 116)) rfl (fun hb => ?_) (fun hb => ?_)
            · replace h := if_T h hb
              refine wc_seq (fun K0_32' hK_32' => ?_)
              refine wc_region ?_
              refine WL.val (OV.move rfl) rfl rfl rfl ?_
              obtain ⟨o_16', h⟩ := h
              refine WL.val (OV.add rfl rfl o_16') rfl rfl rfl ?_
              refine WL.val (OV.assign rfl) rfl rfl rfl ?_
              refine WL.val (OV.assign rfl) rfl rfl rfl ?_
              refine WL.val (OV.assign rfl) rfl rfl rfl ?_
              refine WL.nil ?_
              refine KX.go (hK_32' [(6, Value.int .u8 9), (7, Value.int .i64 (i + 2)), (8, Value.int .i64 (-1))] _ ?_) ⟨rfl, rfl, rfl, trivial⟩
              refine wc_ret ?_
              exact hE.ret [] rfl rfl (.inl ⟨_, _, _, h, rfl⟩) (ResV.of3 rfl (RV.tmp rfl) (RV.tmp rfl) (RV.tmp rfl))
            · replace h := if_F h hb
              refine wc_skip ?_
              refine KX.go (hK_30' [(0, st text), (1, Value.int .i64 i), (9, Value.int .u8 ((text.getD (i + 1).toNat 0).toNat : Int))] _ ?_) ⟨rfl, rfl, rfl, trivial⟩
              refine wc_seq (fun K0_33' hK_33' => ?_)
              refine wc_seq (fun K0_34' hK_34' => ?_)
              refine wc_region ?_
              refine WL.val (OV.move rfl) rfl rfl rfl ?_
              refine WL.val (OV.eql rfl rfl) rfl rfl rfl ?_
              refine WL.nil ?_
              refine KX.go (hK_34' [(0, st text), (1, Value.int .i64 i), (9, Value.int .u8 ((text.getD (i + 1).toNat 0).toNat : Int)), (70, Value.bool (decide (((text.getD (i + 1).toNat 0).toNat : Int) = 120)))] _ ?_) ⟨rfl, rfl, rfl, rfl, trivial⟩
              refine wc_cond (b := decide (((text.getD (i + 1).toNat 0).toNat : Int) = 120)) rfl (fun hb => ?_) (fun hb => ?_)
              · replace h := if_T h hb
                refine wc_seq (fun K0_35' hK_35' => ?_)
                refine wc_seq (fun K0_36' hK_36' => ?_)
                refine wc_region ?_
                refine WL.val (OV.assign rfl) rfl rfl rfl ?_
                refine WL.nil ?_
                refine KX.go (hK_36' [(0, st text), (1, Value.int .i64 i), (11, Value.int .i64 2)] _ ?_) ⟨rfl, rfl, rfl, trivial⟩
                refine wc_block ?_
                refine wc_rounds 3 ?_
                refine RC.succ (fun K0_37' hK_37' => ?_)
                refine wc_seq (fun K0_38' hK_38' => ?_)
                refine wc_seq (fun K0_39' hK_39' => ?_)
                refine wc_region ?_
                refine WL.val (OV.move rfl) rfl rfl rfl ?_
                refine WL.val (OV.lss rfl rfl) rfl rfl rfl ?_
                refine WL.nil ?_
                refine KX.go (hK_39' [(0, st text), (1, Value.int .i64 i), (11, Value.int .i64 2), (72, Value.bool true)] _ ?_) ⟨rfl, rfl, rfl, rfl, trivial⟩
                refine wc_condT rfl ?_
                refine wc_skip ?_
                refine KX.go (hK_38' [(0, st text), (1, Value.int .i64 i), (11, Value.int .i64 2)] _ ?_) ⟨rfl, rfl, rfl, trivial⟩
                refine wc_seq (fun K0_40' hK_40' => ?_)
                refine wc_block ?_
                refine wc_seq (fun K0_41' hK_41' => ?_)
                refine wc_region ?_
                refine WL.val (OV.move rfl) rfl rfl rfl ?_
                refine WL.val (OV.move rfl) rfl rfl rfl ?_
                obtain ⟨o_17', h⟩ := h
                refine WL.val (OV.add rfl rfl o_17') rfl rfl rfl ?_
                refine WL.val (OV.move rfl) rfl rfl rfl ?_
                refine WL.val (OV.len rfl tf_str_9) rfl rfl rfl ?_
                refine WL.val (OV.geq rfl rfl) rfl rfl rfl ?_
                refine WL.val (OV.move rfl) rfl rfl rfl ?_
                obtain ⟨o_21', h⟩ := h
                refine WL.cut 8 [(0, st text), (1, Value.int .i64 i), (11, Value.int .i64 2), (89, Value.bool ((decide ((text.length : Int) ≤ i + 2)) || (decide (refHex ((text.getD (i + 2).toNat 0).toNat : Int) < 0))))] ?_ (fun K0_42' hK_42' => ?_)
                rotate_left
                · refine WL.split (decide ((text.length : Int) ≤ i + 2)) (fun hb => ?_) (fun hb => ?_)
                  · refine WL.set 81 rfl (congrArg Value.bool hb) ?_
                    refine WL.skip rfl rfl rfl ?_
                    refine WL.skip rfl rfl rfl ?_
                    refine WL.skip rfl rfl rfl ?_
                    refine WL.skip rfl rfl rfl ?_
                    refine WL.skip rfl rfl rfl ?_
                    refine WL.skip rfl rfl rfl ?_
                    refine WL.skip rfl rfl rfl ?_
                    refine WL.val (OV.pickT rfl rfl) rfl rfl rfl ?_
                    refine WL.set 89 rfl (oT (v := decide (refHex ((text.getD (i + 2).toNat 0).toNat : Int) < 0)) hb) ?_
                    exact WL.end_ (KX.go hK_42' ⟨rfl, rfl, rfl, rfl, trivial⟩)
                  · obtain ⟨o_18', o_19', o_20'⟩ := o_21' hb
                    refine WL.set 81 rfl (congrArg Value.bool hb) ?_
                    refine WL.val (OV.move rfl) rfl rfl rfl ?_
                    refine WL.val (OV.move rfl) rfl rfl rfl ?_
                    refine WL.val (OV.move rfl) rfl rfl rfl ?_
                    refine WL.val (OV.add rfl rfl o_18') rfl rfl rfl ?_
                    refine WL.val (OV.index rfl rfl tf_str_9 o_19') rfl rfl rfl ?_
                    refine WL.call (A := []) tf_ent_33 rfl (refhex_does ((text.getD (i + 2).toNat 0).toNat : Int) o_20') rfl trivial rfl rfl ?_
                    refine WL.val (OV.lss rfl rfl) rfl rfl rfl ?_
                    refine WL.val (OV.pickF rfl rfl) rfl rfl rfl ?_
                    refine WL.set 89 rfl (oF (v := decide (refHex ((text.getD (i + 2).toNat 0).toNat : Int) < 0)) hb) ?_
                    exact WL.end_ (KX.go hK_42' ⟨rfl, rfl, rfl, rfl, trivial⟩)
                refine WL.nil ?_
                refine KX.go (hK_41' [(0, st text), (1, Value.int .i64 i), (11, Value.int .i64 2), (89, Value.bool ((decide ((text.length : Int) ≤ i + 2)) || (decide (refHex ((text.getD (i + 2).toNat 0).toNat : Int) < 0))))] _ ?_) ⟨rfl, rfl, rfl, rfl, trivial⟩
                refine wc_cond (b := (decide ((text.length : Int) ≤ i + 2)) || (decide (refHex ((text.getD (i + 2).toNat 0).toNat : Int) < 0))) rfl (fun hb => ?_) (fun hb => ?_)
                · replace h := if_T h hb
                  refine wc_seq (fun K0_43' hK_43' => ?_)
                  refine wc_region ?_
                  refine WL.val (OV.move rfl) rfl rfl rfl ?_
                  refine WL.val (OV.move rfl) rfl rfl rfl ?_
                  obtain ⟨o_22', h⟩ := h
                  refine WL.val (OV.add rfl rfl o_22') rfl rfl rfl ?_
                  refine WL.val (OV.assign rfl) rfl rfl rfl ?_
                  refine WL.val (OV.assign rfl) rfl rfl rfl ?_
                  refine WL.val (OV.assign rfl) rfl rfl rfl ?_
                  refine WL.nil ?_
                  refine KX.go (hK_43' [(6, Value.int .u8 0), (7, Value.int .i64 0), (8, Value.int .i64 (i + 2))] _ ?_) ⟨rfl, rfl, rfl, trivial⟩
                  refine wc_ret ?_
                  exact hE.ret [] rfl rfl (.inl ⟨_, _, _, h, rfl⟩) (ResV.of3 rfl (RV.tmp rfl) (RV.tmp rfl) (RV.tmp rfl))
                · replace h := if_F h hb
                  refine wc_skip ?_
                  refine KX.go (hK_40' [(0, st text), (1, Value.int .i64 i), (11, Value.int .i64 2)] _ ?_) ⟨rfl, rfl, rfl, trivial⟩
                  refine wc_region ?_
                  refine WL.val (OV.move rfl) rfl rfl rfl ?_
                  refine WL.val (OV.add rfl rfl ⟨by decide, by decide⟩) rfl rfl rfl ?_
                  refine WL.val (OV.assign rfl) rfl rfl rfl ?_
                  refine WL.nil ?_
                  refine KX.go (hK_37' [(0, st text), (1, Value.int .i64 i), (11, Value.int .i64 3)] _ ?_) ⟨rfl, rfl, rfl, trivial⟩
                  refine RC.succ (fun K0_44' hK_44' => ?_)
                  refine wc_seq (fun K0_45' hK_45' => ?_)
                  refine wc_seq (fun K0_46' hK_46' => ?_)
                  refine wc_region ?_
                  refine WL.val (OV.move rfl) rfl rfl rfl ?_
                  refine WL.val (OV.lss rfl rfl) rfl rfl rfl ?_
                  refine WL.nil ?_
                  refine KX.go (hK_46' [(0, st text), (1, Value.int .i64 i), (11, Value.int .i64 3), (72, Value.bool true)] _ ?_) ⟨rfl, rfl, rfl, rfl, trivial⟩
                  refine wc_condT rfl ?_
                  refine wc_skip ?_
                  refine KX.go (hK_45' [(0, st text), (1, Value.int .i64 i), (11, Value.int .i64 3)] _ ?_) ⟨rfl, rfl, rfl, trivial⟩
                  refine wc_seq (fun K0_47' hK_47' => ?_)
                  refine wc_block ?_
                  refine wc_seq (fun K0_48' hK_48' => ?_)
                  refine wc_region ?_
                  refine WL.val (OV.move rfl) rfl rfl rfl ?_
                  refine WL.val (OV.move rfl) rfl rfl rfl ?_
                  obtain ⟨o_23', h⟩ := h
                  refine WL.val (OV.add rfl rfl o_23') rfl rfl rfl ?_
                  refine WL.val (OV.move rfl) rfl rfl rfl ?_
                  refine WL.val (OV.len rfl tf_str_9) rfl rfl rfl ?_
                  refine WL.val (OV.geq rfl rfl) rfl rfl rfl ?_
                  refine WL.val (OV.move rfl) rfl rfl rfl ?_
                  obtain ⟨o_27', h⟩ := h
                  refine WL.cut 8 [(0, st text), (1, Value.int .i64 i), (11, Value.int .i64 3), (89, Value.bool ((decide ((text.length : Int) ≤ i + 3)) || (decide (refHex ((text.getD (i + 3).toNat 0).toNat : Int) < 0))))] ?_ (fun K0_49' hK_49' => ?_)
                  rotate_left
                  · refine WL.split (decide ((text.length : Int) ≤ i + 3)) (fun hb => ?_) (fun hb => ?_)
                    · refine WL.set 81 rfl (congrArg Value.bool hb) ?_
                      refine WL.skip rfl rfl rfl ?_
                      refine WL.skip rfl rfl rfl ?_
                      refine WL.skip rfl rfl rfl ?_
                      refine WL.skip rfl rfl rfl ?_
                      refine WL.skip rfl rfl rfl ?_
                      refine WL.skip rfl rfl rfl ?_
                      refine WL.skip rfl rfl rfl ?_
                      refine WL.val (OV.pickT rfl rfl) rfl rfl rfl ?_
                      refine WL.set 89 rfl (oT (v := decide (refHex ((text.getD (i + 3).toNat 0).toNat : Int) < 0)) hb) ?_
                      exact WL.end_ (KX.go hK_49' ⟨rfl, rfl, rfl, rfl, trivial⟩)
                    · obtain ⟨o_24', o_25', o_26'⟩ := o_27' hb
                      refine WL.set 81 rfl (congrArg Value.bool hb) ?_
                      refine WL.val (OV.move rfl) rfl rfl rfl ?_
                      refine WL.val (OV.move rfl) rfl rfl rfl ?_
                      refine WL.val (OV.move rfl) rfl rfl rfl ?_
                      refine WL.val (OV.add rfl rfl o_24') rfl rfl rfl ?_
                      refine WL.val (OV.index rfl rfl tf_str_9 o_25') rfl rfl rfl ?_
                      refine WL.call (A := []) tf_ent_33 rfl (refhex_does ((text.getD (i + 3).toNat 0).toNat : Int) o_26') rfl trivial rfl rfl ?_
                      refine WL.val (OV.lss rfl rfl) rfl rfl rfl ?_
                      refine WL.val (OV.pickF rfl rfl) rfl rfl rfl ?_
                      refine WL.set 89 rfl (oF (v := decide (refHex ((text.getD (i + 3).toNat 0).toNat : Int) < 0)) hb) ?_
                      exact WL.end_ (KX.go hK_49' ⟨rfl, rfl, rfl, rfl, trivial⟩)
                  refine WL.nil ?_
                  refine KX.go (hK_48' [(0, st text), (1, Value.int .i64 i), (11, Value.int .i64 3), (89, Value.bool ((decide ((text.length : Int) ≤ i + 3)) || (decide (refHex ((text.getD (i + 3).toNat 0).toNat : Int) < 0))))] _ ?_) ⟨rfl, rfl, rfl, rfl, trivial⟩
                  refine wc_cond (b := (decide ((text.length : Int) ≤ i + 3)) || (decide (refHex ((text.getD (i + 3).toNat 0).toNat : Int) < 0))) rfl (fun hb => ?_) (fun hb => ?_)
                  · replace h := if_T h hb
                    refine wc_seq (fun K0_50' hK_50' => ?_)
                    refine wc_region ?_
                    refine WL.val (OV.move rfl) rfl rfl rfl ?_
                    refine WL.val (OV.move rfl) rfl rfl rfl ?_
                    obtain ⟨o_28', h⟩ := h
                    refine WL.val (OV.add rfl rfl o_28') rfl rfl rfl ?_
                    refine WL.val (OV.assign rfl) rfl rfl rfl ?_
                    refine WL.val (OV.assign rfl) rfl rfl rfl ?_
                    refine WL.val (OV.assign rfl) rfl rfl rfl ?_
                    refine WL.nil ?_
                    refine KX.go (hK_50' [(6, Value.int .u8 0), (7, Value.int .i64 0), (8, Value.int .i64 (i + 3))] _ ?_) ⟨rfl, rfl, rfl, trivial⟩
                    refine wc_ret ?_
                    exact hE.ret [] rfl rfl (.inl ⟨_, _, _, h, rfl⟩) (ResV.of3 rfl (RV.tmp rfl) (RV.tmp rfl) (RV.tmp rfl))
                  · replace h := if_F h hb
                    refine wc_skip ?_
                    refine KX.go (hK_47' [(0, st text), (1, Value.int .i64 i), (11, Value.int .i64 3)] _ ?_) ⟨rfl, rfl, rfl, trivial⟩
                    refine wc_region ?_
                    refine WL.val (OV.move rfl) rfl rfl rfl ?_
                    refine WL.val (OV.add rfl rfl ⟨by decide, by decide⟩) rfl rfl rfl ?_
                    refine WL.val (OV.assign rfl) rfl rfl rfl ?_
                    refine WL.nil ?_
                    refine KX.go (hK_44' [(0, st text), (1, Value.int .i64 i), (11, Value.int .i64 4)] _ ?_) ⟨rfl, rfl, rfl, trivial⟩
                    refine RC.succ (fun K0_51' hK_51' => ?_)
                    refine wc_seq (fun K0_52' hK_52' => ?_)
                    refine wc_seq (fun K0_53' hK_53' => ?_)
                    refine wc_region ?_
                    refine WL.val (OV.move rfl) rfl rfl rfl ?_
                    refine WL.val (OV.lss rfl rfl) rfl rfl rfl ?_
                    refine WL.nil ?_
                    refine KX.go (hK_53' [(0, st text), (1, Value.int .i64 i), (11, Value.int .i64 4), (72, Value.bool false)] _ ?_) ⟨rfl, rfl, rfl, rfl, trivial⟩
                    refine wc_condF rfl ?_
                    refine wc_exit ?_
                    refine KX.go (hK_35' [(0, st text), (1, Value.int .i64 i)] _ ?_) ⟨rfl, rfl, trivial⟩
                    refine wc_seq (fun K0_54' hK_54' => ?_)
                    refine wc_draw 16 [] tf_mixed (by kernel_rfl) rfl (fun T hT => ?_)
                    refine FL.val (fun _ => OV.move rfl) rfl (fun _ => rfl) rfl rfl ?_
                    refine FL.val (fun _ => OV.move rfl) rfl (fun _ => rfl) rfl rfl ?_
                    obtain ⟨o_29', h⟩ := h
                    refine FL.val (fun _ => OV.add rfl rfl o_29') rfl (fun _ => rfl) rfl rfl ?_
                    obtain ⟨o_30', h⟩ := h
                    refine FL.val (fun _ => OV.index rfl rfl tf_str_9 o_30') rfl (fun _ => rfl) rfl rfl ?_
                    obtain ⟨o_31', h⟩ := h
                    refine FL.call tf_ent_33 (fun _ => rfl) (refhex_does ((text.getD (i + 2).toNat 0).toNat : Int) o_31') trivial rfl (fun _ => rfl) rfl ?_
                    obtain ⟨o_32', h⟩ := h
                    refine FL.val (fun _ => OV.mul rfl rfl o_32') rfl (fun _ => rfl) rfl rfl ?_
                    refine FL.val (fun _ => OV.move rfl) rfl (fun _ => rfl) rfl rfl ?_
                    refine FL.val (fun _ => OV.move rfl) rfl (fun _ => rfl) rfl rfl ?_
                    obtain ⟨o_33', h⟩ := h
                    refine FL.val (fun _ => OV.add rfl rfl o_33') rfl (fun _ => rfl) rfl rfl ?_
                    obtain ⟨o_34', h⟩ := h
                    refine FL.val (fun _ => OV.index rfl rfl tf_str_9 o_34') rfl (fun _ => rfl) rfl rfl ?_
                    obtain ⟨o_35', h⟩ := h
                    refine FL.call tf_ent_33 (fun _ => rfl) (refhex_does ((text.getD (i + 3).toNat 0).toNat : Int) o_35') trivial rfl (fun _ => rfl) rfl ?_
                    obtain ⟨o_36', h⟩ := h
                    refine FL.val (fun _ => OV.add rfl rfl o_36') rfl (fun _ => rfl) rfl rfl ?_
                    refine FL.val (fun _ => OV.conv rfl tf_some_3 Tryd.underlying5) rfl (fun _ => rfl) rfl rfl ?_
                    refine FL.val (fun _ => OV.move rfl) rfl (fun _ => rfl) rfl rfl ?_
                    obtain ⟨o_37', h⟩ := h
                    refine FL.val (fun _ => OV.add rfl rfl o_37') rfl (fun _ => rfl) rfl rfl ?_
                    refine FL.val (fun _ => OV.assign rfl) rfl (fun _ => rfl) rfl rfl ?_
                    refine FL.weak (L' := fun γ => [(6, Value.int .u8 (IntKind.wrap .u8 ((16 * (refHex ((text.getD (i + 2).toNat 0).toNat : Int))) + (refHex ((text.getD (i + 3).toNat 0).toNat : Int))))), (107, Value.int .i64 (i + 4))]) (fun γ => ⟨rfl, rfl, trivial⟩) (FL.nil (hT (fun γ => [(6, Value.int .u8 (IntKind.wrap .u8 ((16 * (refHex ((text.getD (i + 2).toNat 0).toNat : Int))) + (refHex ((text.getD (i + 3).toNat 0).toNat : Int))))), (107, Value.int .i64 (i + 4))]) (fun γ => ?_)))
                    refine WL.val (OV.assign rfl) rfl rfl rfl ?_
                    refine WL.val (OV.assign rfl) rfl rfl rfl ?_
                    refine WL.nil ?_
                    refine KX.go (hK_54' [(6, Value.int .u8 (IntKind.wrap .u8 ((16 * (refHex ((text.getD (i + 2).toNat 0).toNat : Int))) + (refHex ((text.getD (i + 3).toNat 0).toNat : Int))))), (7, Value.int .i64 (i + 4)), (8, Value.int .i64 (-1))] _ ?_) ⟨rfl, rfl, rfl, trivial⟩
                    refine wc_ret ?_
                    exact hE.ret [] rfl rfl (.inl ⟨_, _, _, h, rfl⟩) (ResV.of3 rfl (RV.tmp rfl) (RV.tmp rfl) (RV.tmp rfl))
              · replace h := if_F h hb
                refine wc_skip ?_
                refine KX.go (hK_33' [(1, Value.int .i64 i), (9, Value.int .u8 ((text.getD (i + 1).toNat 0).toNat : Int))] _ ?_) ⟨rfl, rfl, trivial⟩
                refine wc_seq (fun K0_55' hK_55' => ?_)
                refine wc_region ?_
                refine WL.val (OV.move rfl) rfl rfl rfl ?_
                refine WL.val (OV.geq rfl rfl) rfl rfl rfl ?_
                refine WL.val (OV.move rfl) rfl rfl rfl ?_
                refine WL.cut 3 [(1, Value.int .i64 i), (9, Value.int .u8 ((text.getD (i + 1).toNat 0).toNat : Int)), (113, Value.bool ((decide (97 ≤ ((text.getD (i + 1).toNat 0).toNat : Int))) && (decide (((text.getD (i + 1).toNat 0).toNat : Int) ≤ 122))))] ?_ (fun K0_56' hK_56' => ?_)
                rotate_left
                · refine WL.split (decide (97 ≤ ((text.getD (i + 1).toNat 0).toNat : Int))) (fun hb => ?_) (fun hb => ?_)
                  · refine WL.set 110 rfl (congrArg Value.bool hb) ?_
                    refine WL.val (OV.move rfl) rfl rfl rfl ?_
                    refine WL.val (OV.leq rfl rfl) rfl rfl rfl ?_
                    refine WL.val (OV.pickT rfl rfl) rfl rfl rfl ?_
                    refine WL.set 113 rfl (bT (v := decide (((text.getD (i + 1).toNat 0).toNat : Int) ≤ 122)) hb) ?_
                    exact WL.end_ (KX.go hK_56' ⟨rfl, rfl, rfl, trivial⟩)
                  · refine WL.set 110 rfl (congrArg Value.bool hb) ?_
                    refine WL.skip rfl rfl rfl ?_
                    refine WL.skip rfl rfl rfl ?_
                    refine WL.val (OV.pickF rfl rfl) rfl rfl rfl ?_
                    refine WL.set 113 rfl (bF (v := decide (((text.getD (i + 1).toNat 0).toNat : Int) ≤ 122)) hb) ?_
                    exact WL.end_ (KX.go hK_56' ⟨rfl, rfl, rfl, trivial⟩)
                refine WL.val (OV.move rfl) rfl rfl rfl ?_
                refine WL.cut 7 [(1, Value.int .i64 i), (9, Value.int .u8 ((text.getD (i + 1).toNat 0).toNat : Int)), (121, Value.bool (((decide (97 ≤ ((text.getD (i + 1).toNat 0).toNat : Int))) && (decide (((text.getD (i + 1).toNat 0).toNat : Int) ≤ 122))) || ((decide (65 ≤ ((text.getD (i + 1).toNat 0).toNat : Int))) && (decide (((text.getD (i + 1).toNat 0).toNat : Int) ≤ 90)))))] ?_ (fun K0_58' hK_58' => ?_)
                rotate_left
                · refine WL.split ((decide (97 ≤ ((text.getD (i + 1).toNat 0).toNat : Int))) && (decide (((text.getD (i + 1).toNat 0).toNat : Int) ≤ 122))) (fun hb => ?_) (fun hb => ?_)
                  · refine WL.set 114 rfl (congrArg Value.bool hb) ?_
                    refine WL.skip rfl rfl rfl ?_
                    refine WL.skip rfl rfl rfl ?_
                    refine WL.skip rfl rfl rfl ?_
                    refine WL.skip rfl rfl rfl ?_
                    refine WL.skip rfl rfl rfl ?_
                    refine WL.skip rfl rfl rfl ?_
                    refine WL.val (OV.pickT rfl rfl) rfl rfl rfl ?_
                    refine WL.set 121 rfl (oT (v := (decide (65 ≤ ((text.getD (i + 1).toNat 0).toNat : Int))) && (decide (((text.getD (i + 1).toNat 0).toNat : Int) ≤ 90))) hb) ?_
                    exact WL.end_ (KX.go hK_58' ⟨rfl, rfl, rfl, trivial⟩)
                  · refine WL.set 114 rfl (congrArg Value.bool hb) ?_
                    refine WL.val (OV.move rfl) rfl rfl rfl ?_
                    refine WL.val (OV.geq rfl rfl) rfl rfl rfl ?_
                    refine WL.val (OV.move rfl) rfl rfl rfl ?_
                    refine WL.cut 3 [(1, Value.int .i64 i), (9, Value.int .u8 ((text.getD (i + 1).toNat 0).toNat : Int)), (114, Value.bool false), (120, Value.bool ((decide (65 ≤ ((text.getD (i + 1).toNat 0).toNat : Int))) && (decide (((text.getD (i + 1).toNat 0).toNat : Int) ≤ 90))))] ?_ (fun K0_57' hK_57' => ?_)
                    rotate_left
                    · refine WL.split (decide (65 ≤ ((text.getD (i + 1).toNat 0).toNat : Int))) (fun hb => ?_) (fun hb => ?_)
                      · refine WL.set 117 rfl (congrArg Value.bool hb) ?_
                        refine WL.val (OV.move rfl) rfl rfl rfl ?_
                        refine WL.val (OV.leq rfl rfl) rfl rfl rfl ?_
                        refine WL.val (OV.pickT rfl rfl) rfl rfl rfl ?_
                        refine WL.set 120 rfl (bT (v := decide (((text.getD (i + 1).toNat 0).toNat : Int) ≤ 90)) hb) ?_
                        exact WL.end_ (KX.go hK_57' ⟨rfl, rfl, rfl, rfl, trivial⟩)
                      · refine WL.set 117 rfl (congrArg Value.bool hb) ?_
                        refine WL.skip rfl rfl rfl ?_
                        refine WL.skip rfl rfl rfl ?_
                        refine WL.val (OV.pickF rfl rfl) rfl rfl rfl ?_
                        refine WL.set 120 rfl (bF (v := decide (((text.getD (i + 1).toNat 0).toNat : Int) ≤ 90)) hb) ?_
                        exact WL.end_ (KX.go hK_57' ⟨rfl, rfl, rfl, rfl, trivial⟩)
                    refine WL.val (OV.pickF rfl rfl) rfl rfl rfl ?_
                    refine WL.set 121 rfl (oF (v := (decide (65 ≤ ((text.getD (i + 1).toNat 0).toNat : Int))) && (decide (((text.getD (i + 1).toNat 0).toNat : Int) ≤ 90))) hb) ?_
                    exact WL.end_ (KX.go hK_58' ⟨rfl, rfl, rfl, trivial⟩)
                refine WL.val (OV.move rfl) rfl rfl rfl ?_
                refine WL.cut 7 [(1, Value.int .i64 i), (9, Value.int .u8 ((text.getD (i + 1).toNat 0).toNat : Int)), (129, Value.bool ((((decide (97 ≤ ((text.getD (i + 1).toNat 0).toNat : Int))) && (decide (((text.getD (i + 1).toNat 0).toNat : Int) ≤ 122))) || ((decide (65 ≤ ((text.getD (i + 1).toNat 0).toNat : Int))) && (decide (((text.getD (i + 1).toNat 0).toNat : Int) ≤ 90)))) || ((decide (48 ≤ ((text.getD (i + 1).toNat 0).toNat : Int))) && (decide (((text.getD (i + 1).toNat 0).toNat : Int) ≤ 57)))))] ?_ (fun K0_60' hK_60' => ?_)
                rotate_left
                · refine WL.split (((decide (97 ≤ ((text.getD (i + 1).toNat 0).toNat : Int))) && (decide (((text.getD (i + 1).toNat 0).toNat : Int) ≤ 122))) || ((decide (65 ≤ ((text.getD (i + 1).toNat 0).toNat : Int))) && (decide (((text.getD (i + 1).toNat 0).toNat : Int) ≤ 90)))) (fun hb => ?_) (fun hb => ?_)
                  · refine WL.set 122 rfl (congrArg Value.bool hb) ?_
                    refine WL.skip rfl rfl rfl ?_
                    refine WL.skip rfl rfl rfl ?_
                    refine WL.skip rfl rfl rfl ?_
                    refine WL.skip rfl rfl rfl ?_
                    refine WL.skip rfl rfl rfl ?_
                    refine WL.skip rfl rfl rfl ?_
                    refine WL.val (OV.pickT rfl rfl) rfl rfl rfl ?_
                    refine WL.set 129 rfl (oT (v := (decide (48 ≤ ((text.getD (i + 1).toNat 0).toNat : Int))) && (decide (((text.getD (i + 1).toNat 0).toNat : Int) ≤ 57))) hb) ?_
                    exact WL.end_ (KX.go hK_60' ⟨rfl, rfl, rfl, trivial⟩)
                  · refine WL.set 122 rfl (congrArg Value.bool hb) ?_
                    refine WL.val (OV.move rfl) rfl rfl rfl ?_
                    refine WL.val (OV.geq rfl rfl) rfl rfl rfl ?_
                    refine WL.val (OV.move rfl) rfl rfl rfl ?_
                    refine WL.cut 3 [(1, Value.int .i64 i), (9, Value.int .u8 ((text.getD (i + 1).toNat 0).toNat : Int)), (122, Value.bool false), (128, Value.bool ((decide (48 ≤ ((text.getD (i + 1).toNat 0).toNat : Int))) && (decide (((text.getD (i + 1).toNat 0).toNat : Int) ≤ 57))))] ?_ (fun K0_59' hK_59' => ?_)
                    rotate_left
                    · refine WL.split (decide (48 ≤ ((text.getD (i + 1).toNat 0).toNat : Int))) (fun hb => ?_) (fun hb => ?_)
                      · refine WL.set 125 rfl (congrArg Value.bool hb) ?_
                        refine WL.val (OV.move rfl) rfl rfl rfl ?_
                        refine WL.val (OV.leq rfl rfl) rfl rfl rfl ?_
                        refine WL.val (OV.pickT rfl rfl) rfl rfl rfl ?_
                        refine WL.set 128 rfl (bT (v := decide (((text.getD (i + 1).toNat 0).toNat : Int) ≤ 57)) hb) ?_
                        exact WL.end_ (KX.go hK_59' ⟨rfl, rfl, rfl, rfl, trivial⟩)
                      · refine WL.set 125 rfl (congrArg Value.bool hb) ?_
                        refine WL.skip rfl rfl rfl ?_
                        refine WL.skip rfl rfl rfl ?_
                        refine WL.val (OV.pickF rfl rfl) rfl rfl rfl ?_
                        refine WL.set 128 rfl (bF (v := decide (((text.getD (i + 1).toNat 0).toNat : Int) ≤ 57)) hb) ?_
                        exact WL.end_ (KX.go hK_59' ⟨rfl, rfl, rfl, rfl, trivial⟩)
                    refine WL.val (OV.pickF rfl rfl) rfl rfl rfl ?_
                    refine WL.set 129 rfl (oF (v := (decide (48 ≤ ((text.getD (i + 1).toNat 0).toNat : Int))) && (decide (((text.getD (i + 1).toNat 0).toNat : Int) ≤ 57))) hb) ?_
                    exact WL.end_ (KX.go hK_60' ⟨rfl, rfl, rfl, trivial⟩)
                refine WL.val (OV.assign rfl) rfl rfl rfl ?_
                refine WL.nil ?_
                refine KX.go (hK_55' [(1, Value.int .i64 i), (9, Value.int .u8 ((text.getD (i + 1).toNat 0).toNat : Int)), (12, Value.bool ((((decide (97 ≤ ((text.getD (i + 1).toNat 0).toNat : Int))) && (decide (((text.getD (i + 1).toNat 0).toNat : Int) ≤ 122))) || ((decide (65 ≤ ((text.getD (i + 1).toNat 0).toNat : Int))) && (decide (((text.getD (i + 1).toNat 0).toNat : Int) ≤ 90)))) || ((decide (48 ≤ ((text.getD (i + 1).toNat 0).toNat : Int))) && (decide (((text.getD (i + 1).toNat 0).toNat : Int) ≤ 57)))))] _ ?_) ⟨rfl, rfl, rfl, trivial⟩
                refine wc_seq (fun K0_61' hK_61' => ?_)
                refine wc_seq (fun K0_62' hK_62' => ?_)
                refine wc_region ?_
                refine WL.val (OV.move rfl) rfl rfl rfl ?_
                refine WL.val (OV.lss rfl rfl) rfl rfl rfl ?_
                refine WL.val (OV.move rfl) rfl rfl rfl ?_
                refine WL.cut 3 [(1, Value.int .i64 i), (9, Value.int .u8 ((text.getD (i + 1).toNat 0).toNat : Int)), (12, Value.bool ((((decide (97 ≤ ((text.getD (i + 1).toNat 0).toNat : Int))) && (decide (((text.getD (i + 1).toNat 0).toNat : Int) ≤ 122))) || ((decide (65 ≤ ((text.getD (i + 1).toNat 0).toNat : Int))) && (decide (((text.getD (i + 1).toNat 0).toNat : Int) ≤ 90)))) || ((decide (48 ≤ ((text.getD (i + 1).toNat 0).toNat : Int))) && (decide (((text.getD (i + 1).toNat 0).toNat : Int) ≤ 57))))), (135, Value.bool ((decide (((text.getD (i + 1).toNat 0).toNat : Int) < 32)) || (decide (126 < ((text.getD (i + 1).toNat 0).toNat : Int)))))] ?_ (fun K0_63' hK_63' => ?_)
                rotate_left
                · refine WL.split (decide (((text.getD (i + 1).toNat 0).toNat : Int) < 32)) (fun hb => ?_) (fun hb => ?_)
                  · refine WL.set 132 rfl (congrArg Value.bool hb) ?_
                    refine WL.skip rfl rfl rfl ?_
                    refine WL.skip rfl rfl rfl ?_
                    refine WL.val (OV.pickT rfl rfl) rfl rfl rfl ?_
                    refine WL.set 135 rfl (oT (v := decide (126 < ((text.getD (i + 1).toNat 0).toNat : Int))) hb) ?_
                    exact WL.end_ (KX.go hK_63' ⟨rfl, rfl, rfl, rfl, trivial⟩)
                  · refine WL.set 132 rfl (congrArg Value.bool hb) ?_
                    refine WL.val (OV.move rfl) rfl rfl rfl ?_
                    refine WL.val (OV.gtr rfl rfl) rfl rfl rfl ?_
                    refine WL.val (OV.pickF rfl rfl) rfl rfl rfl ?_
                    refine WL.set 135 rfl (oF (v := decide (126 < ((text.getD (i + 1).toNat 0).toNat : Int))) hb) ?_
                    exact WL.end_ (KX.go hK_63' ⟨rfl, rfl, rfl, rfl, trivial⟩)
                refine WL.val (OV.move rfl) rfl rfl rfl ?_
                refine WL.cut 2 [(1, Value.int .i64 i), (9, Value.int .u8 ((text.getD (i + 1).toNat 0).toNat : Int)), (138, Value.bool (((decide (((text.getD (i + 1).toNat 0).toNat : Int) < 32)) || (decide (126 < ((text.getD (i + 1).toNat 0).toNat : Int)))) || ((((decide (97 ≤ ((text.getD (i + 1).toNat 0).toNat : Int))) && (decide (((text.getD (i + 1).toNat 0).toNat : Int) ≤ 122))) || ((decide (65 ≤ ((text.getD (i + 1).toNat 0).toNat : Int))) && (decide (((text.getD (i + 1).toNat 0).toNat : Int) ≤ 90)))) || ((decide (48 ≤ ((text.getD (i + 1).toNat 0).toNat : Int))) && (decide (((text.getD (i + 1).toNat 0).toNat : Int) ≤ 57))))))] ?_ (fun K0_64' hK_64' => ?_)
                rotate_left
                · refine WL.split ((decide (((text.getD (i + 1).toNat 0).toNat : Int) < 32)) || (decide (126 < ((text.getD (i + 1).toNat 0).toNat : Int)))) (fun hb => ?_) (fun hb => ?_)
                  · refine WL.set 136 rfl (congrArg Value.bool hb) ?_
                    refine WL.skip rfl rfl rfl ?_
                    refine WL.val (OV.pickT rfl rfl) rfl rfl rfl ?_
                    refine WL.set 138 rfl (oT (v := (((decide (97 ≤ ((text.getD (i + 1).toNat 0).toNat : Int))) && (decide (((text.getD (i + 1).toNat 0).toNat : Int) ≤ 122))) || ((decide (65 ≤ ((text.getD (i + 1).toNat 0).toNat : Int))) && (decide (((text.getD (i + 1).toNat 0).toNat : Int) ≤ 90)))) || ((decide (48 ≤ ((text.getD (i + 1).toNat 0).toNat : Int))) && (decide (((text.getD (i + 1).toNat 0).toNat : Int) ≤ 57)))) hb) ?_
                    exact WL.end_ (KX.go hK_64' ⟨rfl, rfl, rfl, trivial⟩)
                  · refine WL.set 136 rfl (congrArg Value.bool hb) ?_
                    refine WL.val (OV.move rfl) rfl rfl rfl ?_
                    refine WL.val (OV.pickF rfl rfl) rfl rfl rfl ?_
                    refine WL.set 138 rfl (oF (v := (((decide (97 ≤ ((text.getD (i + 1).toNat 0).toNat : Int))) && (decide (((text.getD (i + 1).toNat 0).toNat : Int) ≤ 122))) || ((decide (65 ≤ ((text.getD (i + 1).toNat 0).toNat : Int))) && (decide (((text.getD (i + 1).toNat 0).toNat : Int) ≤ 90)))) || ((decide (48 ≤ ((text.getD (i + 1).toNat 0).toNat : Int))) && (decide (((text.getD (i + 1).toNat 0).toNat : Int) ≤ 57)))) hb) ?_
                    exact WL.end_ (KX.go hK_64' ⟨rfl, rfl, rfl, trivial⟩)
                refine WL.nil ?_
                refine KX.go (hK_62' [(1, Value.int .i64 i), (9, Value.int .u8 ((text.getD (i + 1).toNat 0).toNat : Int)), (138, Value.bool (((decide (((text.getD (i + 1).toNat 0).toNat : Int) < 32)) || (decide (126 < ((text.getD (i + 1).toNat 0).toNat : Int)))) || ((((decide (97 ≤ ((text.getD (i + 1).toNat 0).toNat : Int))) && (decide (((text.getD (i + 1).toNat 0).toNat : Int) ≤ 122))) || ((decide (65 ≤ ((text.getD (i + 1).toNat 0).toNat : Int))) && (decide (((text.getD (i + 1).toNat 0).toNat : Int) ≤ 90)))) || ((decide (48 ≤ ((text.getD (i + 1).toNat 0).toNat : Int))) && (decide (((text.getD (i + 1).toNat 0).toNat : Int) ≤ 57))))))] _ ?_) ⟨rfl, rfl, rfl, trivial⟩
                refine wc_cond (b := ((decide (((text.getD (i + 1).toNat 0).toNat : Int) < 32)) || (decide (126 < ((text.getD (i + 1).toNat 0).toNat : Int)))) || ((((decide (97 ≤ ((text.getD (i + 1).toNat 0).toNat : Int))) && (decide (((text.getD (i + 1).toNat 0).toNat : Int) ≤ 122))) || ((decide (65 ≤ ((text.getD (i + 1).toNat 0).toNat : Int))) && (decide (((text.getD (i + 1).toNat 0).toNat : Int) ≤ 90)))) || ((decide (48 ≤ ((text.getD (i + 1).toNat 0).toNat : Int))) && (decide (((text.getD (i + 1).toNat 0).toNat : Int) ≤ 57))))) rfl (fun hb => ?_) (fun hb => ?_)
                · replace h := if_T h hb
                  refine wc_seq (fun K0_65' hK_65' => ?_)
                  refine wc_region ?_
                  refine WL.val (OV.move rfl) rfl rfl rfl ?_
                  obtain ⟨o_45', h⟩ := h
                  refine WL.val (OV.add rfl rfl o_45') rfl rfl rfl ?_
                  refine WL.val (OV.assign rfl) rfl rfl rfl ?_
                  refine WL.val (OV.assign rfl) rfl rfl rfl ?_
                  refine WL.val (OV.assign rfl) rfl rfl rfl ?_
                  refine WL.nil ?_
                  refine KX.go (hK_65' [(6, Value.int .u8 0), (7, Value.int .i64 0), (8, Value.int .i64 (i + 1))] _ ?_) ⟨rfl, rfl, rfl, trivial⟩
                  refine wc_ret ?_
                  exact hE.ret [] rfl rfl (.inl ⟨_, _, _, h, rfl⟩) (ResV.of3 rfl (RV.tmp rfl) (RV.tmp rfl) (RV.tmp rfl))
                · replace h := if_F h hb
                  refine wc_skip ?_
                  refine KX.go (hK_61' [(1, Value.int .i64 i), (9, Value.int .u8 ((text.getD (i + 1).toNat 0).toNat : Int))] _ ?_) ⟨rfl, rfl, trivial⟩
                  refine wc_seq (fun K0_66' hK_66' => ?_)
                  refine wc_region ?_
                  refine WL.val (OV.move rfl) rfl rfl rfl ?_
                  refine WL.val (OV.move rfl) rfl rfl rfl ?_
                  obtain ⟨o_46', h⟩ := h
                  refine WL.val (OV.add rfl rfl o_46') rfl rfl rfl ?_
                  refine WL.val (OV.assign rfl) rfl rfl rfl ?_
                  refine WL.val (OV.assign rfl) rfl rfl rfl ?_
                  refine WL.val (OV.assign rfl) rfl rfl rfl ?_
                  refine WL.nil ?_
                  refine KX.go (hK_66' [(6, Value.int .u8 ((text.getD (i + 1).toNat 0).toNat : Int)), (7, Value.int .i64 (i + 2)), (8, Value.int .i64 (-1))] _ ?_) ⟨rfl, rfl, rfl, trivial⟩
                  refine wc_ret ?_
                  exact hE.ret [] rfl rfl (.inl ⟨_, _, _, h, rfl⟩) (ResV.of3 rfl (RV.tmp rfl) (RV.tmp rfl) (RV.tmp rfl))

/-- The document's single: the byte, the place behind, the fault's place or -1. -/
def rsingleM (t : List UInt8) (i : Int) (inner : Bool) : Int × Int × Int :=
  match oneM t i (if inner then inL else spL) with
  | .ok (c, q) => (c, q, -1)
  | .error e => (0, 0, e)
theorem escM_err {t : List UInt8} {a e : Int} (h0 : 0 ≤ a) (h : escM t a = .error e) : 0 ≤ e := by
  have hx : ∀ {b e : Int}, 0 ≤ b → hexM t b = .error e → 0 ≤ e := fun h0 h => by
    unfold hexM at h
    split at h
    · cases h
    · cases h; exact h0
  unfold escM at h
  split at h
  · simp only at h
    repeat' split at h
    all_goals first
      | (cases h; done)
      | (cases h; omega)
      | skip
    · rename_i hp _ _ hq
      have h3 := hexM_ok hp
      cases h
      exact hx (by omega) hq
    · rename_i hq
      cases h
      exact hx (by omega) hq
  · cases h; exact h0
theorem oneM_err {t : List UInt8} {a e : Int} {bar : List UInt8} (h0 : 0 ≤ a) (h : oneM t a bar = .error e) : 0 ≤ e := by
  unfold oneM at h
  split at h
  · simp only at h
    split at h
    · exact escM_err (by omega) h
    · split at h
      · cases h; exact h0
      · cases h
  · cases h; exact h0
theorem byte_peek {t : List UInt8} {i : Int} (h : i < t.length) : ((t.getD i.toNat 0).toNat : Int) = peekB t i := by unfold peekB; rw [if_pos h]
theorem rsingle_does (t : List UInt8) (i : Int) (inner : Bool) (h : 0 ≤ i ∧ i ≤ t.length ∧ t.length ≤ 9223372036854775807) :
    Does Tryd.prog 25 [st t, .int .i64 i, .bool inner] [] [] (Ret (.tuple #[.int .u8 (rsingleM t i inner).1, .int .i64 (rsingleM t i inner).2.1, .int .i64 (rsingleM t i inner).2.2]) []) := by
  refine (refsingle_wp t i inner (fun a b c => (a, b, c) = rsingleM t i inner) ?_).weak ?_
  · obtain ⟨h0, hle, hmax⟩ := h
    have hb := peekB_bd t i
    unfold refsingle_vc rsingleM oneM
    by_cases h1 : i < t.length
    · rw [if_neg (by simp; omega), if_pos h1, byte_peek h1]
      refine ⟨⟨h0, h1⟩, ?_⟩
      have hI : ∀ k : Int, 0 ≤ k → i + k ≤ t.length → I64 (i + k) := fun k h2 h3 => ⟨by omega, by omega⟩
      by_cases h2 : peekB t i = 92
      · rw [if_neg (by simp [h2])]
        simp only [h2, if_true]
        refine ⟨hI 1 (by omega) (by omega), ?_⟩
        unfold escM
        by_cases h3 : i + 1 < t.length
        · rw [if_neg (by simp; omega), if_pos h3, byte_peek h3]
          refine ⟨hI 1 (by omega) (by omega), ⟨by omega, h3⟩, ?_⟩
          have hb2 := peekB_bd t (i + 1)
          have hh : i + 1 + 1 = i + 2 := by omega
          simp only [hh]
          generalize peekB t (i + 1) = c at hb2 ⊢
          by_cases e1 : c = 110
          · subst e1; exact ⟨hI 2 (by omega) (by omega), by first | rfl | trivial⟩
          · by_cases e2 : c = 114
            · subst e2; exact ⟨hI 2 (by omega) (by omega), by first | rfl | trivial⟩
            · by_cases e3 : c = 116
              · subst e3; exact ⟨hI 2 (by omega) (by omega), by first | rfl | trivial⟩
              · rw [if_neg (by simpa using e1), if_neg (by simpa using e2), if_neg (by simpa using e3)]
                simp only [e1, e2, e3, if_false]
                by_cases e4 : c = 120
                · rw [if_pos (by simpa using e4)]
                  simp only [e4, if_true]
                  refine ⟨hI 2 (by omega) (by omega), ?_, ?_⟩
                  · intro hl
                    have hl : i + 2 < t.length := by simpa using hl
                    have := peekB_bd t (i + 2)
                    rw [byte_peek hl]
                    exact ⟨hI 2 (by omega) (by omega), ⟨by omega, hl⟩, this⟩
                  · unfold hexM
                    by_cases h4 : i + 2 < t.length ∧ 0 ≤ refHex (peekB t (i + 2))
                    · have hb3 := peekB_bd t (i + 2)
                      have hr3 := refHex_bd (c := peekB t (i + 2))
                      rw [byte_peek h4.1, if_neg (by simp; omega)]
                      simp only [h4, and_self, if_true]
                      have hh2 : i + 2 + 1 = i + 3 := by omega
                      simp only [hh2]
                      refine ⟨hI 3 (by omega) (by omega), ?_, ?_⟩
                      · intro hl
                        have hl : i + 3 < t.length := by simpa using hl
                        have := peekB_bd t (i + 3)
                        rw [byte_peek hl]
                        exact ⟨hI 3 (by omega) (by omega), ⟨by omega, hl⟩, this⟩
                      · by_cases h5 : i + 3 < t.length ∧ 0 ≤ refHex (peekB t (i + 3))
                        · have hb4 := peekB_bd t (i + 3)
                          have hr4 := refHex_bd (c := peekB t (i + 3))
                          rw [byte_peek h5.1, if_neg (by simp; omega)]
                          simp only [h5, and_self, if_true]
                          rw [IntWalk.u8_in _ (by omega)]
                          have hh3 : i + 3 + 1 = i + 4 := by omega
                          rw [hh3]
                          exact ⟨hI 2 (by omega) (by omega), ⟨by omega, by first | trivial | omega⟩, hb3, ⟨by omega, by omega⟩, hI 3 (by omega) (by omega), ⟨by omega, by first | trivial | omega⟩, hb4, ⟨by omega, by omega⟩, hI 4 (by omega) (by omega), by first | rfl | trivial⟩
                        · simp only [h5, if_false]
                          rw [if_pos ?_]
                          · exact ⟨hI 3 (by omega) (by omega), by first | rfl | trivial⟩
                          · by_cases h6 : i + 3 < t.length
                            · rw [byte_peek h6]; simp; omega
                            · simp; omega
                    · simp only [h4, if_false]
                      rw [if_pos ?_]
                      · exact ⟨hI 2 (by omega) (by omega), by first | rfl | trivial⟩
                      · by_cases h6 : i + 2 < t.length
                        · rw [byte_peek h6]; simp; omega
                        · simp; omega
                · rw [if_neg (by simpa using e4)]
                  simp only [e4, if_false]
                  by_cases e5 : c < 32 ∨ 126 < c ∨ (48 ≤ c ∧ c ≤ 57) ∨ (97 ≤ c ∧ c ≤ 122) ∨ (65 ≤ c ∧ c ≤ 90)
                  · rw [if_pos (by simp; omega)]; simp only [e5, if_true]; exact ⟨hI 1 (by omega) (by omega), by first | rfl | trivial⟩
                  · rw [if_neg (by simp; omega)]; simp only [e5, if_false]; exact ⟨hI 2 (by omega) (by omega), by first | rfl | trivial⟩
        · rw [if_pos (by simp; omega), if_neg h3]
          show (0, 0, (t.length : Int)) = (0, 0, i + 1)
          rw [show (t.length : Int) = i + 1 by omega]
      · rw [if_pos (by simp [h2])]
        simp only [h2, if_false]
        generalize hc : peekB t i = c at hb h2 ⊢
        refine ⟨fun bad => (if c < 32 ∨ 126 < c ∨ (if inner = true then inL else spL).contains c.toNat.toUInt8 = true then bad = true else bad = false), fun bad hbad => ?_, ?_⟩
        · simp only at hbad
          by_cases e5 : c < 32 ∨ 126 < c ∨ (if inner = true then inL else spL).contains c.toNat.toUInt8 = true
          · rw [if_pos e5] at hbad; simp only [hbad, e5, if_true]
          · rw [if_neg e5] at hbad; simp only [hbad, e5, if_false, Bool.false_eq_true]; exact ⟨hI 1 (by omega) (by omega), by first | rfl | trivial⟩
        · cases inner
          · simp only [Bool.false_eq_true, if_false]
            refine ⟨fun _ => hb, ?_⟩
            generalize spL.contains c.toNat.toUInt8 = bc
            cases bc <;> split <;> rename_i e5 <;> (try simp at e5) <;> simp <;> omega
          · simp only [if_true]
            refine ⟨fun _ => hb, ?_⟩
            generalize inL.contains c.toNat.toUInt8 = bc
            cases bc <;> split <;> rename_i e5 <;> (try simp at e5) <;> simp <;> omega
    · rw [if_pos (by simp; omega), if_neg h1]
      show (0, 0, (t.length : Int)) = (0, 0, i)
      rw [show (t.length : Int) = i by omega]
  · rintro o (⟨a, b, c, hm, rfl⟩ | h)
    · rw [← hm]; rfl
    · exact h.elim

end Go.Proofs.YtkjnhjhkaaampaaDoor
