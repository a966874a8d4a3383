/-
  Merged: RfV, RfR.
-/
import Derived.Test.YtohnchdnkbadaaaDoorPa5
set_option maxRecDepth 100000
namespace Go.Proofs.YtohnchdnkbadaaaDoor
open Go Go.RowKit
theorem asc : o6 Tryd.prog 118 = true := by kernel_rfl
theorem as8 : o6 Tryd.prog 119 = true := by kernel_rfl
theorem aey : o6 Tryd.prog 120 = true := by kernel_rfl
def aew (text : List UInt8) (i : Int) (inner : Bool) (K : Int → Int → Int → Prop) : Prop :=
 (if (decide ((text.length : Int) ≤ i)) = true then
  K 0 0 (text.length : Int)
 else
  (0 ≤ i ∧ i < text.length) ∧
  (if (!decide (((text.getD i.toNat 0).toNat : Int) = 92)) = true then
   ∃ (J0 : Bool → Prop),
    (∀ (bad : Bool), J0 bad →
     (if bad = true then
      K 0 0 i
     else
      (I64 (i + 1)) ∧
      K ((text.getD i.toNat 0).toNat : Int) (i + 1) (-1))) ∧
    (if inner = true then
     (((decide (((text.getD i.toNat 0).toNat : Int) < 32)) || (decide (126 < ((text.getD i.toNat 0).toNat : Int)))) = false → (0 ≤ ((text.getD i.toNat 0).toNat : Int) ∧ ((text.getD i.toNat 0).toNat : Int) < 256)) ∧
     J0 (((decide (((text.getD i.toNat 0).toNat : Int) < 32)) || (decide (126 < ((text.getD i.toNat 0).toNat : Int)))) || (inL.contains (((text.getD i.toNat 0).toNat : Int)).toNat.toUInt8))
    else
     (((decide (((text.getD i.toNat 0).toNat : Int) < 32)) || (decide (126 < ((text.getD i.toNat 0).toNat : Int)))) = false → (0 ≤ ((text.getD i.toNat 0).toNat : Int) ∧ ((text.getD i.toNat 0).toNat : Int) < 256)) ∧
     J0 (((decide (((text.getD i.toNat 0).toNat : Int) < 32)) || (decide (126 < ((text.getD i.toNat 0).toNat : Int)))) || (spL.contains (((text.getD i.toNat 0).toNat : Int)).toNat.toUInt8)))
  else
   (I64 (i + 1)) ∧
   (if (decide ((text.length : Int) ≤ i + 1)) = true then
    K 0 0 (text.length : Int)
   else
    (I64 (i + 1)) ∧
    (0 ≤ (i + 1) ∧ (i + 1) < text.length) ∧
    (if (decide (((text.getD (i + 1).toNat 0).toNat : Int) = 110)) = true then
     (I64 (i + 2)) ∧
     K 10 (i + 2) (-1)
    else
     (if (decide (((text.getD (i + 1).toNat 0).toNat : Int) = 114)) = true then
      (I64 (i + 2)) ∧
      K 13 (i + 2) (-1)
     else
      (if (decide (((text.getD (i + 1).toNat 0).toNat : Int) = 116)) = true then
       (I64 (i + 2)) ∧
       K 9 (i + 2) (-1)
      else
       (if (decide (((text.getD (i + 1).toNat 0).toNat : Int) = 120)) = true then
        (I64 (i + 2)) ∧
        ((decide ((text.length : Int) ≤ i + 2)) = false → (I64 (i + 2)) ∧ (0 ≤ (i + 2) ∧ (i + 2) < text.length) ∧ (0 ≤ ((text.getD (i + 2).toNat 0).toNat : Int) ∧ ((text.getD (i + 2).toNat 0).toNat : Int) < 256)) ∧
        (if ((decide ((text.length : Int) ≤ i + 2)) || (decide (s5 ((text.getD (i + 2).toNat 0).toNat : Int) < 0))) = true then
         (I64 (i + 2)) ∧
         K 0 0 (i + 2)
        else
         (I64 (i + 3)) ∧
         ((decide ((text.length : Int) ≤ i + 3)) = false → (I64 (i + 3)) ∧ (0 ≤ (i + 3) ∧ (i + 3) < text.length) ∧ (0 ≤ ((text.getD (i + 3).toNat 0).toNat : Int) ∧ ((text.getD (i + 3).toNat 0).toNat : Int) < 256)) ∧
         (if ((decide ((text.length : Int) ≤ i + 3)) || (decide (s5 ((text.getD (i + 3).toNat 0).toNat : Int) < 0))) = true then
          (I64 (i + 3)) ∧
          K 0 0 (i + 3)
         else
          (I64 (i + 2)) ∧
          (0 ≤ (i + 2) ∧ (i + 2) < text.length) ∧
          (0 ≤ ((text.getD (i + 2).toNat 0).toNat : Int) ∧ ((text.getD (i + 2).toNat 0).toNat : Int) < 256) ∧
          (I64 (16 * (s5 ((text.getD (i + 2).toNat 0).toNat : Int)))) ∧
          (I64 (i + 3)) ∧
          (0 ≤ (i + 3) ∧ (i + 3) < text.length) ∧
          (0 ≤ ((text.getD (i + 3).toNat 0).toNat : Int) ∧ ((text.getD (i + 3).toNat 0).toNat : Int) < 256) ∧
          (I64 ((16 * (s5 ((text.getD (i + 2).toNat 0).toNat : Int))) + (s5 ((text.getD (i + 3).toNat 0).toNat : Int)))) ∧
          (I64 (i + 4)) ∧
          K (IntKind.wrap .u8 ((16 * (s5 ((text.getD (i + 2).toNat 0).toNat : Int))) + (s5 ((text.getD (i + 3).toNat 0).toNat : Int)))) (i + 4) (-1)))
       else
        (if (((decide (((text.getD (i + 1).toNat 0).toNat : Int) < 32)) || (decide (126 < ((text.getD (i + 1).toNat 0).toNat : Int)))) || ((((decide (97 ≤ ((text.getD (i + 1).toNat 0).toNat : Int))) && (decide (((text.getD (i + 1).toNat 0).toNat : Int) ≤ 122))) || ((decide (65 ≤ ((text.getD (i + 1).toNat 0).toNat : Int))) && (decide (((text.getD (i + 1).toNat 0).toNat : Int) ≤ 90)))) || ((decide (48 ≤ ((text.getD (i + 1).toNat 0).toNat : Int))) && (decide (((text.getD (i + 1).toNat 0).toNat : Int) ≤ 57))))) = true then
         (I64 (i + 1)) ∧
         K 0 0 (i + 1)
        else
         (I64 (i + 2)) ∧
         K ((text.getD (i + 1).toNat 0).toNat : Int) (i + 2) (-1)))))))))
theorem aob  (text : List UInt8) (i : Int) (inner : Bool) (K : Int → Int → Int → Prop) (h : aew text i inner K) :
  c8 Tryd.prog 82 [st text, zI i, zB inner] [] [] (fun o => (∃ (v : Int) (v_1' : Int) (v_2' : Int), K v v_1' v_2' ∧ o = .ret (Value.tuple #[zU v, zI v_1', zI v_2']) []) ∨ (False)) := by
 unfold aew at h
 refine c6 (n := 144) (L0 := [(0, st text), (1, zI i), (2, zB inner)]) Tryd.func82 rfl rfl rfl rfl (fun w0 M Q hE => ?_)
 refine a6 (fun _ hK => ?_)
 refine a4 ?_
 refine wa ?_
 refine wa ?_
 refine wa ?_
 refine WL.nil ?_
 refine kg (hK [(0, st text), (1, zI i), (2, zB inner)] _ ?_)
 refine a6 (fun _ hK_1' => ?_)
 refine a6 (fun _ hK_2' => ?_)
 refine a4 ?_
 refine wm ?_
 refine wm ?_
 refine wv (OV.len rfl k9) ?_
 refine wv (OV.geq rfl rfl) ?_
 refine WL.nil ?_
 refine kg (hK_2' [(0, st text), (1, zI i), (2, zB inner), (16, zB (decide ((text.length : Int) ≤ i)))] _ ?_)
 refine b5 (b := decide ((text.length : Int) ≤ i)) rfl (fun hb => ?_) (fun hb => ?_)
 ·replace h := j4 h hb
  refine a6 (fun _ hK_3' => ?_)
  refine a4 ?_
  refine wm ?_
  refine wv (OV.len rfl k9) ?_
  refine wa ?_
  refine wa ?_
  refine wa ?_
  refine WL.nil ?_
  refine kg (hK_3' [(6, zU 0), (7, zI 0), (8, zI (text.length : Int))] _ ?_)
  refine b9 ?_
  exact hE.ret [] rfl rfl (.inl ⟨_, _, _, h, rfl⟩) (d8.of3 rfl (RV.tmp rfl) (RV.tmp rfl) (RV.tmp rfl))
 ·replace h := i9 h hb
  refine b7 ?_
  refine kg (hK_1' [(0, st text), (1, zI i), (2, zB inner)] _ ?_)
  refine a6 (fun _ hK_4' => ?_)
  refine a4 ?_
  refine wm ?_
  refine wm ?_
  obtain ⟨o, h⟩ := h
  refine wv (OV.index rfl rfl k9 o) ?_
  refine wa ?_
  refine WL.nil ?_
  refine kg (hK_4' [(0, st text), (1, zI i), (2, zB inner), (9, zU ((text.getD i.toNat 0).toNat : Int))] _ ?_)
  refine a6 (fun _ hK_5' => ?_)
  refine a6 (fun _ hK_6' => ?_)
  refine a4 ?_
  refine wm ?_
  refine wv (OV.neq rfl rfl) ?_
  refine WL.nil ?_
  refine kg (hK_6' [(0, st text), (1, zI i), (2, zB inner), (9, zU ((text.getD i.toNat 0).toNat : Int)), (23, zB (!decide (((text.getD i.toNat 0).toNat : Int) = 92)))] _ ?_)
  refine b5 (b := !decide (((text.getD i.toNat 0).toNat : Int) = 92)) rfl (fun hb => ?_) (fun hb => ?_)
  ·replace h := j4 h hb
   refine a6 (fun _ hK_7' => ?_)
   refine a4 ?_
   refine wm ?_
   refine wv (OV.lss rfl rfl) ?_
   refine wm ?_
   refine WL.cut 3 [(1, zI i), (2, zB inner), (9, zU ((text.getD i.toNat 0).toNat : Int)), (29, zB ((decide (((text.getD i.toNat 0).toNat : Int) < 32)) || (decide (126 < ((text.getD i.toNat 0).toNat : Int)))))] ?_ (fun K0_8' hK_8' => ?_)
   rotate_left
   ·refine WL.split (decide (((text.getD i.toNat 0).toNat : Int) < 32)) (fun hb => ?_) (fun hb => ?_)
    ·refine WL.set 26 rfl (congrArg zB hb) ?_
     refine wk ?_
     refine wk ?_
     refine wv (OV.pickT rfl rfl) ?_
     refine WL.set 29 rfl (oT (v := decide (126 < ((text.getD i.toNat 0).toNat : Int))) hb) ?_
     exact WL.end_ (kg hK_8')
    ·refine WL.set 26 rfl (congrArg zB hb) ?_
     refine wm ?_
     refine wv (OV.gtr rfl rfl) ?_
     refine wv (OV.pickF rfl rfl) ?_
     refine WL.set 29 rfl (oF (v := decide (126 < ((text.getD i.toNat 0).toNat : Int))) hb) ?_
     exact WL.end_ (kg hK_8')
   refine wa ?_
   refine WL.nil ?_
   refine kg (hK_7' [(1, zI i), (2, zB inner), (9, zU ((text.getD i.toNat 0).toNat : Int)), (10, zB ((decide (((text.getD i.toNat 0).toNat : Int) < 32)) || (decide (126 < ((text.getD i.toNat 0).toNat : Int)))))] _ ?_)
   obtain ⟨J0, hJ, h⟩ := h
   refine m7 (X := Bool) (fun σ => J0 σ) (fun σ => [(1, zI i), (9, zU ((text.getD i.toNat 0).toNat : Int)), (10, zB σ)]) (fun σ => []) ?_ (fun K0_12' hK_12' => ?_)
   ·rintro bad hj
    replace h := hJ bad hj
    show WC _ _ _ _ [(1, zI i), (9, zU ((text.getD i.toNat 0).toNat : Int)), (10, zB bad)] []
    refine a6 (fun _ hK_13' => ?_)
    refine a6 (fun _ hK_14' => ?_)
    refine a4 ?_
    refine wm ?_
    refine WL.nil ?_
    refine kg (hK_14' [(1, zI i), (9, zU ((text.getD i.toNat 0).toNat : Int)), (41, zB bad)] _ ?_)
    refine b5 (b := bad) rfl (fun hb => ?_) (fun hb => ?_)
    ·replace h := j4 h hb
     refine a6 (fun _ hK_15' => ?_)
     refine a4 ?_
     refine wm ?_
     refine wa ?_
     refine wa ?_
     refine wa ?_
     refine WL.nil ?_
     refine kg (hK_15' [(6, zU 0), (7, zI 0), (8, zI i)] _ ?_)
     refine b9 ?_
     exact hE.ret [] rfl rfl (.inl ⟨_, _, _, h, rfl⟩) (d8.of3 rfl (RV.tmp rfl) (RV.tmp rfl) (RV.tmp rfl))
    ·replace h := i9 h hb
     refine b7 ?_
     refine kg (hK_13' [(1, zI i), (9, zU ((text.getD i.toNat 0).toNat : Int))] _ ?_)
     refine a6 (fun _ hK_16' => ?_)
     refine a4 ?_
     refine wm ?_
     refine wm ?_
     obtain ⟨o_6', h⟩ := h
     refine wv (OV.add rfl rfl o_6') ?_
     refine wa ?_
     refine wa ?_
     refine wa ?_
     refine WL.nil ?_
     refine kg (hK_16' [(6, zU ((text.getD i.toNat 0).toNat : Int)), (7, zI (i + 1)), (8, zI (-1))] _ ?_)
     refine b9 ?_
     exact hE.ret [] rfl rfl (.inl ⟨_, _, _, h, rfl⟩) (d8.of3 rfl (RV.tmp rfl) (RV.tmp rfl) (RV.tmp rfl))
   ·skip
    refine a6 (fun _ hK_17' => ?_)
    refine a4 ?_
    refine wm ?_
    refine WL.nil ?_
    refine kg (hK_17' [(1, zI i), (9, zU ((text.getD i.toNat 0).toNat : Int)), (10, zB ((decide (((text.getD i.toNat 0).toNat : Int) < 32)) || (decide (126 < ((text.getD i.toNat 0).toNat : Int))))), (30, zB inner)] _ ?_)
    refine b5 (b := inner) rfl (fun hb => ?_) (fun hb => ?_)
    ·replace h := j4 h hb
     refine a4 ?_
     refine wm ?_
     refine wm ?_
     obtain ⟨o_8', h⟩ := h
     refine WL.cut 3 [(1, zI i), (9, zU ((text.getD i.toNat 0).toNat : Int)), (10, zB ((decide (((text.getD i.toNat 0).toNat : Int) < 32)) || (decide (126 < ((text.getD i.toNat 0).toNat : Int))))), (35, zB (((decide (((text.getD i.toNat 0).toNat : Int) < 32)) || (decide (126 < ((text.getD i.toNat 0).toNat : Int)))) || (inL.contains (((text.getD i.toNat 0).toNat : Int)).toNat.toUInt8)))] ?_ (fun K0_18' hK_18' => ?_)
     rotate_left
     ·refine WL.split ((decide (((text.getD i.toNat 0).toNat : Int) < 32)) || (decide (126 < ((text.getD i.toNat 0).toNat : Int)))) (fun hb => ?_) (fun hb => ?_)
      ·refine WL.set 32 rfl (congrArg zB hb) ?_
       refine wk ?_
       refine wk ?_
       refine wv (OV.pickT rfl rfl) ?_
       refine WL.set 35 rfl (oT (v := inL.contains (((text.getD i.toNat 0).toNat : Int)).toNat.toUInt8) hb) ?_
       exact WL.end_ (kg hK_18')
      ·have o_7' := o_8' hb
       refine WL.set 32 rfl (congrArg zB hb) ?_
       refine wm ?_
       refine WL.call (A := []) asc rfl (arz ((text.getD i.toNat 0).toNat : Int) o_7') rfl trivial rfl rfl ?_
       refine wv (OV.pickF rfl rfl) ?_
       refine WL.set 35 rfl (oF (v := inL.contains (((text.getD i.toNat 0).toNat : Int)).toNat.toUInt8) hb) ?_
       exact WL.end_ (kg hK_18')
     refine wa ?_
     refine WL.nil ?_
     exact kh (hK_12' (((decide (((text.getD i.toNat 0).toNat : Int) < 32)) || (decide (126 < ((text.getD i.toNat 0).toNat : Int)))) || (inL.contains (((text.getD i.toNat 0).toNat : Int)).toNat.toUInt8)) h) []
    ·replace h := i9 h hb
     refine a4 ?_
     refine wm ?_
     refine wm ?_
     obtain ⟨o_10', h⟩ := h
     refine WL.cut 3 [(1, zI i), (9, zU ((text.getD i.toNat 0).toNat : Int)), (10, zB ((decide (((text.getD i.toNat 0).toNat : Int) < 32)) || (decide (126 < ((text.getD i.toNat 0).toNat : Int))))), (40, zB (((decide (((text.getD i.toNat 0).toNat : Int) < 32)) || (decide (126 < ((text.getD i.toNat 0).toNat : Int)))) || (spL.contains (((text.getD i.toNat 0).toNat : Int)).toNat.toUInt8)))] ?_ (fun K0_19' hK_19' => ?_)
     rotate_left
     ·refine WL.split ((decide (((text.getD i.toNat 0).toNat : Int) < 32)) || (decide (126 < ((text.getD i.toNat 0).toNat : Int)))) (fun hb => ?_) (fun hb => ?_)
      ·refine WL.set 37 rfl (congrArg zB hb) ?_
       refine wk ?_
       refine wk ?_
       refine wv (OV.pickT rfl rfl) ?_
       refine WL.set 40 rfl (oT (v := spL.contains (((text.getD i.toNat 0).toNat : Int)).toNat.toUInt8) hb) ?_
       exact WL.end_ (kg hK_19')
      ·have o_9' := o_10' hb
       refine WL.set 37 rfl (congrArg zB hb) ?_
       refine wm ?_
       refine WL.call (A := []) as8 rfl (aoh ((text.getD i.toNat 0).toNat : Int) o_9') rfl trivial rfl rfl ?_
       refine wv (OV.pickF rfl rfl) ?_
       refine WL.set 40 rfl (oF (v := spL.contains (((text.getD i.toNat 0).toNat : Int)).toNat.toUInt8) hb) ?_
       exact WL.end_ (kg hK_19')
     refine wa ?_
     refine WL.nil ?_
     exact kh (hK_12' (((decide (((text.getD i.toNat 0).toNat : Int) < 32)) || (decide (126 < ((text.getD i.toNat 0).toNat : Int)))) || (spL.contains (((text.getD i.toNat 0).toNat : Int)).toNat.toUInt8)) h) []
  ·replace h := i9 h hb
   refine b7 ?_
   refine kg (hK_5' [(0, st text), (1, zI i)] _ ?_)
   refine a6 (fun _ hK_20' => ?_)
   refine a6 (fun _ hK_21' => ?_)
   refine a4 ?_
   refine wm ?_
   obtain ⟨o_11', h⟩ := h
   refine wv (OV.add rfl rfl o_11') ?_
   refine wm ?_
   refine wv (OV.len rfl k9) ?_
   refine wv (OV.geq rfl rfl) ?_
   refine WL.nil ?_
   refine kg (hK_21' [(0, st text), (1, zI i), (50, zB (decide ((text.length : Int) ≤ i + 1)))] _ ?_)
   refine b5 (b := decide ((text.length : Int) ≤ i + 1)) rfl (fun hb => ?_) (fun hb => ?_)
   ·replace h := j4 h hb
    refine a6 (fun _ hK_22' => ?_)
    refine a4 ?_
    refine wm ?_
    refine wv (OV.len rfl k9) ?_
    refine wa ?_
    refine wa ?_
    refine wa ?_
    refine WL.nil ?_
    refine kg (hK_22' [(6, zU 0), (7, zI 0), (8, zI (text.length : Int))] _ ?_)
    refine b9 ?_
    exact hE.ret [] rfl rfl (.inl ⟨_, _, _, h, rfl⟩) (d8.of3 rfl (RV.tmp rfl) (RV.tmp rfl) (RV.tmp rfl))
   ·replace h := i9 h hb
    refine b7 ?_
    refine kg (hK_20' [(0, st text), (1, zI i)] _ ?_)
    refine a6 (fun _ hK_23' => ?_)
    refine a4 ?_
    refine wm ?_
    refine wm ?_
    obtain ⟨o_12', h⟩ := h
    refine wv (OV.add rfl rfl o_12') ?_
    obtain ⟨o_13', h⟩ := h
    refine wv (OV.index rfl rfl k9 o_13') ?_
    refine wa ?_
    refine WL.nil ?_
    refine kg (hK_23' [(0, st text), (1, zI i), (9, zU ((text.getD (i + 1).toNat 0).toNat : Int))] _ ?_)
    refine a6 (fun _ hK_24' => ?_)
    refine a6 (fun _ hK_25' => ?_)
    refine a4 ?_
    refine wm ?_
    refine wv (OV.eql rfl rfl) ?_
    refine WL.nil ?_
    refine kg (hK_25' [(0, st text), (1, zI i), (9, zU ((text.getD (i + 1).toNat 0).toNat : Int)), (58, zB (decide (((text.getD (i + 1).toNat 0).toNat : Int) = 110)))] _ ?_)
    refine b5 (b := decide (((text.getD (i + 1).toNat 0).toNat : Int) = 110)) rfl (fun hb => ?_) (fun hb => ?_)
    ·replace h := j4 h hb
     refine a6 (fun _ hK_26' => ?_)
     refine a4 ?_
     refine wm ?_
     obtain ⟨o_14', h⟩ := h
     refine wv (OV.add rfl rfl o_14') ?_
     refine wa ?_
     refine wa ?_
     refine wa ?_
     refine WL.nil ?_
     refine kg (hK_26' [(6, zU 10), (7, zI (i + 2)), (8, zI (-1))] _ ?_)
     refine b9 ?_
     exact hE.ret [] rfl rfl (.inl ⟨_, _, _, h, rfl⟩) (d8.of3 rfl (RV.tmp rfl) (RV.tmp rfl) (RV.tmp rfl))
    ·replace h := i9 h hb
     refine b7 ?_
     refine kg (hK_24' [(0, st text), (1, zI i), (9, zU ((text.getD (i + 1).toNat 0).toNat : Int))] _ ?_)
     refine a6 (fun _ hK_27' => ?_)
     refine a6 (fun _ hK_28' => ?_)
     refine a4 ?_
     refine wm ?_
     refine wv (OV.eql rfl rfl) ?_
     refine WL.nil ?_
     refine kg (hK_28' [(0, st text), (1, zI i), (9, zU ((text.getD (i + 1).toNat 0).toNat : Int)), (62, zB (decide (((text.getD (i + 1).toNat 0).toNat : Int) = 114)))] _ ?_)
     refine b5 (b := decide (((text.getD (i + 1).toNat 0).toNat : Int) = 114)) rfl (fun hb => ?_) (fun hb => ?_)
     ·replace h := j4 h hb
      refine a6 (fun _ hK_29' => ?_)
      refine a4 ?_
      refine wm ?_
      obtain ⟨o_15', h⟩ := h
      refine wv (OV.add rfl rfl o_15') ?_
      refine wa ?_
      refine wa ?_
      refine wa ?_
      refine WL.nil ?_
      refine kg (hK_29' [(6, zU 13), (7, zI (i + 2)), (8, zI (-1))] _ ?_)
      refine b9 ?_
      exact hE.ret [] rfl rfl (.inl ⟨_, _, _, h, rfl⟩) (d8.of3 rfl (RV.tmp rfl) (RV.tmp rfl) (RV.tmp rfl))
     ·replace h := i9 h hb
      refine b7 ?_
      refine kg (hK_27' [(0, st text), (1, zI i), (9, zU ((text.getD (i + 1).toNat 0).toNat : Int))] _ ?_)
      refine a6 (fun _ hK_30' => ?_)
      refine a6 (fun _ hK_31' => ?_)
      refine a4 ?_
      refine wm ?_
      refine wv (OV.eql rfl rfl) ?_
      refine WL.nil ?_
      refine kg (hK_31' [(0, st text), (1, zI i), (9, zU ((text.getD (i + 1).toNat 0).toNat : Int)), (66, zB (decide (((text.getD (i + 1).toNat 0).toNat : Int) = 116)))] _ ?_)
      refine b5 (b := decide (((text.getD (i + 1).toNat 0).toNat : Int) = 116)) rfl (fun hb => ?_) (fun hb => ?_)
      ·replace h := j4 h hb
       refine a6 (fun _ hK_32' => ?_)
       refine a4 ?_
       refine wm ?_
       obtain ⟨o_16', h⟩ := h
       refine wv (OV.add rfl rfl o_16') ?_
       refine wa ?_
       refine wa ?_
       refine wa ?_
       refine WL.nil ?_
       refine kg (hK_32' [(6, zU 9), (7, zI (i + 2)), (8, zI (-1))] _ ?_)
       refine b9 ?_
       exact hE.ret [] rfl rfl (.inl ⟨_, _, _, h, rfl⟩) (d8.of3 rfl (RV.tmp rfl) (RV.tmp rfl) (RV.tmp rfl))
      ·replace h := i9 h hb
       refine b7 ?_
       refine kg (hK_30' [(0, st text), (1, zI i), (9, zU ((text.getD (i + 1).toNat 0).toNat : Int))] _ ?_)
       refine a6 (fun _ hK_33' => ?_)
       refine a6 (fun _ hK_34' => ?_)
       refine a4 ?_
       refine wm ?_
       refine wv (OV.eql rfl rfl) ?_
       refine WL.nil ?_
       refine kg (hK_34' [(0, st text), (1, zI i), (9, zU ((text.getD (i + 1).toNat 0).toNat : Int)), (70, zB (decide (((text.getD (i + 1).toNat 0).toNat : Int) = 120)))] _ ?_)
       refine b5 (b := decide (((text.getD (i + 1).toNat 0).toNat : Int) = 120)) rfl (fun hb => ?_) (fun hb => ?_)
       ·replace h := j4 h hb
        refine a6 (fun _ hK_35' => ?_)
        refine a6 (fun _ hK_36' => ?_)
        refine a4 ?_
        refine wa ?_
        refine WL.nil ?_
        refine kg (hK_36' [(0, st text), (1, zI i), (11, zI 2)] _ ?_)
        refine g8 ?_
        refine ane 3 ?_
        refine RC.succ (fun K0_37' hK_37' => ?_)
        refine a6 (fun _ hK_38' => ?_)
        refine a6 (fun _ hK_39' => ?_)
        refine a4 ?_
        refine wm ?_
        refine wv (OV.lss rfl rfl) ?_
        refine WL.nil ?_
        refine kg (hK_39' [(0, st text), (1, zI i), (11, zI 2), (72, zB true)] _ ?_)
        refine aai rfl ?_
        refine b7 ?_
        refine kg (hK_38' [(0, st text), (1, zI i), (11, zI 2)] _ ?_)
        refine a6 (fun _ hK_40' => ?_)
        refine g8 ?_
        refine a6 (fun _ hK_41' => ?_)
        refine a4 ?_
        refine wm ?_
        refine wm ?_
        obtain ⟨o_17', h⟩ := h
        refine wv (OV.add rfl rfl o_17') ?_
        refine wm ?_
        refine wv (OV.len rfl k9) ?_
        refine wv (OV.geq rfl rfl) ?_
        refine wm ?_
        obtain ⟨o_21', h⟩ := h
        refine WL.cut 8 [(0, st text), (1, zI i), (11, zI 2), (89, zB ((decide ((text.length : Int) ≤ i + 2)) || (decide (s5 ((text.getD (i + 2).toNat 0).toNat : Int) < 0))))] ?_ (fun K0_42' hK_42' => ?_)
        rotate_left
        ·refine WL.split (decide ((text.length : Int) ≤ i + 2)) (fun hb => ?_) (fun hb => ?_)
         ·refine WL.set 81 rfl (congrArg zB hb) ?_
          refine wk ?_
          refine wk ?_
          refine wk ?_
          refine wk ?_
          refine wk ?_
          refine wk ?_
          refine wk ?_
          refine wv (OV.pickT rfl rfl) ?_
          refine WL.set 89 rfl (oT (v := decide (s5 ((text.getD (i + 2).toNat 0).toNat : Int) < 0)) hb) ?_
          exact WL.end_ (kg hK_42')
         ·obtain ⟨o_18', o_19', o_20'⟩ := o_21' hb
          refine WL.set 81 rfl (congrArg zB hb) ?_
          refine wm ?_
          refine wm ?_
          refine wm ?_
          refine wv (OV.add rfl rfl o_18') ?_
          refine wv (OV.index rfl rfl k9 o_19') ?_
          refine WL.call (A := []) aey rfl (ady ((text.getD (i + 2).toNat 0).toNat : Int) o_20') rfl trivial rfl rfl ?_
          refine wv (OV.lss rfl rfl) ?_
          refine wv (OV.pickF rfl rfl) ?_
          refine WL.set 89 rfl (oF (v := decide (s5 ((text.getD (i + 2).toNat 0).toNat : Int) < 0)) hb) ?_
          exact WL.end_ (kg hK_42')
        refine WL.nil ?_
        refine kg (hK_41' [(0, st text), (1, zI i), (11, zI 2), (89, zB ((decide ((text.length : Int) ≤ i + 2)) || (decide (s5 ((text.getD (i + 2).toNat 0).toNat : Int) < 0))))] _ ?_)
        refine b5 (b := (decide ((text.length : Int) ≤ i + 2)) || (decide (s5 ((text.getD (i + 2).toNat 0).toNat : Int) < 0))) rfl (fun hb => ?_) (fun hb => ?_)
        ·replace h := j4 h hb
         refine a6 (fun _ hK_43' => ?_)
         refine a4 ?_
         refine wm ?_
         refine wm ?_
         obtain ⟨o_22', h⟩ := h
         refine wv (OV.add rfl rfl o_22') ?_
         refine wa ?_
         refine wa ?_
         refine wa ?_
         refine WL.nil ?_
         refine kg (hK_43' [(6, zU 0), (7, zI 0), (8, zI (i + 2))] _ ?_)
         refine b9 ?_
         exact hE.ret [] rfl rfl (.inl ⟨_, _, _, h, rfl⟩) (d8.of3 rfl (RV.tmp rfl) (RV.tmp rfl) (RV.tmp rfl))
        ·replace h := i9 h hb
         refine b7 ?_
         refine kg (hK_40' [(0, st text), (1, zI i), (11, zI 2)] _ ?_)
         refine a4 ?_
         refine wm ?_
         refine wv (OV.add rfl rfl ⟨by decide, by decide⟩) ?_
         refine wa ?_
         refine WL.nil ?_
         refine kg (hK_37' [(0, st text), (1, zI i), (11, zI 3)] _ ?_)
         refine RC.succ (fun K0_44' hK_44' => ?_)
         refine a6 (fun _ hK_45' => ?_)
         refine a6 (fun _ hK_46' => ?_)
         refine a4 ?_
         refine wm ?_
         refine wv (OV.lss rfl rfl) ?_
         refine WL.nil ?_
         refine kg (hK_46' [(0, st text), (1, zI i), (11, zI 3), (72, zB true)] _ ?_)
         refine aai rfl ?_
         refine b7 ?_
         refine kg (hK_45' [(0, st text), (1, zI i), (11, zI 3)] _ ?_)
         refine a6 (fun _ hK_47' => ?_)
         refine g8 ?_
         refine a6 (fun _ hK_48' => ?_)
         refine a4 ?_
         refine wm ?_
         refine wm ?_
         obtain ⟨o_23', h⟩ := h
         refine wv (OV.add rfl rfl o_23') ?_
         refine wm ?_
         refine wv (OV.len rfl k9) ?_
         refine wv (OV.geq rfl rfl) ?_
         refine wm ?_
         obtain ⟨o_27', h⟩ := h
         refine WL.cut 8 [(0, st text), (1, zI i), (11, zI 3), (89, zB ((decide ((text.length : Int) ≤ i + 3)) || (decide (s5 ((text.getD (i + 3).toNat 0).toNat : Int) < 0))))] ?_ (fun K0_49' hK_49' => ?_)
         rotate_left
         ·refine WL.split (decide ((text.length : Int) ≤ i + 3)) (fun hb => ?_) (fun hb => ?_)
          ·refine WL.set 81 rfl (congrArg zB hb) ?_
           refine wk ?_
           refine wk ?_
           refine wk ?_
           refine wk ?_
           refine wk ?_
           refine wk ?_
           refine wk ?_
           refine wv (OV.pickT rfl rfl) ?_
           refine WL.set 89 rfl (oT (v := decide (s5 ((text.getD (i + 3).toNat 0).toNat : Int) < 0)) hb) ?_
           exact WL.end_ (kg hK_49')
          ·obtain ⟨o_24', o_25', o_26'⟩ := o_27' hb
           refine WL.set 81 rfl (congrArg zB hb) ?_
           refine wm ?_
           refine wm ?_
           refine wm ?_
           refine wv (OV.add rfl rfl o_24') ?_
           refine wv (OV.index rfl rfl k9 o_25') ?_
           refine WL.call (A := []) aey rfl (ady ((text.getD (i + 3).toNat 0).toNat : Int) o_26') rfl trivial rfl rfl ?_
           refine wv (OV.lss rfl rfl) ?_
           refine wv (OV.pickF rfl rfl) ?_
           refine WL.set 89 rfl (oF (v := decide (s5 ((text.getD (i + 3).toNat 0).toNat : Int) < 0)) hb) ?_
           exact WL.end_ (kg hK_49')
         refine WL.nil ?_
         refine kg (hK_48' [(0, st text), (1, zI i), (11, zI 3), (89, zB ((decide ((text.length : Int) ≤ i + 3)) || (decide (s5 ((text.getD (i + 3).toNat 0).toNat : Int) < 0))))] _ ?_)
         refine b5 (b := (decide ((text.length : Int) ≤ i + 3)) || (decide (s5 ((text.getD (i + 3).toNat 0).toNat : Int) < 0))) rfl (fun hb => ?_) (fun hb => ?_)
         ·replace h := j4 h hb
          refine a6 (fun _ hK_50' => ?_)
          refine a4 ?_
          refine wm ?_
          refine wm ?_
          obtain ⟨o_28', h⟩ := h
          refine wv (OV.add rfl rfl o_28') ?_
          refine wa ?_
          refine wa ?_
          refine wa ?_
          refine WL.nil ?_
          refine kg (hK_50' [(6, zU 0), (7, zI 0), (8, zI (i + 3))] _ ?_)
          refine b9 ?_
          exact hE.ret [] rfl rfl (.inl ⟨_, _, _, h, rfl⟩) (d8.of3 rfl (RV.tmp rfl) (RV.tmp rfl) (RV.tmp rfl))
         ·replace h := i9 h hb
          refine b7 ?_
          refine kg (hK_47' [(0, st text), (1, zI i), (11, zI 3)] _ ?_)
          refine a4 ?_
          refine wm ?_
          refine wv (OV.add rfl rfl ⟨by decide, by decide⟩) ?_
          refine wa ?_
          refine WL.nil ?_
          refine kg (hK_44' [(0, st text), (1, zI i), (11, zI 4)] _ ?_)
          refine RC.succ (fun K0_51' hK_51' => ?_)
          refine a6 (fun _ hK_52' => ?_)
          refine a6 (fun _ hK_53' => ?_)
          refine a4 ?_
          refine wm ?_
          refine wv (OV.lss rfl rfl) ?_
          refine WL.nil ?_
          refine kg (hK_53' [(0, st text), (1, zI i), (11, zI 4), (72, zB false)] _ ?_)
          refine n6 rfl ?_
          refine t8 ?_
          refine kg (hK_35' [(0, st text), (1, zI i)] _ ?_)
          refine a6 (fun _ hK_54' => ?_)
          refine n9 16 [] f0 (by kernel_rfl) rfl (fun T hT => ?_)
          refine fv (fun _ => OV.move rfl) ?_
          refine fv (fun _ => OV.move rfl) ?_
          obtain ⟨o_29', h⟩ := h
          refine fv (fun _ => OV.add rfl rfl o_29') ?_
          obtain ⟨o_30', h⟩ := h
          refine fv (fun _ => OV.index rfl rfl k9 o_30') ?_
          obtain ⟨o_31', h⟩ := h
          refine FL.call aey (fun _ => rfl) (ady ((text.getD (i + 2).toNat 0).toNat : Int) o_31') trivial rfl (fun _ => rfl) rfl ?_
          obtain ⟨o_32', h⟩ := h
          refine fv (fun _ => OV.mul rfl rfl o_32') ?_
          refine fv (fun _ => OV.move rfl) ?_
          refine fv (fun _ => OV.move rfl) ?_
          obtain ⟨o_33', h⟩ := h
          refine fv (fun _ => OV.add rfl rfl o_33') ?_
          obtain ⟨o_34', h⟩ := h
          refine fv (fun _ => OV.index rfl rfl k9 o_34') ?_
          obtain ⟨o_35', h⟩ := h
          refine FL.call aey (fun _ => rfl) (ady ((text.getD (i + 3).toNat 0).toNat : Int) o_35') trivial rfl (fun _ => rfl) rfl ?_
          obtain ⟨o_36', h⟩ := h
          refine fv (fun _ => OV.add rfl rfl o_36') ?_
          refine fv (fun _ => OV.conv rfl am0 Tryd.underlying5) ?_
          refine fv (fun _ => OV.move rfl) ?_
          obtain ⟨o_37', h⟩ := h
          refine fv (fun _ => OV.add rfl rfl o_37') ?_
          refine fv (fun _ => OV.assign rfl) ?_
          refine FL.weak (L' := fun γ => [(6, zU (IntKind.wrap .u8 ((16 * (s5 ((text.getD (i + 2).toNat 0).toNat : Int))) + (s5 ((text.getD (i + 3).toNat 0).toNat : Int))))), (107, zI (i + 4))]) (fun γ => ⟨rfl, rfl, trivial⟩) (FL.nil (hT (fun γ => [(6, zU (IntKind.wrap .u8 ((16 * (s5 ((text.getD (i + 2).toNat 0).toNat : Int))) + (s5 ((text.getD (i + 3).toNat 0).toNat : Int))))), (107, zI (i + 4))]) (fun γ => ?_)))
          refine wa ?_
          refine wa ?_
          refine WL.nil ?_
          refine kg (hK_54' [(6, zU (IntKind.wrap .u8 ((16 * (s5 ((text.getD (i + 2).toNat 0).toNat : Int))) + (s5 ((text.getD (i + 3).toNat 0).toNat : Int))))), (7, zI (i + 4)), (8, zI (-1))] _ ?_)
          refine b9 ?_
          exact hE.ret [] rfl rfl (.inl ⟨_, _, _, h, rfl⟩) (d8.of3 rfl (RV.tmp rfl) (RV.tmp rfl) (RV.tmp rfl))
       ·replace h := i9 h hb
        refine b7 ?_
        refine kg (hK_33' [(1, zI i), (9, zU ((text.getD (i + 1).toNat 0).toNat : Int))] _ ?_)
        refine a6 (fun _ hK_55' => ?_)
        refine a4 ?_
        refine wm ?_
        refine wv (OV.geq rfl rfl) ?_
        refine wm ?_
        refine WL.cut 3 [(1, zI i), (9, zU ((text.getD (i + 1).toNat 0).toNat : Int)), (113, zB ((decide (97 ≤ ((text.getD (i + 1).toNat 0).toNat : Int))) && (decide (((text.getD (i + 1).toNat 0).toNat : Int) ≤ 122))))] ?_ (fun K0_56' hK_56' => ?_)
        rotate_left
        ·refine WL.split (decide (97 ≤ ((text.getD (i + 1).toNat 0).toNat : Int))) (fun hb => ?_) (fun hb => ?_)
         ·refine WL.set 110 rfl (congrArg zB hb) ?_
          refine wm ?_
          refine wv (OV.leq rfl rfl) ?_
          refine wv (OV.pickT rfl rfl) ?_
          refine WL.set 113 rfl (bT (v := decide (((text.getD (i + 1).toNat 0).toNat : Int) ≤ 122)) hb) ?_
          exact WL.end_ (kg hK_56')
         ·refine WL.set 110 rfl (congrArg zB hb) ?_
          refine wk ?_
          refine wk ?_
          refine wv (OV.pickF rfl rfl) ?_
          refine WL.set 113 rfl (bF (v := decide (((text.getD (i + 1).toNat 0).toNat : Int) ≤ 122)) hb) ?_
          exact WL.end_ (kg hK_56')
        refine wm ?_
        refine WL.cut 7 [(1, zI i), (9, zU ((text.getD (i + 1).toNat 0).toNat : Int)), (121, zB (((decide (97 ≤ ((text.getD (i + 1).toNat 0).toNat : Int))) && (decide (((text.getD (i + 1).toNat 0).toNat : Int) ≤ 122))) || ((decide (65 ≤ ((text.getD (i + 1).toNat 0).toNat : Int))) && (decide (((text.getD (i + 1).toNat 0).toNat : Int) ≤ 90)))))] ?_ (fun K0_58' hK_58' => ?_)
        rotate_left
        ·refine WL.split ((decide (97 ≤ ((text.getD (i + 1).toNat 0).toNat : Int))) && (decide (((text.getD (i + 1).toNat 0).toNat : Int) ≤ 122))) (fun hb => ?_) (fun hb => ?_)
         ·refine WL.set 114 rfl (congrArg zB hb) ?_
          refine wk ?_
          refine wk ?_
          refine wk ?_
          refine wk ?_
          refine wk ?_
          refine wk ?_
          refine wv (OV.pickT rfl rfl) ?_
          refine WL.set 121 rfl (oT (v := (decide (65 ≤ ((text.getD (i + 1).toNat 0).toNat : Int))) && (decide (((text.getD (i + 1).toNat 0).toNat : Int) ≤ 90))) hb) ?_
          exact WL.end_ (kg hK_58')
         ·refine WL.set 114 rfl (congrArg zB hb) ?_
          refine wm ?_
          refine wv (OV.geq rfl rfl) ?_
          refine wm ?_
          refine WL.cut 3 [(1, zI i), (9, zU ((text.getD (i + 1).toNat 0).toNat : Int)), (114, zB false), (120, zB ((decide (65 ≤ ((text.getD (i + 1).toNat 0).toNat : Int))) && (decide (((text.getD (i + 1).toNat 0).toNat : Int) ≤ 90))))] ?_ (fun K0_57' hK_57' => ?_)
          rotate_left
          ·refine WL.split (decide (65 ≤ ((text.getD (i + 1).toNat 0).toNat : Int))) (fun hb => ?_) (fun hb => ?_)
           ·refine WL.set 117 rfl (congrArg zB hb) ?_
            refine wm ?_
            refine wv (OV.leq rfl rfl) ?_
            refine wv (OV.pickT rfl rfl) ?_
            refine WL.set 120 rfl (bT (v := decide (((text.getD (i + 1).toNat 0).toNat : Int) ≤ 90)) hb) ?_
            exact WL.end_ (kg hK_57')
           ·refine WL.set 117 rfl (congrArg zB hb) ?_
            refine wk ?_
            refine wk ?_
            refine wv (OV.pickF rfl rfl) ?_
            refine WL.set 120 rfl (bF (v := decide (((text.getD (i + 1).toNat 0).toNat : Int) ≤ 90)) hb) ?_
            exact WL.end_ (kg hK_57')
          refine wv (OV.pickF rfl rfl) ?_
          refine WL.set 121 rfl (oF (v := (decide (65 ≤ ((text.getD (i + 1).toNat 0).toNat : Int))) && (decide (((text.getD (i + 1).toNat 0).toNat : Int) ≤ 90))) hb) ?_
          exact WL.end_ (kg hK_58')
        refine wm ?_
        refine WL.cut 7 [(1, zI i), (9, zU ((text.getD (i + 1).toNat 0).toNat : Int)), (129, zB ((((decide (97 ≤ ((text.getD (i + 1).toNat 0).toNat : Int))) && (decide (((text.getD (i + 1).toNat 0).toNat : Int) ≤ 122))) || ((decide (65 ≤ ((text.getD (i + 1).toNat 0).toNat : Int))) && (decide (((text.getD (i + 1).toNat 0).toNat : Int) ≤ 90)))) || ((decide (48 ≤ ((text.getD (i + 1).toNat 0).toNat : Int))) && (decide (((text.getD (i + 1).toNat 0).toNat : Int) ≤ 57)))))] ?_ (fun K0_60' hK_60' => ?_)
        rotate_left
        ·refine WL.split (((decide (97 ≤ ((text.getD (i + 1).toNat 0).toNat : Int))) && (decide (((text.getD (i + 1).toNat 0).toNat : Int) ≤ 122))) || ((decide (65 ≤ ((text.getD (i + 1).toNat 0).toNat : Int))) && (decide (((text.getD (i + 1).toNat 0).toNat : Int) ≤ 90)))) (fun hb => ?_) (fun hb => ?_)
         ·refine WL.set 122 rfl (congrArg zB hb) ?_
          refine wk ?_
          refine wk ?_
          refine wk ?_
          refine wk ?_
          refine wk ?_
          refine wk ?_
          refine wv (OV.pickT rfl rfl) ?_
          refine WL.set 129 rfl (oT (v := (decide (48 ≤ ((text.getD (i + 1).toNat 0).toNat : Int))) && (decide (((text.getD (i + 1).toNat 0).toNat : Int) ≤ 57))) hb) ?_
          exact WL.end_ (kg hK_60')
         ·refine WL.set 122 rfl (congrArg zB hb) ?_
          refine wm ?_
          refine wv (OV.geq rfl rfl) ?_
          refine wm ?_
          refine WL.cut 3 [(1, zI i), (9, zU ((text.getD (i + 1).toNat 0).toNat : Int)), (122, zB false), (128, zB ((decide (48 ≤ ((text.getD (i + 1).toNat 0).toNat : Int))) && (decide (((text.getD (i + 1).toNat 0).toNat : Int) ≤ 57))))] ?_ (fun K0_59' hK_59' => ?_)
          rotate_left
          ·refine WL.split (decide (48 ≤ ((text.getD (i + 1).toNat 0).toNat : Int))) (fun hb => ?_) (fun hb => ?_)
           ·refine WL.set 125 rfl (congrArg zB hb) ?_
            refine wm ?_
            refine wv (OV.leq rfl rfl) ?_
            refine wv (OV.pickT rfl rfl) ?_
            refine WL.set 128 rfl (bT (v := decide (((text.getD (i + 1).toNat 0).toNat : Int) ≤ 57)) hb) ?_
            exact WL.end_ (kg hK_59')
           ·refine WL.set 125 rfl (congrArg zB hb) ?_
            refine wk ?_
            refine wk ?_
            refine wv (OV.pickF rfl rfl) ?_
            refine WL.set 128 rfl (bF (v := decide (((text.getD (i + 1).toNat 0).toNat : Int) ≤ 57)) hb) ?_
            exact WL.end_ (kg hK_59')
          refine wv (OV.pickF rfl rfl) ?_
          refine WL.set 129 rfl (oF (v := (decide (48 ≤ ((text.getD (i + 1).toNat 0).toNat : Int))) && (decide (((text.getD (i + 1).toNat 0).toNat : Int) ≤ 57))) hb) ?_
          exact WL.end_ (kg hK_60')
        refine wa ?_
        refine WL.nil ?_
        refine kg (hK_55' [(1, zI i), (9, zU ((text.getD (i + 1).toNat 0).toNat : Int)), (12, zB ((((decide (97 ≤ ((text.getD (i + 1).toNat 0).toNat : Int))) && (decide (((text.getD (i + 1).toNat 0).toNat : Int) ≤ 122))) || ((decide (65 ≤ ((text.getD (i + 1).toNat 0).toNat : Int))) && (decide (((text.getD (i + 1).toNat 0).toNat : Int) ≤ 90)))) || ((decide (48 ≤ ((text.getD (i + 1).toNat 0).toNat : Int))) && (decide (((text.getD (i + 1).toNat 0).toNat : Int) ≤ 57)))))] _ ?_)
        refine a6 (fun _ hK_61' => ?_)
        refine a6 (fun _ hK_62' => ?_)
        refine a4 ?_
        refine wm ?_
        refine wv (OV.lss rfl rfl) ?_
        refine wm ?_
        refine WL.cut 3 [(1, zI i), (9, zU ((text.getD (i + 1).toNat 0).toNat : Int)), (12, zB ((((decide (97 ≤ ((text.getD (i + 1).toNat 0).toNat : Int))) && (decide (((text.getD (i + 1).toNat 0).toNat : Int) ≤ 122))) || ((decide (65 ≤ ((text.getD (i + 1).toNat 0).toNat : Int))) && (decide (((text.getD (i + 1).toNat 0).toNat : Int) ≤ 90)))) || ((decide (48 ≤ ((text.getD (i + 1).toNat 0).toNat : Int))) && (decide (((text.getD (i + 1).toNat 0).toNat : Int) ≤ 57))))), (135, zB ((decide (((text.getD (i + 1).toNat 0).toNat : Int) < 32)) || (decide (126 < ((text.getD (i + 1).toNat 0).toNat : Int)))))] ?_ (fun K0_63' hK_63' => ?_)
        rotate_left
        ·refine WL.split (decide (((text.getD (i + 1).toNat 0).toNat : Int) < 32)) (fun hb => ?_) (fun hb => ?_)
         ·refine WL.set 132 rfl (congrArg zB hb) ?_
          refine wk ?_
          refine wk ?_
          refine wv (OV.pickT rfl rfl) ?_
          refine WL.set 135 rfl (oT (v := decide (126 < ((text.getD (i + 1).toNat 0).toNat : Int))) hb) ?_
          exact WL.end_ (kg hK_63')
         ·refine WL.set 132 rfl (congrArg zB hb) ?_
          refine wm ?_
          refine wv (OV.gtr rfl rfl) ?_
          refine wv (OV.pickF rfl rfl) ?_
          refine WL.set 135 rfl (oF (v := decide (126 < ((text.getD (i + 1).toNat 0).toNat : Int))) hb) ?_
          exact WL.end_ (kg hK_63')
        refine wm ?_
        refine WL.cut 2 [(1, zI i), (9, zU ((text.getD (i + 1).toNat 0).toNat : Int)), (138, zB (((decide (((text.getD (i + 1).toNat 0).toNat : Int) < 32)) || (decide (126 < ((text.getD (i + 1).toNat 0).toNat : Int)))) || ((((decide (97 ≤ ((text.getD (i + 1).toNat 0).toNat : Int))) && (decide (((text.getD (i + 1).toNat 0).toNat : Int) ≤ 122))) || ((decide (65 ≤ ((text.getD (i + 1).toNat 0).toNat : Int))) && (decide (((text.getD (i + 1).toNat 0).toNat : Int) ≤ 90)))) || ((decide (48 ≤ ((text.getD (i + 1).toNat 0).toNat : Int))) && (decide (((text.getD (i + 1).toNat 0).toNat : Int) ≤ 57))))))] ?_ (fun K0_64' hK_64' => ?_)
        rotate_left
        ·refine WL.split ((decide (((text.getD (i + 1).toNat 0).toNat : Int) < 32)) || (decide (126 < ((text.getD (i + 1).toNat 0).toNat : Int)))) (fun hb => ?_) (fun hb => ?_)
         ·refine WL.set 136 rfl (congrArg zB hb) ?_
          refine wk ?_
          refine wv (OV.pickT rfl rfl) ?_
          refine WL.set 138 rfl (oT (v := (((decide (97 ≤ ((text.getD (i + 1).toNat 0).toNat : Int))) && (decide (((text.getD (i + 1).toNat 0).toNat : Int) ≤ 122))) || ((decide (65 ≤ ((text.getD (i + 1).toNat 0).toNat : Int))) && (decide (((text.getD (i + 1).toNat 0).toNat : Int) ≤ 90)))) || ((decide (48 ≤ ((text.getD (i + 1).toNat 0).toNat : Int))) && (decide (((text.getD (i + 1).toNat 0).toNat : Int) ≤ 57)))) hb) ?_
          exact WL.end_ (kg hK_64')
         ·refine WL.set 136 rfl (congrArg zB hb) ?_
          refine wm ?_
          refine wv (OV.pickF rfl rfl) ?_
          refine WL.set 138 rfl (oF (v := (((decide (97 ≤ ((text.getD (i + 1).toNat 0).toNat : Int))) && (decide (((text.getD (i + 1).toNat 0).toNat : Int) ≤ 122))) || ((decide (65 ≤ ((text.getD (i + 1).toNat 0).toNat : Int))) && (decide (((text.getD (i + 1).toNat 0).toNat : Int) ≤ 90)))) || ((decide (48 ≤ ((text.getD (i + 1).toNat 0).toNat : Int))) && (decide (((text.getD (i + 1).toNat 0).toNat : Int) ≤ 57)))) hb) ?_
          exact WL.end_ (kg hK_64')
        refine WL.nil ?_
        refine kg (hK_62' [(1, zI i), (9, zU ((text.getD (i + 1).toNat 0).toNat : Int)), (138, zB (((decide (((text.getD (i + 1).toNat 0).toNat : Int) < 32)) || (decide (126 < ((text.getD (i + 1).toNat 0).toNat : Int)))) || ((((decide (97 ≤ ((text.getD (i + 1).toNat 0).toNat : Int))) && (decide (((text.getD (i + 1).toNat 0).toNat : Int) ≤ 122))) || ((decide (65 ≤ ((text.getD (i + 1).toNat 0).toNat : Int))) && (decide (((text.getD (i + 1).toNat 0).toNat : Int) ≤ 90)))) || ((decide (48 ≤ ((text.getD (i + 1).toNat 0).toNat : Int))) && (decide (((text.getD (i + 1).toNat 0).toNat : Int) ≤ 57))))))] _ ?_)
        refine b5 (b := ((decide (((text.getD (i + 1).toNat 0).toNat : Int) < 32)) || (decide (126 < ((text.getD (i + 1).toNat 0).toNat : Int)))) || ((((decide (97 ≤ ((text.getD (i + 1).toNat 0).toNat : Int))) && (decide (((text.getD (i + 1).toNat 0).toNat : Int) ≤ 122))) || ((decide (65 ≤ ((text.getD (i + 1).toNat 0).toNat : Int))) && (decide (((text.getD (i + 1).toNat 0).toNat : Int) ≤ 90)))) || ((decide (48 ≤ ((text.getD (i + 1).toNat 0).toNat : Int))) && (decide (((text.getD (i + 1).toNat 0).toNat : Int) ≤ 57))))) rfl (fun hb => ?_) (fun hb => ?_)
        ·replace h := j4 h hb
         refine a6 (fun _ hK_65' => ?_)
         refine a4 ?_
         refine wm ?_
         obtain ⟨o_45', h⟩ := h
         refine wv (OV.add rfl rfl o_45') ?_
         refine wa ?_
         refine wa ?_
         refine wa ?_
         refine WL.nil ?_
         refine kg (hK_65' [(6, zU 0), (7, zI 0), (8, zI (i + 1))] _ ?_)
         refine b9 ?_
         exact hE.ret [] rfl rfl (.inl ⟨_, _, _, h, rfl⟩) (d8.of3 rfl (RV.tmp rfl) (RV.tmp rfl) (RV.tmp rfl))
        ·replace h := i9 h hb
         refine b7 ?_
         refine kg (hK_61' [(1, zI i), (9, zU ((text.getD (i + 1).toNat 0).toNat : Int))] _ ?_)
         refine a6 (fun _ hK_66' => ?_)
         refine a4 ?_
         refine wm ?_
         refine wm ?_
         obtain ⟨o_46', h⟩ := h
         refine wv (OV.add rfl rfl o_46') ?_
         refine wa ?_
         refine wa ?_
         refine wa ?_
         refine WL.nil ?_
         refine kg (hK_66' [(6, zU ((text.getD (i + 1).toNat 0).toNat : Int)), (7, zI (i + 2)), (8, zI (-1))] _ ?_)
         refine b9 ?_
         exact hE.ret [] rfl rfl (.inl ⟨_, _, _, h, rfl⟩) (d8.of3 rfl (RV.tmp rfl) (RV.tmp rfl) (RV.tmp rfl))
def a8 (t : List UInt8) (i : Int) (inner : Bool) : Int × Int × Int :=
 match ads t i (if inner then inL else spL) with
 | .ok (c, q) => (c, q, -1)
 | .error e => (0, 0, e)
theorem awz {t : List UInt8} {a e : Int} (h0 : 0 ≤ a) (h : ajl t a = .error e) : 0 ≤ e := by
 have hx : ∀ {b e : Int}, 0 ≤ b → ahd t b = .error e → 0 ≤ e := fun h0 h => by
  unfold ahd at h
  split at h
  ·cases h
  ·cases h; exact h0
 unfold ajl at h
 split at h
 ·simp only at h
  repeat' split at h
  all_goals first
   | (cases h; done)
   | (cases h; omega)
   | skip
  ·rename_i hp _ _ hq
   have h3 := af6 hp
   cases h
   exact hx (by omega) hq
  ·rename_i hq
   cases h
   exact hx (by omega) hq
 ·cases h; exact h0
theorem alw {t : List UInt8} {a e : Int} {bar : List UInt8} (h0 : 0 ≤ a) (h : ads t a bar = .error e) : 0 ≤ e := by
 unfold ads at h
 split at h
 ·simp only at h
  split at h
  ·exact awz (by omega) h
  ·split at h
   ·cases h; exact h0
   ·cases h
 ·cases h; exact h0
theorem x9 {t : List UInt8} {i : Int} (h : i < t.length) : ((t.getD i.toNat 0).toNat : Int) = b4 t i := by unfold b4; rw [if_pos h]
theorem ae4 (t : List UInt8) (i : Int) (inner : Bool) (h : 0 ≤ i ∧ i ≤ t.length ∧ t.length ≤ 9223372036854775807) :
  c8 Tryd.prog 82 [st t, .int .i64 i, .bool inner] [] [] (Ret (.tuple #[.int .u8 (a8 t i inner).1, .int .i64 (a8 t i inner).2.1, .int .i64 (a8 t i inner).2.2]) []) := by
 refine (aob t i inner (fun a b c => (a, b, c) = a8 t i inner) ?_).weak ?_
 ·obtain ⟨h0, hle, hmax⟩ := h
  have hb := aa5 t i
  unfold aew a8 ads
  by_cases h1 : i < t.length
  ·rw [if_neg (by simp; omega), if_pos h1, x9 h1]
   refine ⟨⟨h0, h1⟩, ?_⟩
   have hI : ∀ k : Int, 0 ≤ k → i + k ≤ t.length → I64 (i + k) := fun k h2 h3 => ⟨by omega, by omega⟩
   by_cases h2 : b4 t i = 92
   ·rw [if_neg (by simp [h2])]
    simp only [h2, if_true]
    refine ⟨hI 1 (by omega) (by omega), ?_⟩
    unfold ajl
    by_cases h3 : i + 1 < t.length
    ·rw [if_neg (by simp; omega), if_pos h3, x9 h3]
     refine ⟨hI 1 (by omega) (by omega), ⟨by omega, h3⟩, ?_⟩
     have hb2 := aa5 t (i + 1)
     have hh : i + 1 + 1 = i + 2 := by omega
     simp only [hh]
     generalize b4 t (i + 1) = c at hb2 ⊢
     by_cases e1 : c = 110
     ·subst e1; exact ⟨hI 2 (by omega) (by omega), by first | rfl | trivial⟩
     ·by_cases e2 : c = 114
      ·subst e2; exact ⟨hI 2 (by omega) (by omega), by first | rfl | trivial⟩
      ·by_cases e3 : c = 116
       ·subst e3; exact ⟨hI 2 (by omega) (by omega), by first | rfl | trivial⟩
       ·rw [if_neg (by simpa using e1), if_neg (by simpa using e2), if_neg (by simpa using e3)]
        simp only [e1, e2, e3, if_false]
        by_cases e4 : c = 120
        ·rw [if_pos (by simpa using e4)]
         simp only [e4, if_true]
         refine ⟨hI 2 (by omega) (by omega), ?_, ?_⟩
         ·intro hl
          have hl : i + 2 < t.length := by simpa using hl
          have := aa5 t (i + 2)
          rw [x9 hl]
          exact ⟨hI 2 (by omega) (by omega), ⟨by omega, hl⟩, this⟩
         ·unfold ahd
          by_cases h4 : i + 2 < t.length ∧ 0 ≤ s5 (b4 t (i + 2))
          ·have hb3 := aa5 t (i + 2)
           have hr3 := af3 (c := b4 t (i + 2))
           rw [x9 h4.1, if_neg (by simp; omega)]
           simp only [h4, and_self, if_true]
           have hh2 : i + 2 + 1 = i + 3 := by omega
           simp only [hh2]
           refine ⟨hI 3 (by omega) (by omega), ?_, ?_⟩
           ·intro hl
            have hl : i + 3 < t.length := by simpa using hl
            have := aa5 t (i + 3)
            rw [x9 hl]
            exact ⟨hI 3 (by omega) (by omega), ⟨by omega, hl⟩, this⟩
           ·by_cases h5 : i + 3 < t.length ∧ 0 ≤ s5 (b4 t (i + 3))
            ·have hb4 := aa5 t (i + 3)
             have hr4 := af3 (c := b4 t (i + 3))
             rw [x9 h5.1, if_neg (by simp; omega)]
             simp only [h5, and_self, if_true]
             rw [IntWalk.u8_in _ (by omega)]
             have hh3 : i + 3 + 1 = i + 4 := by omega
             rw [hh3]
             exact ⟨hI 2 (by omega) (by omega), ⟨by omega, by first | trivial | omega⟩, hb3, ⟨by omega, by omega⟩, hI 3 (by omega) (by omega), ⟨by omega, by first | trivial | omega⟩, hb4, ⟨by omega, by omega⟩, hI 4 (by omega) (by omega), by first | rfl | trivial⟩
            ·simp only [h5, if_false]
             rw [if_pos ?_]
             ·exact ⟨hI 3 (by omega) (by omega), by first | rfl | trivial⟩
             ·by_cases h6 : i + 3 < t.length
              ·rw [x9 h6]; simp; omega
              ·simp; omega
          ·simp only [h4, if_false]
           rw [if_pos ?_]
           ·exact ⟨hI 2 (by omega) (by omega), by first | rfl | trivial⟩
           ·by_cases h6 : i + 2 < t.length
            ·rw [x9 h6]; simp; omega
            ·simp; omega
        ·rw [if_neg (by simpa using e4)]
         simp only [e4, if_false]
         by_cases e5 : c < 32 ∨ 126 < c ∨ (48 ≤ c ∧ c ≤ 57) ∨ (97 ≤ c ∧ c ≤ 122) ∨ (65 ≤ c ∧ c ≤ 90)
         ·rw [if_pos (by simp; omega)]; simp only [e5, if_true]; exact ⟨hI 1 (by omega) (by omega), by first | rfl | trivial⟩
         ·rw [if_neg (by simp; omega)]; simp only [e5, if_false]; exact ⟨hI 2 (by omega) (by omega), by first | rfl | trivial⟩
    ·rw [if_pos (by simp; omega), if_neg h3]
     show (0, 0, (t.length : Int)) = (0, 0, i + 1)
     rw [show (t.length : Int) = i + 1 by omega]
   ·rw [if_pos (by simp [h2])]
    simp only [h2, if_false]
    generalize hc : b4 t i = c at hb h2 ⊢
    refine ⟨fun bad => (if c < 32 ∨ 126 < c ∨ (if inner = true then inL else spL).contains c.toNat.toUInt8 = true then bad = true else bad = false), fun bad hbad => ?_, ?_⟩
    ·simp only at hbad
     by_cases e5 : c < 32 ∨ 126 < c ∨ (if inner = true then inL else spL).contains c.toNat.toUInt8 = true
     ·rw [if_pos e5] at hbad; simp only [hbad, e5, if_true]
     ·rw [if_neg e5] at hbad; simp only [hbad, e5, if_false, Bool.false_eq_true]; exact ⟨hI 1 (by omega) (by omega), by first | rfl | trivial⟩
    ·cases inner
     ·simp only [Bool.false_eq_true, if_false]
      refine ⟨fun _ => hb, ?_⟩
      generalize spL.contains c.toNat.toUInt8 = bc
      cases bc <;> split <;> rename_i e5 <;> (try simp at e5) <;> simp <;> omega
     ·simp only [if_true]
      refine ⟨fun _ => hb, ?_⟩
      generalize inL.contains c.toNat.toUInt8 = bc
      cases bc <;> split <;> rename_i e5 <;> (try simp at e5) <;> simp <;> omega
  ·rw [if_pos (by simp; omega), if_neg h1]
   show (0, 0, (t.length : Int)) = (0, 0, i)
   rw [show (t.length : Int) = i by omega]
 ·rintro o (⟨a, b, c, hm, rfl⟩ | h)
  ·rw [← hm]; rfl
  ·exact h.elim
end Go.Proofs.YtohnchdnkbadaaaDoor
set_option maxRecDepth 100000
namespace Go.Proofs.YtohnchdnkbadaaaDoor
open Go Go.RowKit
theorem afk : abm Tryd.prog 100 = some (arr 256 (fun j => zB ((fun _ => false) j))) := by kernel_rfl
theorem s9 : RowT Tryd.prog 100 256 := ⟨by kernel_rfl, by kernel_rfl⟩
theorem aah : s8 Tryd.prog 100 256 = true := by kernel_rfl
theorem ado : ao5 Tryd.prog 100 4 256 1 = true := by kernel_rfl
theorem age : s8 Tryd.prog 4 1 = true := by kernel_rfl
theorem aic : o6 Tryd.prog 82 = true := by kernel_rfl
theorem au3 : abw Tryd.prog 4 = true := by kernel_rfl
def ag4 (text : List UInt8) (at0 : Int) (K : (Nat → Bool) → Int → Int → Int → Prop) : Prop :=
 (if ((decide (at0 < 0)) || (decide ((text.length : Int) ≤ at0))) = true then
  K (fun _ => false) 0 2 0
 else
  (0 ≤ at0 ∧ at0 < text.length) ∧
  (if (decide (((text.getD at0.toNat 0).toNat : Int) = 46)) = true then
   ∃ (Inv : Int → (Nat → Bool) → Prop) (mu : Int → (Nat → Bool) → Nat),
    Inv 0 (fun _ => false) ∧ ∀ (b_3' : Int) (s_1' : Nat → Bool), Inv b_3' s_1' →
     (if (decide (b_3' < 256)) = true then
      (0 ≤ b_3' ∧ b_3' < 256) ∧
      (I64 (b_3' + 1)) ∧
      Inv (b_3' + 1) (fun j => if j = (b_3').toNat then !decide (b_3' = 10) else s_1' j) ∧ mu (b_3' + 1) (fun j => if j = (b_3').toNat then !decide (b_3' = 10) else s_1' j) < mu b_3' s_1'
     else
      (I64 (at0 + 1)) ∧
      K s_1' (at0 + 1) 0 0)
  else
   (0 ≤ at0 ∧ at0 < text.length) ∧
   (if (!decide (((text.getD at0.toNat 0).toNat : Int) = 91)) = true then
    (0 ≤ at0 ∧ at0 ≤ text.length ∧ text.length ≤ 9223372036854775807) ∧
    (if (decide (0 ≤ (a8 text at0 false).2.2)) = true then
     K (fun _ => false) 0 10 ((a8 text at0 false).2.2)
    else
     (I64 ((a8 text at0 false).1)) ∧
     (0 ≤ (a8 text at0 false).1 ∧ (a8 text at0 false).1 < 256) ∧
     K (fun j => if j = ((a8 text at0 false).1).toNat then true else (fun _ => false) j) ((a8 text at0 false).2.1) 0 0)
   else
    (I64 (at0 + 1)) ∧
    ((decide (at0 + 1 < (text.length : Int))) = true → (0 ≤ (at0 + 1) ∧ (at0 + 1) < text.length)) ∧
    ∃ (J0 : Int → Prop),
     (∀ (i : Int), J0 i →
      ∃ (Inv_3' : Int → (Nat → Bool) → Prop) (mu_3' : Int → (Nat → Bool) → Nat),
       Inv_3' i (fun _ => false) ∧ ∀ (i_4' : Int) (s_7' : Nat → Bool), Inv_3' i_4' s_7' →
        ((decide ((text.length : Int) ≤ i_4')) = false → (0 ≤ i_4' ∧ i_4' < text.length)) ∧
        (if ((decide ((text.length : Int) ≤ i_4')) || (!decide (((text.getD i_4'.toNat 0).toNat : Int) = 93))) = true then
         (0 ≤ i_4' ∧ i_4' ≤ text.length ∧ text.length ≤ 9223372036854775807) ∧
         (if (decide (0 ≤ (a8 text i_4' true).2.2)) = true then
          K (fun _ => false) 0 10 ((a8 text i_4' true).2.2)
         else
          ∃ (J0_3' : Int → Int → Prop),
           (∀ (i_5' : Int) (hi_2' : Int), J0_3' i_5' hi_2' →
            (I64 ((a8 text i_4' true).1)) ∧
            ∃ (Inv_4' : Int → (Nat → Bool) → Prop) (mu_4' : Int → (Nat → Bool) → Nat),
             Inv_4' ((a8 text i_4' true).1) s_7' ∧ ∀ (b_9' : Int) (s_9' : Nat → Bool), Inv_4' b_9' s_9' →
              (I64 (hi_2')) ∧
              (if (decide (b_9' ≤ hi_2')) = true then
               (0 ≤ b_9' ∧ b_9' < 256) ∧
               (I64 (b_9' + 1)) ∧
               Inv_4' (b_9' + 1) (fun j => if j = (b_9').toNat then true else s_9' j) ∧ mu_4' (b_9' + 1) (fun j => if j = (b_9').toNat then true else s_9' j) < mu_4' b_9' s_9'
              else
               Inv_3' i_5' s_9' ∧ mu_3' i_5' s_9' < mu_3' i_4' s_7')) ∧
           ((decide ((a8 text i_4' true).2.1 < (text.length : Int))) = true → (0 ≤ ((a8 text i_4' true).2.1) ∧ ((a8 text i_4' true).2.1) < text.length)) ∧
           (if ((decide ((a8 text i_4' true).2.1 < (text.length : Int))) && (decide (((text.getD ((a8 text i_4' true).2.1).toNat 0).toNat : Int) = 45))) = true then
            (I64 (((a8 text i_4' true).2.1) + 1)) ∧
            (0 ≤ ((a8 text i_4' true).2.1) + 1 ∧ ((a8 text i_4' true).2.1) + 1 ≤ text.length ∧ text.length ≤ 9223372036854775807) ∧
            (if (decide (0 ≤ (a8 text (((a8 text i_4' true).2.1) + 1) true).2.2)) = true then
             K (fun _ => false) 0 10 ((a8 text (((a8 text i_4' true).2.1) + 1) true).2.2)
            else
             (if (decide ((a8 text (((a8 text i_4' true).2.1) + 1) true).1 < (a8 text i_4' true).1)) = true then
              K (fun _ => false) 0 10 (((a8 text i_4' true).2.1) + 1)
             else
              J0_3' ((a8 text (((a8 text i_4' true).2.1) + 1) true).2.1) ((a8 text (((a8 text i_4' true).2.1) + 1) true).1)))
           else
            J0_3' ((a8 text i_4' true).2.1) ((a8 text i_4' true).1)))
        else
         ∃ (J0_4' : (Nat → Bool) → Prop),
          (∀ (s_12' : Nat → Bool), J0_4' s_12' →
           (I64 (i_4' + 1)) ∧
           K s_12' (i_4' + 1) 0 0) ∧
          (if ((decide (at0 + 1 < (text.length : Int))) && (decide (((text.getD (at0 + 1).toNat 0).toNat : Int) = 94))) = true then
           ∃ (Inv_6' : Int → (Nat → Bool) → Prop) (mu_6' : Int → (Nat → Bool) → Nat),
            Inv_6' 0 s_7' ∧ ∀ (b_13' : Int) (s_14' : Nat → Bool), Inv_6' b_13' s_14' →
             (if (decide (b_13' < 256)) = true then
              (0 ≤ b_13' ∧ b_13' < 256) ∧
              (0 ≤ b_13' ∧ b_13' < 256) ∧
              (I64 (b_13' + 1)) ∧
              Inv_6' (b_13' + 1) (fun j => if j = (b_13').toNat then !(s_14' ((b_13').toNat)) else s_14' j) ∧ mu_6' (b_13' + 1) (fun j => if j = (b_13').toNat then !(s_14' ((b_13').toNat)) else s_14' j) < mu_6' b_13' s_14'
             else
              J0_4' s_14')
          else
           J0_4' s_7'))) ∧
     (if ((decide (at0 + 1 < (text.length : Int))) && (decide (((text.getD (at0 + 1).toNat 0).toNat : Int) = 94))) = true then
      (I64 ((at0 + 1) + 1)) ∧
      J0 ((at0 + 1) + 1)
     else
      J0 (at0 + 1)))))
theorem ard  (text : List UInt8) (at0 : Int) (K : (Nat → Bool) → Int → Int → Int → Prop) (h : ag4 text at0 K) :
  c8 Tryd.prog 48 [st text, zI at0] [] [] (fun o => (∃ (v : Nat → Bool) (v_1' : Int) (v_2' : Int) (v_3' : Int), K v v_1' v_2' v_3' ∧ o = .ret (Value.tuple #[Value.agg (arr 256 (fun j => zB (v j))).toArray, zI v_1', zI v_2', zI v_3']) []) ∨ (False)) := by
 unfold ag4 at h
 refine c6 (n := 157) (L0 := [(0, st text), (1, zI at0)]) Tryd.func48 rfl rfl rfl rfl (fun w0 M Q hE => ?_)
 refine a6 (fun _ hK => ?_)
 refine a4 ?_
 refine WL.make (MV.alloc afk) rfl rfl rfl (fun b => ?_)
 refine wa ?_
 refine wa ?_
 refine wa ?_
 refine WL.nil ?_
 refine kg (hK [(0, st text), (1, zI at0), (4, zP b)] _ ?_)
 refine a6 (fun _ hK_1' => ?_)
 refine a4 ?_
 refine WL.make (MV.alloc afk) rfl rfl rfl (fun b_1' => ?_)
 refine WL.nil ?_
 refine kg (hK_1' [(0, st text), (1, zI at0), (4, zP b), (8, zP b_1')] _ ?_)
 refine a6 (fun _ hK_2' => ?_)
 refine a6 (fun _ hK_3' => ?_)
 refine a4 ?_
 refine wm ?_
 refine wv (OV.lss rfl rfl) ?_
 refine wm ?_
 refine WL.cut 5 [(0, st text), (1, zI at0), (4, zP b), (8, zP b_1'), (29, zB ((decide (at0 < 0)) || (decide ((text.length : Int) ≤ at0))))] ?_ (fun K0_4' hK_4' => ?_)
 rotate_left
 ·refine WL.split (decide (at0 < 0)) (fun hb => ?_) (fun hb => ?_)
  ·refine WL.set 24 rfl (congrArg zB hb) ?_
   refine wk ?_
   refine wk ?_
   refine wk ?_
   refine wk ?_
   refine wv (OV.pickT rfl rfl) ?_
   refine WL.set 29 rfl (oT (v := decide ((text.length : Int) ≤ at0)) hb) ?_
   exact WL.end_ (kg hK_4')
  ·refine WL.set 24 rfl (congrArg zB hb) ?_
   refine wm ?_
   refine wm ?_
   refine wv (OV.len rfl k9) ?_
   refine wv (OV.geq rfl rfl) ?_
   refine wv (OV.pickF rfl rfl) ?_
   refine WL.set 29 rfl (oF (v := decide ((text.length : Int) ≤ at0)) hb) ?_
   exact WL.end_ (kg hK_4')
 refine WL.nil ?_
 refine kg (hK_3' [(0, st text), (1, zI at0), (4, zP b), (8, zP b_1'), (29, zB ((decide (at0 < 0)) || (decide ((text.length : Int) ≤ at0))))] _ ?_)
 refine b5 (b := (decide (at0 < 0)) || (decide ((text.length : Int) ≤ at0))) rfl (fun hb => ?_) (fun hb => ?_)
 ·replace h := j4 h hb
  refine a6 (fun _ hK_5' => ?_)
  refine a4 ?_
  refine wv (OV.loadR rfl (At.own 0 rfl) (by rw [d7]; exact s9)) ?_
  refine WL.storeW (vs := arr 256 (fun j => zB ((fun _ => false) j))) 1 rfl rfl rfl rfl (d7 _ _) aah ((d7 _ _).trans (d7 _ _).symm) (ac2 _ _ (fun _ => rfl)) rfl ?_
  refine wa ?_
  refine wa ?_
  refine wa ?_
  refine WL.nil ?_
  refine kg (hK_5' [(4, zP b), (5, zI 0), (6, zI 2), (7, zI 0)] _ ?_)
  refine b9 ?_
  exact hE.ret [] rfl rfl (.inl ⟨_, _, _, _, h, rfl⟩) (d8.of4 rfl (RV.row rfl (At.own 1 rfl) (by rw [d7]; exact s9)) (RV.tmp rfl) (RV.tmp rfl) (RV.tmp rfl))
 ·replace h := i9 h hb
  refine b7 ?_
  refine kg (hK_2' [(0, st text), (1, zI at0), (4, zP b), (8, zP b_1')] _ ?_)
  refine a6 (fun _ hK_6' => ?_)
  refine a6 (fun _ hK_7' => ?_)
  refine a4 ?_
  refine wm ?_
  refine wm ?_
  obtain ⟨o_1', h⟩ := h
  refine wv (OV.index rfl rfl k9 o_1') ?_
  refine wv (OV.eql rfl rfl) ?_
  refine WL.nil ?_
  refine kg (hK_7' [(0, st text), (1, zI at0), (4, zP b), (8, zP b_1'), (34, zB (decide (((text.getD at0.toNat 0).toNat : Int) = 46)))] _ ?_)
  refine b5 (b := decide (((text.getD at0.toNat 0).toNat : Int) = 46)) rfl (fun hb => ?_) (fun hb => ?_)
  ·replace h := j4 h hb
   refine a6 (fun _ hK_8' => ?_)
   refine a6 (fun _ hK_9' => ?_)
   refine a4 ?_
   refine wa ?_
   refine WL.nil ?_
   refine kg (hK_9' [(1, zI at0), (4, zP b), (8, zP b_1'), (9, zI 0)] _ ?_)
   refine g8 ?_
   obtain ⟨Inv, mu, h0, hr⟩ := h
   refine aaj (S := Int × (Nat → Bool)) (fun σ => Inv σ.1 σ.2) (fun σ => mu σ.1 σ.2) (fun σ => [(1, zI at0), (4, zP b), (8, zP b_1'), (9, zI σ.1)]) (fun σ => [HA.blk b_1' (.cells (arr 256 (fun j => zB (σ.2 j))).toArray 100 (0, 0)), HA.blk b (.cells (arr 256 (fun j => zB ((fun _ => false) j))).toArray 100 (0, 0))]) (0, fun _ => false) h0 ⟨rfl, rfl, rfl, rfl, trivial⟩ rfl ?_
   rintro ⟨b_3', s_1'⟩ hi K0_16' hK_16'
   have h := hr b_3' s_1' hi
   show WC _ _ _ _ [(1, zI at0), (4, zP b), (8, zP b_1'), (9, zI b_3')] [HA.blk b_1' (.cells (arr 256 (fun j => zB (s_1' j))).toArray 100 (0, 0)), HA.blk b (.cells (arr 256 (fun j => zB ((fun _ => false) j))).toArray 100 (0, 0))]
   refine a6 (fun _ hK_17' => ?_)
   refine a6 (fun _ hK_18' => ?_)
   refine a4 ?_
   refine wm ?_
   refine wv (OV.lss rfl rfl) ?_
   refine WL.nil ?_
   refine kg (hK_18' [(1, zI at0), (4, zP b), (8, zP b_1'), (9, zI b_3'), (36, zB (decide (b_3' < 256)))] _ ?_)
   refine b5 (b := decide (b_3' < 256)) rfl (fun hb => ?_) (fun hb => ?_)
   ·replace h := j4 h hb
    refine b7 ?_
    refine kg (hK_17' [(1, zI at0), (4, zP b), (8, zP b_1'), (9, zI b_3')] _ ?_)
    refine a6 (fun _ hK_19' => ?_)
    refine g8 ?_
    refine a4 ?_
    refine wm ?_
    refine wm ?_
    refine wv (OV.neq rfl rfl) ?_
    obtain ⟨o_4', h⟩ := h
    refine wv (OV.indexAddr1 rfl rfl ado o_4') ?_
    refine WL.storeA' (f' := fun j => zB (if j = (b_3').toNat then !decide (b_3' = 10) else s_1' j)) 0 rfl rfl rfl rfl age (by first | decide | omega) rfl rfl (fun j => by by_cases hj : j = (b_3').toNat <;> simp [hj]) ?_
    refine WL.nil ?_
    refine kg (hK_19' [(1, zI at0), (4, zP b), (8, zP b_1'), (9, zI b_3')] _ ?_)
    refine a4 ?_
    refine wm ?_
    obtain ⟨o_5', h⟩ := h
    refine wv (OV.add rfl rfl o_5') ?_
    refine wa ?_
    refine WL.nil ?_
    exact kh (hK_16' (b_3' + 1, fun j => if j = (b_3').toNat then !decide (b_3' = 10) else s_1' j) h.1 h.2) [0, 1]
   ·replace h := i9 h hb
    refine t8 ?_
    refine kg (hK_8' [(1, zI at0), (4, zP b), (8, zP b_1')] _ ?_)
    refine a6 (fun _ hK_20' => ?_)
    refine a4 ?_
    refine wv (OV.loadR rfl (At.own 0 rfl) (by rw [d7]; exact s9)) ?_
    refine wm ?_
    obtain ⟨o_6', h⟩ := h
    refine wv (OV.add rfl rfl o_6') ?_
    refine WL.storeW (vs := arr 256 (fun j => zB (s_1' j))) 1 rfl rfl rfl rfl (d7 _ _) aah ((d7 _ _).trans (d7 _ _).symm) (ac2 _ _ (fun _ => rfl)) rfl ?_
    refine wa ?_
    refine wa ?_
    refine wa ?_
    refine WL.nil ?_
    refine kg (hK_20' [(4, zP b), (5, zI (at0 + 1)), (6, zI 0), (7, zI 0)] _ ?_)
    refine b9 ?_
    exact hE.ret [] rfl rfl (.inl ⟨_, _, _, _, h, rfl⟩) (d8.of4 rfl (RV.row rfl (At.own 1 rfl) (by rw [d7]; exact s9)) (RV.tmp rfl) (RV.tmp rfl) (RV.tmp rfl))
  ·replace h := i9 h hb
   refine b7 ?_
   refine kg (hK_6' [(0, st text), (1, zI at0), (4, zP b), (8, zP b_1')] _ ?_)
   refine a6 (fun _ hK_21' => ?_)
   refine a6 (fun _ hK_22' => ?_)
   refine a4 ?_
   refine wm ?_
   refine wm ?_
   obtain ⟨o_7', h⟩ := h
   refine wv (OV.index rfl rfl k9 o_7') ?_
   refine wv (OV.neq rfl rfl) ?_
   refine WL.nil ?_
   refine kg (hK_22' [(0, st text), (1, zI at0), (4, zP b), (8, zP b_1'), (49, zB (!decide (((text.getD at0.toNat 0).toNat : Int) = 91)))] _ ?_)
   refine b5 (b := !decide (((text.getD at0.toNat 0).toNat : Int) = 91)) rfl (fun hb => ?_) (fun hb => ?_)
   ·replace h := j4 h hb
    refine a6 (fun _ hK_23' => ?_)
    refine a4 ?_
    refine wm ?_
    refine wm ?_
    obtain ⟨o_8', h⟩ := h
    refine WL.call (A := []) aic rfl (ae4 text at0 false o_8') rfl trivial rfl rfl ?_
    refine wm ?_
    refine wv (OV.extract 0 rfl rfl) ?_
    refine wv (OV.extract 1 rfl rfl) ?_
    refine wv (OV.extract 2 rfl rfl) ?_
    refine wa ?_
    refine wa ?_
    refine wa ?_
    refine WL.nil ?_
    refine kg (hK_23' [(4, zP b), (8, zP b_1'), (10, zU ((a8 text at0 false).1)), (11, zI ((a8 text at0 false).2.1)), (12, zI ((a8 text at0 false).2.2))] _ ?_)
    refine a6 (fun _ hK_24' => ?_)
    refine a6 (fun _ hK_25' => ?_)
    refine a4 ?_
    refine wm ?_
    refine wv (OV.geq rfl rfl) ?_
    refine WL.nil ?_
    refine kg (hK_25' [(4, zP b), (8, zP b_1'), (10, zU ((a8 text at0 false).1)), (11, zI ((a8 text at0 false).2.1)), (12, zI ((a8 text at0 false).2.2)), (58, zB (decide (0 ≤ (a8 text at0 false).2.2)))] _ ?_)
    refine b5 (b := decide (0 ≤ (a8 text at0 false).2.2)) rfl (fun hb => ?_) (fun hb => ?_)
    ·replace h := j4 h hb
     refine a6 (fun _ hK_26' => ?_)
     refine a4 ?_
     refine wv (OV.loadR rfl (At.own 0 rfl) (by rw [d7]; exact s9)) ?_
     refine wm ?_
     refine WL.storeW (vs := arr 256 (fun j => zB ((fun _ => false) j))) 1 rfl rfl rfl rfl (d7 _ _) aah ((d7 _ _).trans (d7 _ _).symm) (ac2 _ _ (fun _ => rfl)) rfl ?_
     refine wa ?_
     refine wa ?_
     refine wa ?_
     refine WL.nil ?_
     refine kg (hK_26' [(4, zP b), (5, zI 0), (6, zI 10), (7, zI ((a8 text at0 false).2.2))] _ ?_)
     refine b9 ?_
     exact hE.ret [] rfl rfl (.inl ⟨_, _, _, _, h, rfl⟩) (d8.of4 rfl (RV.row rfl (At.own 1 rfl) (by rw [d7]; exact s9)) (RV.tmp rfl) (RV.tmp rfl) (RV.tmp rfl))
    ·replace h := i9 h hb
     refine b7 ?_
     refine kg (hK_24' [(4, zP b), (8, zP b_1'), (10, zU ((a8 text at0 false).1)), (11, zI ((a8 text at0 false).2.1))] _ ?_)
     refine a6 (fun _ hK_27' => ?_)
     refine a4 ?_
     refine wm ?_
     obtain ⟨o_9', h⟩ := h
     refine wv (OV.conv64 rfl aci Tryd.underlying3 o_9') ?_
     obtain ⟨o_10', h⟩ := h
     refine wv (OV.indexAddr1 rfl rfl ado o_10') ?_
     refine WL.storeA' (f' := fun j => zB (if j = ((a8 text at0 false).1).toNat then true else (fun _ => false) j)) 0 rfl rfl rfl rfl age (by first | decide | omega) rfl rfl (fun j => by by_cases hj : j = ((a8 text at0 false).1).toNat <;> simp [hj]) ?_
     refine WL.nil ?_
     refine kg (hK_27' [(4, zP b), (8, zP b_1'), (11, zI ((a8 text at0 false).2.1))] _ ?_)
     refine a6 (fun _ hK_28' => ?_)
     refine a4 ?_
     refine wv (OV.loadR rfl (At.own 0 rfl) (by rw [d7]; exact s9)) ?_
     refine wm ?_
     refine WL.storeW (vs := arr 256 (fun j => zB ((fun j => if j = ((a8 text at0 false).1).toNat then true else (fun _ => false) j) j))) 1 rfl rfl rfl rfl (d7 _ _) aah ((d7 _ _).trans (d7 _ _).symm) (ac2 _ _ (fun _ => rfl)) rfl ?_
     refine wa ?_
     refine wa ?_
     refine wa ?_
     refine WL.nil ?_
     refine kg (hK_28' [(4, zP b), (5, zI ((a8 text at0 false).2.1)), (6, zI 0), (7, zI 0)] _ ?_)
     refine b9 ?_
     exact hE.ret [] rfl rfl (.inl ⟨_, _, _, _, h, rfl⟩) (d8.of4 rfl (RV.row rfl (At.own 1 rfl) (by rw [d7]; exact s9)) (RV.tmp rfl) (RV.tmp rfl) (RV.tmp rfl))
   ·replace h := i9 h hb
    refine b7 ?_
    refine kg (hK_21' [(0, st text), (1, zI at0), (4, zP b), (8, zP b_1')] _ ?_)
    refine a6 (fun _ hK_29' => ?_)
    refine a4 ?_
    refine wm ?_
    obtain ⟨o_11', h⟩ := h
    refine wv (OV.add rfl rfl o_11') ?_
    refine wa ?_
    refine WL.nil ?_
    refine kg (hK_29' [(0, st text), (4, zP b), (8, zP b_1'), (13, zI (at0 + 1))] _ ?_)
    refine a6 (fun _ hK_30' => ?_)
    refine a4 ?_
    refine wm ?_
    refine wm ?_
    refine wv (OV.len rfl k9) ?_
    refine wv (OV.lss rfl rfl) ?_
    refine wm ?_
    obtain ⟨o_13', h⟩ := h
    refine WL.cut 5 [(0, st text), (4, zP b), (8, zP b_1'), (13, zI (at0 + 1)), (77, zB ((decide (at0 + 1 < (text.length : Int))) && (decide (((text.getD (at0 + 1).toNat 0).toNat : Int) = 94))))] ?_ (fun K0_31' hK_31' => ?_)
    rotate_left
    ·refine WL.split (decide (at0 + 1 < (text.length : Int))) (fun hb => ?_) (fun hb => ?_)
     ·have o_12' := o_13' hb
      refine WL.set 72 rfl (congrArg zB hb) ?_
      refine wm ?_
      refine wm ?_
      refine wv (OV.index rfl rfl k9 o_12') ?_
      refine wv (OV.eql rfl rfl) ?_
      refine wv (OV.pickT rfl rfl) ?_
      refine WL.set 77 rfl (bT (v := decide (((text.getD (at0 + 1).toNat 0).toNat : Int) = 94)) hb) ?_
      exact WL.end_ (kg hK_31')
     ·refine WL.set 72 rfl (congrArg zB hb) ?_
      refine wk ?_
      refine wk ?_
      refine wk ?_
      refine wk ?_
      refine wv (OV.pickF rfl rfl) ?_
      refine WL.set 77 rfl (bF (v := decide (((text.getD (at0 + 1).toNat 0).toNat : Int) = 94)) hb) ?_
      exact WL.end_ (kg hK_31')
    refine wa ?_
    refine WL.nil ?_
    refine kg (hK_30' [(0, st text), (4, zP b), (8, zP b_1'), (13, zI (at0 + 1)), (14, zB ((decide (at0 + 1 < (text.length : Int))) && (decide (((text.getD (at0 + 1).toNat 0).toNat : Int) = 94))))] _ ?_)
    obtain ⟨J0, hJ, h⟩ := h
    refine m7 (X := Int) (fun σ => J0 σ) (fun σ => [(0, st text), (4, zP b), (8, zP b_1'), (13, zI σ), (14, zB ((decide (at0 + 1 < (text.length : Int))) && (decide (((text.getD (at0 + 1).toNat 0).toNat : Int) = 94))))]) (fun σ => [HA.blk b_1' (.cells (arr 256 (fun j => zB ((fun _ => false) j))).toArray 100 (0, 0)), HA.blk b (.cells (arr 256 (fun j => zB ((fun _ => false) j))).toArray 100 (0, 0))]) ?_ (fun K0_33' hK_33' => ?_)
    ·rintro i hj
     replace h := hJ i hj
     show WC _ _ _ _ [(0, st text), (4, zP b), (8, zP b_1'), (13, zI i), (14, zB ((decide (at0 + 1 < (text.length : Int))) && (decide (((text.getD (at0 + 1).toNat 0).toNat : Int) = 94))))] [HA.blk b_1' (.cells (arr 256 (fun j => zB ((fun _ => false) j))).toArray 100 (0, 0)), HA.blk b (.cells (arr 256 (fun j => zB ((fun _ => false) j))).toArray 100 (0, 0))]
     refine a6 (fun _ hK_34' => ?_)
     refine g8 ?_
     obtain ⟨Inv_3', mu_3', h0_3', hr_3'⟩ := h
     refine aaj (S := Int × (Nat → Bool)) (fun σ => Inv_3' σ.1 σ.2) (fun σ => mu_3' σ.1 σ.2) (fun σ => [(0, st text), (4, zP b), (8, zP b_1'), (13, zI σ.1), (14, zB ((decide (at0 + 1 < (text.length : Int))) && (decide (((text.getD (at0 + 1).toNat 0).toNat : Int) = 94))))]) (fun σ => [HA.blk b_1' (.cells (arr 256 (fun j => zB (σ.2 j))).toArray 100 (0, 0)), HA.blk b (.cells (arr 256 (fun j => zB ((fun _ => false) j))).toArray 100 (0, 0))]) (i, fun _ => false) h0_3' ⟨rfl, rfl, rfl, rfl, rfl, trivial⟩ rfl ?_
     rintro ⟨i_4', s_7'⟩ hi K0_117' hK_117'
     have h := hr_3' i_4' s_7' hi
     show WC _ _ _ _ [(0, st text), (4, zP b), (8, zP b_1'), (13, zI i_4'), (14, zB ((decide (at0 + 1 < (text.length : Int))) && (decide (((text.getD (at0 + 1).toNat 0).toNat : Int) = 94))))] [HA.blk b_1' (.cells (arr 256 (fun j => zB (s_7' j))).toArray 100 (0, 0)), HA.blk b (.cells (arr 256 (fun j => zB ((fun _ => false) j))).toArray 100 (0, 0))]
     refine a6 (fun _ hK_118' => ?_)
     refine a6 (fun _ hK_119' => ?_)
     refine a4 ?_
     refine wm ?_
     refine wm ?_
     refine wv (OV.len rfl k9) ?_
     refine wv (OV.geq rfl rfl) ?_
     refine wm ?_
     obtain ⟨o_58', h⟩ := h
     refine WL.cut 5 [(0, st text), (4, zP b), (8, zP b_1'), (13, zI i_4'), (14, zB ((decide (at0 + 1 < (text.length : Int))) && (decide (((text.getD (at0 + 1).toNat 0).toNat : Int) = 94)))), (90, zB ((decide ((text.length : Int) ≤ i_4')) || (!decide (((text.getD i_4'.toNat 0).toNat : Int) = 93))))] ?_ (fun K0_120' hK_120' => ?_)
     rotate_left
     ·refine WL.split (decide ((text.length : Int) ≤ i_4')) (fun hb => ?_) (fun hb => ?_)
      ·refine WL.set 85 rfl (congrArg zB hb) ?_
       refine wk ?_
       refine wk ?_
       refine wk ?_
       refine wk ?_
       refine wv (OV.pickT rfl rfl) ?_
       refine WL.set 90 rfl (oT (v := !decide (((text.getD i_4'.toNat 0).toNat : Int) = 93)) hb) ?_
       exact WL.end_ (kg hK_120')
      ·have o_57' := o_58' hb
       refine WL.set 85 rfl (congrArg zB hb) ?_
       refine wm ?_
       refine wm ?_
       refine wv (OV.index rfl rfl k9 o_57') ?_
       refine wv (OV.neq rfl rfl) ?_
       refine wv (OV.pickF rfl rfl) ?_
       refine WL.set 90 rfl (oF (v := !decide (((text.getD i_4'.toNat 0).toNat : Int) = 93)) hb) ?_
       exact WL.end_ (kg hK_120')
     refine WL.nil ?_
     refine kg (hK_119' [(0, st text), (4, zP b), (8, zP b_1'), (13, zI i_4'), (14, zB ((decide (at0 + 1 < (text.length : Int))) && (decide (((text.getD (at0 + 1).toNat 0).toNat : Int) = 94)))), (90, zB ((decide ((text.length : Int) ≤ i_4')) || (!decide (((text.getD i_4'.toNat 0).toNat : Int) = 93))))] _ ?_)
     refine b5 (b := (decide ((text.length : Int) ≤ i_4')) || (!decide (((text.getD i_4'.toNat 0).toNat : Int) = 93))) rfl (fun hb => ?_) (fun hb => ?_)
     ·replace h := j4 h hb
      refine b7 ?_
      refine kg (hK_118' [(0, st text), (4, zP b), (8, zP b_1'), (13, zI i_4'), (14, zB ((decide (at0 + 1 < (text.length : Int))) && (decide (((text.getD (at0 + 1).toNat 0).toNat : Int) = 94))))] _ ?_)
      refine g8 ?_
      refine a6 (fun _ hK_121' => ?_)
      refine a4 ?_
      refine wm ?_
      refine wm ?_
      obtain ⟨o_59', h⟩ := h
      refine WL.call (A := []) aic rfl (ae4 text i_4' true o_59') rfl trivial rfl rfl ?_
      refine wm ?_
      refine wv (OV.extract 0 rfl rfl) ?_
      refine wv (OV.extract 1 rfl rfl) ?_
      refine wv (OV.extract 2 rfl rfl) ?_
      refine wa ?_
      refine wa ?_
      refine wa ?_
      refine WL.nil ?_
      refine kg (hK_121' [(0, st text), (4, zP b), (8, zP b_1'), (14, zB ((decide (at0 + 1 < (text.length : Int))) && (decide (((text.getD (at0 + 1).toNat 0).toNat : Int) = 94)))), (15, zU ((a8 text i_4' true).1)), (16, zI ((a8 text i_4' true).2.1)), (17, zI ((a8 text i_4' true).2.2))] _ ?_)
      refine a6 (fun _ hK_122' => ?_)
      refine a6 (fun _ hK_123' => ?_)
      refine a4 ?_
      refine wm ?_
      refine wv (OV.geq rfl rfl) ?_
      refine WL.nil ?_
      refine kg (hK_123' [(0, st text), (4, zP b), (8, zP b_1'), (14, zB ((decide (at0 + 1 < (text.length : Int))) && (decide (((text.getD (at0 + 1).toNat 0).toNat : Int) = 94)))), (15, zU ((a8 text i_4' true).1)), (16, zI ((a8 text i_4' true).2.1)), (17, zI ((a8 text i_4' true).2.2)), (99, zB (decide (0 ≤ (a8 text i_4' true).2.2)))] _ ?_)
      refine b5 (b := decide (0 ≤ (a8 text i_4' true).2.2)) rfl (fun hb => ?_) (fun hb => ?_)
      ·replace h := j4 h hb
       refine a6 (fun _ hK_124' => ?_)
       refine a4 ?_
       refine wv (OV.build rfl (cs := arr 256 (fun j => zB ((fun _ => false) j))) (by kernel_rfl)) ?_
       refine wm ?_
       refine WL.storeW (vs := arr 256 (fun j => zB ((fun _ => false) j))) 1 rfl rfl rfl rfl (d7 _ _) aah ((d7 _ _).trans (d7 _ _).symm) (ac2 _ _ (fun _ => rfl)) rfl ?_
       refine wa ?_
       refine wa ?_
       refine wa ?_
       refine WL.nil ?_
       refine kg (hK_124' [(4, zP b), (5, zI 0), (6, zI 10), (7, zI ((a8 text i_4' true).2.2))] _ ?_)
       refine b9 ?_
       exact hE.ret [] rfl rfl (.inl ⟨_, _, _, _, h, rfl⟩) (d8.of4 rfl (RV.row rfl (At.own 1 rfl) (by rw [d7]; exact s9)) (RV.tmp rfl) (RV.tmp rfl) (RV.tmp rfl))
      ·replace h := i9 h hb
       refine b7 ?_
       refine kg (hK_122' [(0, st text), (4, zP b), (8, zP b_1'), (14, zB ((decide (at0 + 1 < (text.length : Int))) && (decide (((text.getD (at0 + 1).toNat 0).toNat : Int) = 94)))), (15, zU ((a8 text i_4' true).1)), (16, zI ((a8 text i_4' true).2.1))] _ ?_)
       refine a6 (fun _ hK_125' => ?_)
       refine a4 ?_
       refine wm ?_
       refine wa ?_
       refine WL.nil ?_
       refine kg (hK_125' [(0, st text), (4, zP b), (8, zP b_1'), (13, zI ((a8 text i_4' true).2.1)), (14, zB ((decide (at0 + 1 < (text.length : Int))) && (decide (((text.getD (at0 + 1).toNat 0).toNat : Int) = 94)))), (15, zU ((a8 text i_4' true).1))] _ ?_)
       refine a6 (fun _ hK_126' => ?_)
       refine a4 ?_
       refine wm ?_
       refine wa ?_
       refine WL.nil ?_
       refine kg (hK_126' [(0, st text), (4, zP b), (8, zP b_1'), (13, zI ((a8 text i_4' true).2.1)), (14, zB ((decide (at0 + 1 < (text.length : Int))) && (decide (((text.getD (at0 + 1).toNat 0).toNat : Int) = 94)))), (15, zU ((a8 text i_4' true).1)), (18, zU ((a8 text i_4' true).1))] _ ?_)
       obtain ⟨J0_3', hJ_3', h⟩ := h
       refine m7 (X := Int × Int) (fun σ => J0_3' σ.1 σ.2) (fun σ => [(0, st text), (4, zP b), (8, zP b_1'), (13, zI σ.1), (14, zB ((decide (at0 + 1 < (text.length : Int))) && (decide (((text.getD (at0 + 1).toNat 0).toNat : Int) = 94)))), (15, zU ((a8 text i_4' true).1)), (18, zU σ.2)]) (fun σ => [HA.blk b_1' (.cells (arr 256 (fun j => zB (s_7' j))).toArray 100 (0, 0)), HA.blk b (.cells (arr 256 (fun j => zB ((fun _ => false) j))).toArray 100 (0, 0))]) ?_ (fun K0_137' hK_137' => ?_)
       ·rintro ⟨i_5', hi_2'⟩ hj
        replace h := hJ_3' i_5' hi_2' hj
        show WC _ _ _ _ [(0, st text), (4, zP b), (8, zP b_1'), (13, zI i_5'), (14, zB ((decide (at0 + 1 < (text.length : Int))) && (decide (((text.getD (at0 + 1).toNat 0).toNat : Int) = 94)))), (15, zU ((a8 text i_4' true).1)), (18, zU hi_2')] [HA.blk b_1' (.cells (arr 256 (fun j => zB (s_7' j))).toArray 100 (0, 0)), HA.blk b (.cells (arr 256 (fun j => zB ((fun _ => false) j))).toArray 100 (0, 0))]
        refine a6 (fun _ hK_138' => ?_)
        refine a4 ?_
        refine wm ?_
        obtain ⟨o_64', h⟩ := h
        refine wv (OV.conv64 rfl aci Tryd.underlying3 o_64') ?_
        refine wa ?_
        refine WL.nil ?_
        refine kg (hK_138' [(0, st text), (4, zP b), (8, zP b_1'), (13, zI i_5'), (14, zB ((decide (at0 + 1 < (text.length : Int))) && (decide (((text.getD (at0 + 1).toNat 0).toNat : Int) = 94)))), (18, zU hi_2'), (20, zI ((a8 text i_4' true).1))] _ ?_)
        refine g8 ?_
        obtain ⟨Inv_4', mu_4', h0_4', hr_4'⟩ := h
        refine aaj (S := Int × (Nat → Bool)) (fun σ => Inv_4' σ.1 σ.2) (fun σ => mu_4' σ.1 σ.2) (fun σ => [(0, st text), (4, zP b), (8, zP b_1'), (13, zI i_5'), (14, zB ((decide (at0 + 1 < (text.length : Int))) && (decide (((text.getD (at0 + 1).toNat 0).toNat : Int) = 94)))), (18, zU hi_2'), (20, zI σ.1)]) (fun σ => [HA.blk b_1' (.cells (arr 256 (fun j => zB (σ.2 j))).toArray 100 (0, 0)), HA.blk b (.cells (arr 256 (fun j => zB ((fun _ => false) j))).toArray 100 (0, 0))]) ((a8 text i_4' true).1, s_7') h0_4' ⟨rfl, rfl, rfl, rfl, rfl, rfl, rfl, trivial⟩ rfl ?_
        rintro ⟨b_9', s_9'⟩ hi K0_145' hK_145'
        have h := hr_4' b_9' s_9' hi
        show WC _ _ _ _ [(0, st text), (4, zP b), (8, zP b_1'), (13, zI i_5'), (14, zB ((decide (at0 + 1 < (text.length : Int))) && (decide (((text.getD (at0 + 1).toNat 0).toNat : Int) = 94)))), (18, zU hi_2'), (20, zI b_9')] [HA.blk b_1' (.cells (arr 256 (fun j => zB (s_9' j))).toArray 100 (0, 0)), HA.blk b (.cells (arr 256 (fun j => zB ((fun _ => false) j))).toArray 100 (0, 0))]
        refine a6 (fun _ hK_146' => ?_)
        refine a6 (fun _ hK_147' => ?_)
        refine a4 ?_
        refine wm ?_
        refine wm ?_
        obtain ⟨o_71', h⟩ := h
        refine wv (OV.conv64 rfl aci Tryd.underlying3 o_71') ?_
        refine wv (OV.leq rfl rfl) ?_
        refine WL.nil ?_
        refine kg (hK_147' [(0, st text), (4, zP b), (8, zP b_1'), (13, zI i_5'), (14, zB ((decide (at0 + 1 < (text.length : Int))) && (decide (((text.getD (at0 + 1).toNat 0).toNat : Int) = 94)))), (18, zU hi_2'), (20, zI b_9'), (138, zB (decide (b_9' ≤ hi_2')))] _ ?_)
        refine b5 (b := decide (b_9' ≤ hi_2')) rfl (fun hb => ?_) (fun hb => ?_)
        ·replace h := j4 h hb
         refine b7 ?_
         refine kg (hK_146' [(0, st text), (4, zP b), (8, zP b_1'), (13, zI i_5'), (14, zB ((decide (at0 + 1 < (text.length : Int))) && (decide (((text.getD (at0 + 1).toNat 0).toNat : Int) = 94)))), (18, zU hi_2'), (20, zI b_9')] _ ?_)
         refine a6 (fun _ hK_148' => ?_)
         refine g8 ?_
         refine a4 ?_
         refine wm ?_
         obtain ⟨o_72', h⟩ := h
         refine wv (OV.indexAddr1 rfl rfl ado o_72') ?_
         refine WL.storeA' (f' := fun j => zB (if j = (b_9').toNat then true else s_9' j)) 0 rfl rfl rfl rfl age (by first | decide | omega) rfl rfl (fun j => by by_cases hj : j = (b_9').toNat <;> simp [hj]) ?_
         refine WL.nil ?_
         refine kg (hK_148' [(0, st text), (4, zP b), (8, zP b_1'), (13, zI i_5'), (14, zB ((decide (at0 + 1 < (text.length : Int))) && (decide (((text.getD (at0 + 1).toNat 0).toNat : Int) = 94)))), (18, zU hi_2'), (20, zI b_9')] _ ?_)
         refine a4 ?_
         refine wm ?_
         obtain ⟨o_73', h⟩ := h
         refine wv (OV.add rfl rfl o_73') ?_
         refine wa ?_
         refine WL.nil ?_
         exact kh (hK_145' (b_9' + 1, fun j => if j = (b_9').toNat then true else s_9' j) h.1 h.2) [0, 1]
        ·replace h := i9 h hb
         refine t8 ?_
         exact kh (hK_117' (i_5', s_9') h.1 h.2) [0, 1]
       ·skip
        refine a6 (fun _ hK_149' => ?_)
        refine a4 ?_
        refine wm ?_
        refine wm ?_
        refine wv (OV.len rfl k9) ?_
        refine wv (OV.lss rfl rfl) ?_
        refine wm ?_
        obtain ⟨o_75', h⟩ := h
        refine WL.cut 5 [(0, st text), (4, zP b), (8, zP b_1'), (13, zI ((a8 text i_4' true).2.1)), (14, zB ((decide (at0 + 1 < (text.length : Int))) && (decide (((text.getD (at0 + 1).toNat 0).toNat : Int) = 94)))), (15, zU ((a8 text i_4' true).1)), (18, zU ((a8 text i_4' true).1)), (113, zB ((decide ((a8 text i_4' true).2.1 < (text.length : Int))) && (decide (((text.getD ((a8 text i_4' true).2.1).toNat 0).toNat : Int) = 45))))] ?_ (fun K0_150' hK_150' => ?_)
        rotate_left
        ·refine WL.split (decide ((a8 text i_4' true).2.1 < (text.length : Int))) (fun hb => ?_) (fun hb => ?_)
         ·have o_74' := o_75' hb
          refine WL.set 108 rfl (congrArg zB hb) ?_
          refine wm ?_
          refine wm ?_
          refine wv (OV.index rfl rfl k9 o_74') ?_
          refine wv (OV.eql rfl rfl) ?_
          refine wv (OV.pickT rfl rfl) ?_
          refine WL.set 113 rfl (bT (v := decide (((text.getD ((a8 text i_4' true).2.1).toNat 0).toNat : Int) = 45)) hb) ?_
          exact WL.end_ (kg hK_150')
         ·refine WL.set 108 rfl (congrArg zB hb) ?_
          refine wk ?_
          refine wk ?_
          refine wk ?_
          refine wk ?_
          refine wv (OV.pickF rfl rfl) ?_
          refine WL.set 113 rfl (bF (v := decide (((text.getD ((a8 text i_4' true).2.1).toNat 0).toNat : Int) = 45)) hb) ?_
          exact WL.end_ (kg hK_150')
        refine WL.nil ?_
        refine kg (hK_149' [(0, st text), (4, zP b), (8, zP b_1'), (13, zI ((a8 text i_4' true).2.1)), (14, zB ((decide (at0 + 1 < (text.length : Int))) && (decide (((text.getD (at0 + 1).toNat 0).toNat : Int) = 94)))), (15, zU ((a8 text i_4' true).1)), (18, zU ((a8 text i_4' true).1)), (113, zB ((decide ((a8 text i_4' true).2.1 < (text.length : Int))) && (decide (((text.getD ((a8 text i_4' true).2.1).toNat 0).toNat : Int) = 45))))] _ ?_)
        refine b5 (b := (decide ((a8 text i_4' true).2.1 < (text.length : Int))) && (decide (((text.getD ((a8 text i_4' true).2.1).toNat 0).toNat : Int) = 45))) rfl (fun hb => ?_) (fun hb => ?_)
        ·replace h := j4 h hb
         refine a6 (fun _ hK_151' => ?_)
         refine a4 ?_
         refine wm ?_
         obtain ⟨o_76', h⟩ := h
         refine wv (OV.add rfl rfl o_76') ?_
         refine wa ?_
         refine WL.nil ?_
         refine kg (hK_151' [(0, st text), (4, zP b), (8, zP b_1'), (14, zB ((decide (at0 + 1 < (text.length : Int))) && (decide (((text.getD (at0 + 1).toNat 0).toNat : Int) = 94)))), (15, zU ((a8 text i_4' true).1)), (19, zI (((a8 text i_4' true).2.1) + 1))] _ ?_)
         refine a6 (fun _ hK_152' => ?_)
         refine a4 ?_
         refine wm ?_
         refine wm ?_
         obtain ⟨o_77', h⟩ := h
         refine WL.call (A := []) aic rfl (ae4 text (((a8 text i_4' true).2.1) + 1) true o_77') rfl trivial rfl rfl ?_
         refine wm ?_
         refine wv (OV.extract 0 rfl rfl) ?_
         refine wv (OV.extract 1 rfl rfl) ?_
         refine wv (OV.extract 2 rfl rfl) ?_
         refine wa ?_
         refine wa ?_
         refine wa ?_
         refine WL.nil ?_
         refine kg (hK_152' [(0, st text), (4, zP b), (8, zP b_1'), (14, zB ((decide (at0 + 1 < (text.length : Int))) && (decide (((text.getD (at0 + 1).toNat 0).toNat : Int) = 94)))), (15, zU ((a8 text i_4' true).1)), (16, zI ((a8 text (((a8 text i_4' true).2.1) + 1) true).2.1)), (17, zI ((a8 text (((a8 text i_4' true).2.1) + 1) true).2.2)), (18, zU ((a8 text (((a8 text i_4' true).2.1) + 1) true).1)), (19, zI (((a8 text i_4' true).2.1) + 1))] _ ?_)
         refine a6 (fun _ hK_153' => ?_)
         refine a6 (fun _ hK_154' => ?_)
         refine a4 ?_
         refine wm ?_
         refine wv (OV.geq rfl rfl) ?_
         refine WL.nil ?_
         refine kg (hK_154' [(0, st text), (4, zP b), (8, zP b_1'), (14, zB ((decide (at0 + 1 < (text.length : Int))) && (decide (((text.getD (at0 + 1).toNat 0).toNat : Int) = 94)))), (15, zU ((a8 text i_4' true).1)), (16, zI ((a8 text (((a8 text i_4' true).2.1) + 1) true).2.1)), (17, zI ((a8 text (((a8 text i_4' true).2.1) + 1) true).2.2)), (18, zU ((a8 text (((a8 text i_4' true).2.1) + 1) true).1)), (19, zI (((a8 text i_4' true).2.1) + 1)), (124, zB (decide (0 ≤ (a8 text (((a8 text i_4' true).2.1) + 1) true).2.2)))] _ ?_)
         refine b5 (b := decide (0 ≤ (a8 text (((a8 text i_4' true).2.1) + 1) true).2.2)) rfl (fun hb => ?_) (fun hb => ?_)
         ·replace h := j4 h hb
          refine a6 (fun _ hK_155' => ?_)
          refine a4 ?_
          refine wv (OV.build rfl (cs := arr 256 (fun j => zB ((fun _ => false) j))) (by kernel_rfl)) ?_
          refine wm ?_
          refine WL.storeW (vs := arr 256 (fun j => zB ((fun _ => false) j))) 1 rfl rfl rfl rfl (d7 _ _) aah ((d7 _ _).trans (d7 _ _).symm) (ac2 _ _ (fun _ => rfl)) rfl ?_
          refine wa ?_
          refine wa ?_
          refine wa ?_
          refine WL.nil ?_
          refine kg (hK_155' [(4, zP b), (5, zI 0), (6, zI 10), (7, zI ((a8 text (((a8 text i_4' true).2.1) + 1) true).2.2))] _ ?_)
          refine b9 ?_
          exact hE.ret [] rfl rfl (.inl ⟨_, _, _, _, h, rfl⟩) (d8.of4 rfl (RV.row rfl (At.own 1 rfl) (by rw [d7]; exact s9)) (RV.tmp rfl) (RV.tmp rfl) (RV.tmp rfl))
         ·replace h := i9 h hb
          refine b7 ?_
          refine kg (hK_153' [(0, st text), (4, zP b), (8, zP b_1'), (14, zB ((decide (at0 + 1 < (text.length : Int))) && (decide (((text.getD (at0 + 1).toNat 0).toNat : Int) = 94)))), (15, zU ((a8 text i_4' true).1)), (16, zI ((a8 text (((a8 text i_4' true).2.1) + 1) true).2.1)), (18, zU ((a8 text (((a8 text i_4' true).2.1) + 1) true).1)), (19, zI (((a8 text i_4' true).2.1) + 1))] _ ?_)
          refine a6 (fun _ hK_156' => ?_)
          refine a6 (fun _ hK_157' => ?_)
          refine a4 ?_
          refine wm ?_
          refine wm ?_
          refine wv (OV.lss rfl rfl) ?_
          refine WL.nil ?_
          refine kg (hK_157' [(0, st text), (4, zP b), (8, zP b_1'), (14, zB ((decide (at0 + 1 < (text.length : Int))) && (decide (((text.getD (at0 + 1).toNat 0).toNat : Int) = 94)))), (15, zU ((a8 text i_4' true).1)), (16, zI ((a8 text (((a8 text i_4' true).2.1) + 1) true).2.1)), (18, zU ((a8 text (((a8 text i_4' true).2.1) + 1) true).1)), (19, zI (((a8 text i_4' true).2.1) + 1)), (129, zB (decide ((a8 text (((a8 text i_4' true).2.1) + 1) true).1 < (a8 text i_4' true).1)))] _ ?_)
          refine b5 (b := decide ((a8 text (((a8 text i_4' true).2.1) + 1) true).1 < (a8 text i_4' true).1)) rfl (fun hb => ?_) (fun hb => ?_)
          ·replace h := j4 h hb
           refine a6 (fun _ hK_158' => ?_)
           refine a4 ?_
           refine wv (OV.build rfl (cs := arr 256 (fun j => zB ((fun _ => false) j))) (by kernel_rfl)) ?_
           refine wm ?_
           refine WL.storeW (vs := arr 256 (fun j => zB ((fun _ => false) j))) 1 rfl rfl rfl rfl (d7 _ _) aah ((d7 _ _).trans (d7 _ _).symm) (ac2 _ _ (fun _ => rfl)) rfl ?_
           refine wa ?_
           refine wa ?_
           refine wa ?_
           refine WL.nil ?_
           refine kg (hK_158' [(4, zP b), (5, zI 0), (6, zI 10), (7, zI (((a8 text i_4' true).2.1) + 1))] _ ?_)
           refine b9 ?_
           exact hE.ret [] rfl rfl (.inl ⟨_, _, _, _, h, rfl⟩) (d8.of4 rfl (RV.row rfl (At.own 1 rfl) (by rw [d7]; exact s9)) (RV.tmp rfl) (RV.tmp rfl) (RV.tmp rfl))
          ·replace h := i9 h hb
           refine b7 ?_
           refine kg (hK_156' [(0, st text), (4, zP b), (8, zP b_1'), (14, zB ((decide (at0 + 1 < (text.length : Int))) && (decide (((text.getD (at0 + 1).toNat 0).toNat : Int) = 94)))), (15, zU ((a8 text i_4' true).1)), (16, zI ((a8 text (((a8 text i_4' true).2.1) + 1) true).2.1)), (18, zU ((a8 text (((a8 text i_4' true).2.1) + 1) true).1))] _ ?_)
           refine a4 ?_
           refine wm ?_
           refine wa ?_
           refine WL.nil ?_
           exact kh (hK_137' ((a8 text (((a8 text i_4' true).2.1) + 1) true).2.1, (a8 text (((a8 text i_4' true).2.1) + 1) true).1) h) [0, 1]
        ·replace h := i9 h hb
         refine b7 ?_
         exact kh (hK_137' ((a8 text i_4' true).2.1, (a8 text i_4' true).1) h) [0, 1]
     ·replace h := i9 h hb
      refine t8 ?_
      refine kg (hK_34' [(4, zP b), (8, zP b_1'), (13, zI i_4'), (14, zB ((decide (at0 + 1 < (text.length : Int))) && (decide (((text.getD (at0 + 1).toNat 0).toNat : Int) = 94))))] _ ?_)
      obtain ⟨J0_4', hJ_4', h⟩ := h
      refine m7 (X := (Nat → Bool)) (fun σ => J0_4' σ) (fun σ => [(4, zP b), (8, zP b_1'), (13, zI i_4')]) (fun σ => [HA.blk b_1' (.cells (arr 256 (fun j => zB (σ j))).toArray 100 (0, 0)), HA.blk b (.cells (arr 256 (fun j => zB ((fun _ => false) j))).toArray 100 (0, 0))]) ?_ (fun K0_171' hK_171' => ?_)
      ·rintro s_12' hj
       replace h := hJ_4' s_12' hj
       show WC _ _ _ _ [(4, zP b), (8, zP b_1'), (13, zI i_4')] [HA.blk b_1' (.cells (arr 256 (fun j => zB (s_12' j))).toArray 100 (0, 0)), HA.blk b (.cells (arr 256 (fun j => zB ((fun _ => false) j))).toArray 100 (0, 0))]
       refine a6 (fun _ hK_172' => ?_)
       refine a4 ?_
       refine wv (OV.loadR rfl (At.own 0 rfl) (by rw [d7]; exact s9)) ?_
       refine wm ?_
       obtain ⟨o_84', h⟩ := h
       refine wv (OV.add rfl rfl o_84') ?_
       refine WL.storeW (vs := arr 256 (fun j => zB (s_12' j))) 1 rfl rfl rfl rfl (d7 _ _) aah ((d7 _ _).trans (d7 _ _).symm) (ac2 _ _ (fun _ => rfl)) rfl ?_
       refine wa ?_
       refine wa ?_
       refine wa ?_
       refine WL.nil ?_
       refine kg (hK_172' [(4, zP b), (5, zI (i_4' + 1)), (6, zI 0), (7, zI 0)] _ ?_)
       refine b9 ?_
       exact hE.ret [] rfl rfl (.inl ⟨_, _, _, _, h, rfl⟩) (d8.of4 rfl (RV.row rfl (At.own 1 rfl) (by rw [d7]; exact s9)) (RV.tmp rfl) (RV.tmp rfl) (RV.tmp rfl))
      ·skip
       refine a6 (fun _ hK_173' => ?_)
       refine a4 ?_
       refine wm ?_
       refine WL.nil ?_
       refine kg (hK_173' [(4, zP b), (8, zP b_1'), (13, zI i_4'), (143, zB ((decide (at0 + 1 < (text.length : Int))) && (decide (((text.getD (at0 + 1).toNat 0).toNat : Int) = 94))))] _ ?_)
       refine b5 (b := (decide (at0 + 1 < (text.length : Int))) && (decide (((text.getD (at0 + 1).toNat 0).toNat : Int) = 94))) rfl (fun hb => ?_) (fun hb => ?_)
       ·replace h := j4 h hb
        refine a6 (fun _ hK_174' => ?_)
        refine a4 ?_
        refine wa ?_
        refine WL.nil ?_
        refine kg (hK_174' [(4, zP b), (8, zP b_1'), (13, zI i_4'), (21, zI 0)] _ ?_)
        refine g8 ?_
        obtain ⟨Inv_6', mu_6', h0_6', hr_6'⟩ := h
        refine aaj (S := Int × (Nat → Bool)) (fun σ => Inv_6' σ.1 σ.2) (fun σ => mu_6' σ.1 σ.2) (fun σ => [(4, zP b), (8, zP b_1'), (13, zI i_4'), (21, zI σ.1)]) (fun σ => [HA.blk b_1' (.cells (arr 256 (fun j => zB (σ.2 j))).toArray 100 (0, 0)), HA.blk b (.cells (arr 256 (fun j => zB ((fun _ => false) j))).toArray 100 (0, 0))]) (0, s_7') h0_6' ⟨rfl, rfl, rfl, rfl, trivial⟩ rfl ?_
        rintro ⟨b_13', s_14'⟩ hi K0_181' hK_181'
        have h := hr_6' b_13' s_14' hi
        show WC _ _ _ _ [(4, zP b), (8, zP b_1'), (13, zI i_4'), (21, zI b_13')] [HA.blk b_1' (.cells (arr 256 (fun j => zB (s_14' j))).toArray 100 (0, 0)), HA.blk b (.cells (arr 256 (fun j => zB ((fun _ => false) j))).toArray 100 (0, 0))]
        refine a6 (fun _ hK_182' => ?_)
        refine a6 (fun _ hK_183' => ?_)
        refine a4 ?_
        refine wm ?_
        refine wv (OV.lss rfl rfl) ?_
        refine WL.nil ?_
        refine kg (hK_183' [(4, zP b), (8, zP b_1'), (13, zI i_4'), (21, zI b_13'), (145, zB (decide (b_13' < 256)))] _ ?_)
        refine b5 (b := decide (b_13' < 256)) rfl (fun hb => ?_) (fun hb => ?_)
        ·replace h := j4 h hb
         refine b7 ?_
         refine kg (hK_182' [(4, zP b), (8, zP b_1'), (13, zI i_4'), (21, zI b_13')] _ ?_)
         refine a6 (fun _ hK_184' => ?_)
         refine g8 ?_
         refine a4 ?_
         refine wm ?_
         refine wm ?_
         obtain ⟨o_88', h⟩ := h
         refine wv (OV.indexAddr1 rfl rfl ado o_88') ?_
         refine wv (OV.load rfl (At.own 0 rfl) (acr (by first | omega | assumption)) au3) ?_
         refine wv (OV.not rfl) ?_
         obtain ⟨o_89', h⟩ := h
         refine wv (OV.indexAddr1 rfl rfl ado o_89') ?_
         refine WL.storeA' (f' := fun j => zB (if j = (b_13').toNat then !(s_14' ((b_13').toNat)) else s_14' j)) 0 rfl rfl rfl rfl age (by first | decide | omega) rfl rfl (fun j => by by_cases hj : j = (b_13').toNat <;> simp [hj]) ?_
         refine WL.nil ?_
         refine kg (hK_184' [(4, zP b), (8, zP b_1'), (13, zI i_4'), (21, zI b_13')] _ ?_)
         refine a4 ?_
         refine wm ?_
         obtain ⟨o_90', h⟩ := h
         refine wv (OV.add rfl rfl o_90') ?_
         refine wa ?_
         refine WL.nil ?_
         exact kh (hK_181' (b_13' + 1, fun j => if j = (b_13').toNat then !(s_14' ((b_13').toNat)) else s_14' j) h.1 h.2) [0, 1]
        ·replace h := i9 h hb
         refine t8 ?_
         exact kh (hK_171' s_14' h) [0, 1]
       ·replace h := i9 h hb
        refine b7 ?_
        exact kh (hK_171' s_7' h) [0, 1]
    ·skip
     refine a6 (fun _ hK_185' => ?_)
     refine a4 ?_
     refine wm ?_
     refine WL.nil ?_
     refine kg (hK_185' [(0, st text), (4, zP b), (8, zP b_1'), (13, zI (at0 + 1)), (14, zB ((decide (at0 + 1 < (text.length : Int))) && (decide (((text.getD (at0 + 1).toNat 0).toNat : Int) = 94)))), (78, zB ((decide (at0 + 1 < (text.length : Int))) && (decide (((text.getD (at0 + 1).toNat 0).toNat : Int) = 94))))] _ ?_)
     refine b5 (b := (decide (at0 + 1 < (text.length : Int))) && (decide (((text.getD (at0 + 1).toNat 0).toNat : Int) = 94))) rfl (fun hb => ?_) (fun hb => ?_)
     ·replace h := j4 h hb
      refine a4 ?_
      refine wm ?_
      obtain ⟨o_91', h⟩ := h
      refine wv (OV.add rfl rfl o_91') ?_
      refine wa ?_
      refine WL.nil ?_
      exact kh (hK_33' ((at0 + 1) + 1) h) [0, 1]
     ·replace h := i9 h hb
      refine b7 ?_
      exact kh (hK_33' (at0 + 1) h) [0, 1]
theorem avx {lo hi : Int} {j : Nat} (hj : j < 256) (h1 : 0 ≤ hi) : (abv lo.toNat hi.toNat).getLsbD j = (decide (lo ≤ j) && decide ((j : Int) ≤ hi)) := by
 rw [abv, abg _ _ hj, Bool.eq_iff_iff]; simp; omega
def aoa (no : Prop) [Decidable no] (R : Except Int (CS × Int)) : CS × Int × Int × Int :=
 match R with
 | .ok (s, q) => (if no then ~~~ s else s, q, 0, 0)
 | .error e => (cs0, 0, 10, e)
theorem asf (t : List UInt8) (a : Int) (h : t.length ≤ 9223372036854775807) :
  c8 Tryd.prog 48 [st t, .int .i64 a] [] [] (fun o => ∃ s : Nat → Bool, (∀ j, j < 256 → s j = (j7 t a).1.getLsbD j) ∧
   o = .ret (.tuple #[.agg (arr 256 (fun j => zB (s j))).toArray, .int .i64 (j7 t a).2.1, .int .i64 (j7 t a).2.2.1, .int .i64 (j7 t a).2.2.2]) []) := by
 refine (ard t a (fun s n e p => (∀ j, j < 256 → s j = (j7 t a).1.getLsbD j) ∧ (n, e, p) = (j7 t a).2) ?_).weak ?_
 ·unfold ag4
  have z0 : ∀ j, j < 256 → false = (cs0 : CS).getLsbD j := fun j _ => by simp [cs0]
  by_cases h1 : a < 0 ∨ (t.length : Int) ≤ a
  ·have hM : j7 t a = (cs0, 0, 2, 0) := by unfold j7; rw [if_pos h1]
   rw [if_pos (by simpa using h1), hM]; exact ⟨z0, rfl⟩
  ·rw [if_neg (by simpa using h1)]
   have ha : 0 ≤ a ∧ a < t.length := by omega
   have hM : j7 t a = match adx t a with
    | .ok (s, q) => (s, q, 0, 0)
    | .error e => (cs0, 0, 10, e) := by unfold j7; rw [if_neg h1]; rfl
   have hI : ∀ k : Int, 0 ≤ k → a + k ≤ t.length → I64 (a + k) := fun k h2 h3 => ⟨by omega, by omega⟩
   rw [x9 ha.2]
   refine ⟨ha, ?_⟩
   unfold adx at hM
   by_cases h2 : b4 t a = 46
   ·rw [if_pos (by simpa using h2)]
    rw [if_pos h2] at hM
    rw [hM]
    refine ⟨fun b s => 0 ≤ b ∧ b ≤ 256 ∧ ∀ j, j < 256 → s j = if (j : Int) < b then (~~~ ofS [10]).getLsbD j else false, fun b _ => (256 - b).toNat, ⟨by omega, by omega, fun j hj => by rw [if_neg (by omega)]⟩, ?_⟩
    rintro b s ⟨b0, b1, hs⟩
    by_cases hb : b < 256
    ·rw [if_pos (by simpa using hb)]
     refine ⟨⟨b0, hb⟩, ⟨by omega, by omega⟩, ⟨by omega, by omega, fun j hj => ?_⟩, by show (256 - (b + 1)).toNat < (256 - b).toNat; omega⟩
     show (if j = b.toNat then _ else _) = _
     by_cases e : j = b.toNat
     ·have e2 : (j : Int) = b := by omega
      rw [if_pos e, if_pos (by omega)]
      have : (~~~ ofS [10]).getLsbD j = !decide (j = 10) := by
       rw [BitVec.getLsbD_not, ofS, abg _ _ hj, Bool.eq_iff_iff]; simp [hj]; omega
      rw [this]; congr 1; rw [Bool.eq_iff_iff]; simp; omega
     ·rw [if_neg e, hs j hj]
      by_cases e2 : (j : Int) < b
      ·rw [if_pos e2, if_pos (by omega)]
      ·rw [if_neg e2, if_neg (by omega)]
    ·rw [if_neg (by simpa using hb)]
     exact ⟨hI 1 (by omega) (by omega), fun j hj => by rw [hs j hj, if_pos (by omega)], rfl⟩
   ·rw [if_neg (by simpa using h2)]
    rw [if_neg h2] at hM
    refine ⟨ha, ?_⟩
    by_cases h3 : b4 t a = 91
    ·rw [if_neg (by simp [h3])]
     rw [if_pos h3] at hM
     refine ⟨hI 1 (by omega) (by omega), fun hl => ⟨by omega, by simpa using hl⟩, ?_⟩
     obtain ⟨p0, hp0⟩ : ∃ p0 : Int, p0 = if a + 1 < t.length ∧ b4 t (a + 1) = 94 then a + 2 else a + 1 := ⟨_, rfl⟩
     obtain ⟨R, hR⟩ : ∃ R, afc t (t.length + 1) cs0 p0 = R := ⟨_, rfl⟩
     have hM2 : j7 t a = aoa (a + 1 < t.length ∧ b4 t (a + 1) = 94) R := by
      rw [hM, ← hR]
      unfold aji aoa
      by_cases h4 : a + 1 < t.length ∧ b4 t (a + 1) = 94
      ·rw [if_pos h4] at hp0 ⊢
       rw [hp0, show a + 1 + 1 = a + 2 by omega]
       cases afc t (t.length + 1) cs0 (a + 2) with
       | ok x => simp only [if_pos h4]
       | error e => rfl
      ·rw [if_neg h4] at hp0 ⊢
       rw [hp0]
       cases afc t (t.length + 1) cs0 (a + 1) with
       | ok x => simp only [if_neg h4]
       | error e => rfl
     clear hM
     have hp1 : a + 1 ≤ p0 ∧ p0 ≤ t.length := by rw [hp0]; split <;> omega
     have hErr : ∀ e, R = .error e → (∀ j, j < 256 → (fun _ : Nat => false) j = (j7 t a).1.getLsbD j) ∧ ((0 : Int), (10 : Int), e) = (j7 t a).2 := fun e he => by
      rw [hM2, he]; unfold aoa; exact ⟨z0, rfl⟩
     have hnot : ((decide (a + 1 < (t.length : Int))) && (decide (((t.getD (a + 1).toNat 0).toNat : Int) = 94))) = decide (a + 1 < t.length ∧ b4 t (a + 1) = 94) := by
      by_cases h5 : a + 1 < t.length
      ·rw [x9 h5]; simp [h5]
      ·simp [h5]
     rw [hnot]
     refine ⟨fun i => i = p0, fun i hi => ?_, ?_⟩
     ·subst hi
      refine ⟨fun i s => a ≤ i ∧ i ≤ t.length ∧ ∃ S n, t.length - i.toNat < n ∧ R = afc t n S i ∧ ∀ j, j < 256 → s j = S.getLsbD j, fun i _ => t.length - i.toNat, ⟨by omega, hp1.2, cs0, _, by omega, hR.symm, z0⟩, ?_⟩
      rintro i s ⟨hi0, hil, S, n, hn, hF, hs⟩
      obtain ⟨n, rfl⟩ : ∃ m, n = m + 1 := ⟨n - 1, by omega⟩
      rw [afc] at hF
      refine ⟨fun hl => ⟨by omega, by simpa using hl⟩, ?_⟩
      by_cases h4 : i < t.length ∧ b4 t i = 93
      ·rw [x9 h4.1, if_neg (by simp; omega)]
       rw [if_pos h4] at hF
       refine ⟨fun s' => ∀ j, j < 256 → s' j = (j7 t a).1.getLsbD j, fun s' hs' => ⟨⟨by omega, by omega⟩, hs', ?_⟩, ?_⟩
       ·rw [hM2, hF]; rfl
       ·rw [hM2, hF]
        unfold aoa
        by_cases h5 : a + 1 < t.length ∧ b4 t (a + 1) = 94
        ·rw [if_pos (by simpa using h5)]
         simp only [h5, and_self, if_true]
         refine ⟨fun b s' => 0 ≤ b ∧ b ≤ 256 ∧ ∀ j, j < 256 → s' j = if (j : Int) < b then (~~~ S).getLsbD j else S.getLsbD j, fun b _ => (256 - b).toNat, ⟨by omega, by omega, fun j hj => by rw [if_neg (by omega)]; exact hs j hj⟩, ?_⟩
         rintro b s' ⟨b0, b1, hs'⟩
         by_cases hb : b < 256
         ·rw [if_pos (by simpa using hb)]
          refine ⟨⟨b0, hb⟩, ⟨b0, hb⟩, ⟨by omega, by omega⟩, ⟨by omega, by omega, fun j hj => ?_⟩, by show (256 - (b + 1)).toNat < (256 - b).toNat; omega⟩
          show (if j = b.toNat then _ else _) = _
          by_cases e : j = b.toNat
          ·rw [if_pos e, if_pos (by omega), ← e, hs' j hj, if_neg (by omega)]; simp [hj]
          ·rw [if_neg e, hs' j hj]
           by_cases e2 : (j : Int) < b
           ·rw [if_pos e2, if_pos (by omega)]
           ·rw [if_neg e2, if_neg (by omega)]
         ·rw [if_neg (by simpa using hb)]
          intro j hj
          rw [hs' j hj, if_pos (by omega)]
        ·rw [if_neg (by simpa using h5)]
         simp only [h5, if_false]
         exact hs
      ·rw [if_pos (by
        by_cases h6 : i < t.length
        ·rw [x9 h6]; simp; omega
        ·simp; omega)]
       rw [if_neg h4] at hF
       refine ⟨⟨by omega, hil, h⟩, ?_⟩
       unfold a8
       simp only [if_true]
       cases ho : ads t i inL with
       | error e =>
        rw [ho] at hF
        simp only at hF ⊢
        have he := alw (by omega) ho
        rw [if_pos (by simpa using he)]
        exact hErr e hF
       | ok x =>
        obtain ⟨lo, p⟩ := x
        have b1 := acz ho
        rw [ho] at hF
        simp only at hF ⊢
        rw [if_neg (by simp)]
        refine ⟨fun i' hi => lo ≤ hi ∧ hi < 256 ∧ i < i' ∧ i' ≤ t.length ∧ R = afc t n (S ||| abv lo.toNat hi.toNat) i', fun i' hi hh => ?_, fun hl => ⟨by omega, by simpa using hl⟩, ?_⟩
        ·obtain ⟨c1, c2, c3, c4, c5⟩ := hh
         refine ⟨⟨by omega, by omega⟩, fun b s' => lo ≤ b ∧ b ≤ hi + 1 ∧ ∀ j, j < 256 → s' j = (S.getLsbD j || (decide (lo ≤ j) && decide ((j : Int) < b))), fun b _ => (hi + 1 - b).toNat, ⟨by omega, by omega, fun j hj => ?_⟩, ?_⟩
         ·rw [hs j hj]
          have : (decide (lo ≤ (j : Int)) && decide ((j : Int) < lo)) = false := by rw [Bool.eq_false_iff]; simp
          rw [this]; simp
         ·rintro b s' ⟨b0, b2, hs'⟩
          refine ⟨⟨by omega, by omega⟩, ?_⟩
          by_cases hb : b ≤ hi
          ·rw [if_pos (by simpa using hb)]
           refine ⟨⟨by omega, by omega⟩, ⟨by omega, by omega⟩, ⟨by omega, by omega, fun j hj => ?_⟩, by show (hi + 1 - (b + 1)).toNat < (hi + 1 - b).toNat; omega⟩
           show (if j = b.toNat then _ else _) = _
           by_cases e : j = b.toNat
           ·rw [if_pos e]
            have : (decide (lo ≤ (j : Int)) && decide ((j : Int) < b + 1)) = true := by simp; omega
            rw [this]; simp
           ·rw [if_neg e, hs' j hj]
            congr 2
            rw [Bool.eq_iff_iff]; simp; omega
          ·rw [if_neg (by simpa using hb)]
           have d1 : i.toNat < i'.toNat := by omega
           have d2 : i'.toNat ≤ t.length := by omega
           refine ⟨⟨by omega, c4, S ||| abv lo.toNat hi.toNat, n, by omega, c5, fun j hj => ?_⟩, by show t.length - i'.toNat < t.length - i.toNat; omega⟩
           rw [hs' j hj, BitVec.getLsbD_or, avx hj (by omega)]
           congr 2
           rw [Bool.eq_iff_iff]; simp; omega
        ·by_cases h7 : p < t.length ∧ b4 t p = 45
         ·rw [x9 h7.1, if_pos (by simpa using h7)]
          rw [if_pos h7] at hF
          refine ⟨⟨by omega, by omega⟩, ⟨by omega, by omega, h⟩, ?_⟩
          cases ho2 : ads t (p + 1) inL with
          | error e =>
           rw [ho2] at hF
           simp only at hF ⊢
           have he := alw (by omega) ho2
           rw [if_pos (by simpa using he)]
           exact hErr e hF
          | ok x =>
           obtain ⟨hi, q⟩ := x
           have b2 := acz ho2
           rw [ho2] at hF
           simp only at hF ⊢
           rw [if_neg (by simp)]
           by_cases h8 : hi < lo
           ·rw [if_pos (by simpa using h8)]
            rw [if_pos h8] at hF
            exact hErr _ hF
           ·rw [if_neg (by simpa using h8)]
            rw [if_neg h8] at hF
            exact ⟨by omega, b2.2.1, by omega, b2.2.2.2, hF⟩
         ·rw [if_neg (by
           by_cases h6 : p < t.length
           ·rw [x9 h6]; simp; omega
           ·simp; omega)]
          rw [if_neg h7] at hF
          exact ⟨by omega, b1.2.1, by omega, b1.2.2.2, hF⟩
     ·by_cases h4 : a + 1 < t.length ∧ b4 t (a + 1) = 94
      ·rw [if_pos (by simpa using h4)]
       rw [if_pos h4] at hp0
       exact ⟨⟨by omega, by omega⟩, by omega⟩
      ·rw [if_neg (by simpa using h4)]
       rw [if_neg h4] at hp0
       omega
    ·rw [if_pos (by simp [h3])]
     rw [if_neg h3] at hM
     refine ⟨⟨by omega, by omega, h⟩, ?_⟩
     unfold a8
     simp only [Bool.false_eq_true, if_false]
     cases ho : ads t a spL with
     | error e =>
      rw [ho] at hM
      simp only at hM ⊢
      rw [hM]
      have he := alw ha.1 ho
      rw [if_pos (by simpa using (show 0 ≤ e by omega))]
      exact ⟨z0, rfl⟩
     | ok r =>
      obtain ⟨c, q⟩ := r
      have hb := acz ho
      rw [ho] at hM
      simp only at hM ⊢
      rw [if_neg (by simp), hM]
      refine ⟨⟨by omega, by omega⟩, ⟨hb.1, hb.2.1⟩, fun j hj => ?_, rfl⟩
      rw [abv, abg _ _ hj]
      by_cases e : j = c.toNat
      ·rw [if_pos e, e]; simp
      ·rw [if_neg e]; rw [Bool.eq_iff_iff]; simp; omega
 ·rintro o (⟨s, n, e, p, ⟨hs, hm⟩, rfl⟩ | h)
  ·refine ⟨s, hs, ?_⟩
   rw [← hm]
  ·exact h.elim
end Go.Proofs.YtohnchdnkbadaaaDoor
