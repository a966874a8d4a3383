/-
  Merged: TkO, TkC, TkR, TkF, SyC.
-/
import Derived.Test.YtifajndacnfcbaaDoorSb2
set_option maxRecDepth 100000
namespace Go.Proofs.YtifajndacnfcbaaDoor
open Go Go.RowKit
theorem ajc : l6 Tryd.prog 58 = true := by kernel_rfl
theorem aoz : l6 Tryd.prog 59 = true := by kernel_rfl
theorem ao6 : l6 Tryd.prog 61 = true := by kernel_rfl
theorem ap6 : l6 Tryd.prog 62 = true := by kernel_rfl
theorem ao3 : l6 Tryd.prog 64 = true := by kernel_rfl
def am0 (s_0 : List UInt8) (s_1 : Int) (s_3 : Int) (s_4 : Int) (s_5 : List UInt8) (sl : List Tok) (K : Bool → (List UInt8) → Int → Int → Int → (List UInt8) → (List Tok) → Prop) : Prop :=
 (0 ≤ s_1 ∧ s_1 < s_0.length) ∧
 (if (j7 ((s_0.getD s_1.toNat 0).toNat : Int)) = true then
  ∃ (Inv : Int → Prop) (mu : Int → Nat),
   Inv s_1 ∧ ∀ (s_1_2' : Int), Inv s_1_2' →
    ((!(decide (s_0.length ≤ s_1_2'))) = true → (0 ≤ s_1_2' ∧ s_1_2' < s_0.length) ∧ ((j7 ((s_0.getD s_1_2'.toNat 0).toNat : Int)) = false → (0 ≤ s_1_2' ∧ s_1_2' < s_0.length))) ∧
    (if ((!(decide (s_0.length ≤ s_1_2'))) && ((j7 ((s_0.getD s_1_2'.toNat 0).toNat : Int)) || (p5 ((s_0.getD s_1_2'.toNat 0).toNat : Int)))) = true then
     (I64 (s_1_2' + 1)) ∧
     Inv (s_1_2' + 1) ∧ mu (s_1_2' + 1) < mu s_1_2'
    else
     (I64 (s_1_2' - s_1)) ∧
     (if (decide (32 < s_1_2' - s_1)) = true then
      K false s_0 s_1_2' 1 s_1 [] sl
     else
      (0 ≤ s_1 ∧ s_1 ≤ s_1_2' ∧ s_1_2' ≤ s_0.length) ∧
      (sl.length ≤ 4096) ∧
      (
       K true s_0 s_1_2' s_3 s_4 s_5 (sl ++ [((1 : Int), s_1, (s_0.drop s_1.toNat).take (s_1_2'.toNat - s_1.toNat))]))))
 else
  (if (decide (((s_0.getD s_1.toNat 0).toNat : Int) = 34)) = true then
   (0 ≤ s_1 ∧ s_1 < s_0.length ∧ s_0.length ≤ 4096 ∧ sl.length ≤ 4096) ∧
   (∀ (ok : Bool) (at0 : Int) (l : List Tok) (fc : Int) (fa : Int) (ft : List UInt8), aka (z8 s_0 s_1) s_0 sl s_3 s_4 s_5 ok at0 l fc fa ft →
    K ok s_0 at0 fc fa ft l)
  else
   (if (decide (((s_0.getD s_1.toNat 0).toNat : Int) = 47)) = true then
    (0 ≤ s_1 ∧ s_1 < s_0.length ∧ s_0.length ≤ 4096 ∧ sl.length ≤ 4096) ∧
    (∀ (ok_1' : Bool) (at0_1' : Int) (l_1' : List Tok) (fc_1' : Int) (fa_1' : Int) (ft_1' : List UInt8), aka (aa8 s_0 s_1) s_0 sl s_3 s_4 s_5 ok_1' at0_1' l_1' fc_1' fa_1' ft_1' →
     K ok_1' s_0 at0_1' fc_1' fa_1' ft_1' l_1')
   else
    (if (decide (0 ≤ Lib.indexByte ([61, 59, 40, 41, 123, 125, 44, 124, 38, 45, 46, 126, 42, 43, 63] : List UInt8) (((s_0.getD s_1.toNat 0).toNat : Int)).toNat.toUInt8)) = true then
     (I64 (s_1 + 1)) ∧
     (0 ≤ s_1 ∧ s_1 ≤ (s_1 + 1) ∧ (s_1 + 1) ≤ s_0.length) ∧
     (sl.length ≤ 4096) ∧
     (
      K true s_0 (s_1 + 1) s_3 s_4 s_5 (sl ++ [((4 : Int), s_1, (s_0.drop s_1.toNat).take ((s_1 + 1).toNat - s_1.toNat))]))
    else
     (0 ≤ s_1 ∧ s_1 ≤ s_0.length) ∧
     (if (Lib.hasPrefix (s_0.drop s_1.toNat) ([62, 62] : List UInt8)) = true then
      (I64 (s_1 + 2)) ∧
      (sl.length ≤ 4096) ∧
      (
       K true s_0 (s_1 + 2) s_3 s_4 s_5 (sl ++ [((4 : Int), s_1, ([62, 62] : List UInt8))]))
     else
      K false s_0 s_1 50 s_1 [] sl)))))
theorem aug (b : Nat) (w : Value) (s_0 : List UInt8) (s_1 : Int) (s_3 : Int) (s_4 : Int) (s_5 : List UInt8) (sl : List Tok) (K : Bool → (List UInt8) → Int → Int → Int → (List UInt8) → (List Tok) → Prop) (h : am0 s_0 s_1 s_3 s_4 s_5 sl K) :
  d8 Tryd.prog 36 [zP b] [] [HA.blk b (.cells [st s_0, zI s_1, w, zI s_3, zI s_4, st s_5].toArray 100 (0, 0)), HA.row w 102 3 sl.length (sl.flatMap f9)] (fun o => (∃ (v : Bool) (d_1' : List UInt8) (d_2' : Int) (d_3' : Int) (d_4' : Int) (d_5' : List UInt8) (w_6' : Value) (d : List Tok), K v d_1' d_2' d_3' d_4' d_5' d ∧ o = .ret (zB v) [HA.blk b (.cells [st d_1', zI d_2', w_6', zI d_3', zI d_4', st d_5'].toArray 100 (0, 0)), HA.row w_6' 102 3 d.length (d.flatMap f9)]) ∨ (False)) := by
 unfold am0 at h
 refine c7 (n := 130) (L0 := [(0, zP b)]) Tryd.func36 rfl rfl rfl rfl (fun w0 M Q hE => ?_)
 refine a7 (fun _ hK => ?_)
 refine a6 ?_
 refine wA ?_
 refine WL.nil ?_
 refine kg (hK [(0, zP b)] _ ?_)
 refine a7 (fun _ hK_1' => ?_)
 refine a6 ?_
 refine wm ?_
 refine wv (OV.nilCheck rfl) ?_
 refine wv (OV.fieldAddr0 rfl b7) ?_
 refine wv (OV.load rfl (At.own 0 rfl) rfl b9) ?_
 refine wA ?_
 refine WL.nil ?_
 refine kg (hK_1' [(0, zP b), (3, zI s_1)] _ ?_)
 refine a7 (fun _ hK_2' => ?_)
 refine a7 (fun _ hK_3' => ?_)
 refine a6 ?_
 refine wm ?_
 refine wv (OV.nilCheck rfl) ?_
 refine wv (OV.fieldAddr0 rfl f8) ?_
 refine wv (OV.load rfl (At.own 0 rfl) rfl c8) ?_
 refine wm ?_
 obtain ⟨o, h⟩ := h
 refine wv (OV.index rfl rfl d5 o) ?_
 refine wA ?_
 refine WL.nil ?_
 refine kg (hK_3' [(0, zP b), (3, zI s_1), (4, zU ((s_0.getD s_1.toNat 0).toNat : Int))] _ ?_)
 refine c6 ?_
 refine a7 (fun _ hK_4' => ?_)
 refine a6 ?_
 refine wm ?_
 refine WL.call (A := []) ajc rfl (ady ((s_0.getD s_1.toNat 0).toNat : Int)) rfl trivial rfl rfl ?_
 refine wA ?_
 refine WL.nil ?_
 refine kg (hK_4' [(0, zP b), (3, zI s_1), (4, zU ((s_0.getD s_1.toNat 0).toNat : Int)), (15, zB (j7 ((s_0.getD s_1.toNat 0).toNat : Int)))] _ ?_)
 refine b8 (b := j7 ((s_0.getD s_1.toNat 0).toNat : Int)) rfl (fun hb => ?_) (fun hb => ?_)
 ·replace h := j3 h hb
  refine a7 (fun _ hK_5' => ?_)
  refine c6 ?_
  obtain ⟨Inv, mu, h0, hr⟩ := h
  refine w9 (S := Int) (fun σ => Inv σ) (fun σ => mu σ) (fun σ => [(0, zP b), (3, zI s_1)]) (fun σ => [HA.blk b (.cells [st s_0, zI σ, w, zI s_3, zI s_4, st s_5].toArray 100 (0, 0)), HA.row w 102 3 sl.length (sl.flatMap f9)]) s_1 h0 ⟨rfl, rfl, trivial⟩ rfl ?_
  rintro s_1_2' hi K0_14' hK_14'
  have h := hr s_1_2' hi
  show WC _ _ _ _ [(0, zP b), (3, zI s_1)] [HA.blk b (.cells [st s_0, zI s_1_2', w, zI s_3, zI s_4, st s_5].toArray 100 (0, 0)), HA.row w 102 3 sl.length (sl.flatMap f9)]
  refine a7 (fun _ hK_15' => ?_)
  refine a7 (fun _ hK_16' => ?_)
  refine abz [] h8 (by kernel_rfl) rfl (fun T_2' hT_2' => ?_)
  refine fv (fun _ => OV.move rfl) ?_
  refine FL.call t6 (fun _ => rfl) (q7 b s_0 s_1_2' w s_3 s_4 s_5) ⟨.inl ⟨0, rfl⟩, trivial⟩ rfl (fun _ => rfl) rfl ?_
  refine fv (fun _ => OV.not rfl) ?_
  refine fv (fun _ => OV.move rfl) ?_
  obtain ⟨o_14', h⟩ := h
  refine FL.cut 23 rfl (fun _ => [(0, zP b), (3, zI s_1), (44, zB ((!(decide (s_0.length ≤ s_1_2'))) && ((j7 ((s_0.getD s_1_2'.toNat 0).toNat : Int)) || (p5 ((s_0.getD s_1_2'.toNat 0).toNat : Int)))))]) ?_ (fun K0_18' hK_18' => ?_)
  rotate_left
  ·refine FL.split (!(decide (s_0.length ≤ s_1_2'))) (fun hb => ?_) (fun hb => ?_)
   ·obtain ⟨o_11', o_13'⟩ := o_14' hb
    refine FL.set 21 (fun _ => rfl) (congrArg zB hb) ?_
    refine fv (fun _ => OV.move rfl) ?_
    refine fv (fun _ => OV.nilCheck rfl) ?_
    refine fv (fun _ => OV.fieldAddr0 rfl f8) ?_
    refine fv (fun _ => OV.load rfl (At.own 0 rfl) rfl c8) ?_
    refine fv (fun _ => OV.move rfl) ?_
    refine fv (fun _ => OV.nilCheck rfl) ?_
    refine fv (fun _ => OV.fieldAddr0 rfl b7) ?_
    refine fv (fun _ => OV.load rfl (At.own 0 rfl) rfl b9) ?_
    refine fv (fun _ => OV.index rfl rfl d5 o_11') ?_
    refine FL.call ajc (fun _ => rfl) (ady ((s_0.getD s_1_2'.toNat 0).toNat : Int)) trivial rfl (fun _ => rfl) rfl ?_
    refine fv (fun _ => OV.move rfl) ?_
    refine FL.cut 11 rfl (fun _ => [(0, zP b), (3, zI s_1), (21, zB true), (43, zB ((j7 ((s_0.getD s_1_2'.toNat 0).toNat : Int)) || (p5 ((s_0.getD s_1_2'.toNat 0).toNat : Int))))]) ?_ (fun K0_17' hK_17' => ?_)
    rotate_left
    ·refine FL.split (j7 ((s_0.getD s_1_2'.toNat 0).toNat : Int)) (fun hb => ?_) (fun hb => ?_)
     ·refine FL.set 32 (fun _ => rfl) (congrArg zB hb) ?_
      refine FL.skip rfl (fun _ => rfl) rfl rfl ?_
      refine FL.skip rfl (fun _ => rfl) rfl rfl ?_
      refine FL.skip rfl (fun _ => rfl) rfl rfl ?_
      refine FL.skip rfl (fun _ => rfl) rfl rfl ?_
      refine FL.skip rfl (fun _ => rfl) rfl rfl ?_
      refine FL.skip rfl (fun _ => rfl) rfl rfl ?_
      refine FL.skip rfl (fun _ => rfl) rfl rfl ?_
      refine FL.skip rfl (fun _ => rfl) rfl rfl ?_
      refine FL.skip rfl (fun _ => rfl) rfl rfl ?_
      refine FL.skip rfl (fun _ => rfl) rfl rfl ?_
      refine fv (fun _ => OV.pickT rfl rfl) ?_
      refine FL.set 43 (fun _ => rfl) (oT (v := p5 ((s_0.getD s_1_2'.toNat 0).toNat : Int)) hb) ?_
      exact FL.weak (L' := fun _ => [(0, zP b), (3, zI s_1), (21, zB true), (43, zB ((j7 ((s_0.getD s_1_2'.toNat 0).toNat : Int)) || (p5 ((s_0.getD s_1_2'.toNat 0).toNat : Int))))]) (fun _ => ⟨rfl, rfl, rfl, rfl, trivial⟩) (FL.nil hK_17')
     ·have o_12' := o_13' hb
      refine FL.set 32 (fun _ => rfl) (congrArg zB hb) ?_
      refine fv (fun _ => OV.move rfl) ?_
      refine fv (fun _ => OV.nilCheck rfl) ?_
      refine fv (fun _ => OV.fieldAddr0 rfl f8) ?_
      refine fv (fun _ => OV.load rfl (At.own 0 rfl) rfl c8) ?_
      refine fv (fun _ => OV.move rfl) ?_
      refine fv (fun _ => OV.nilCheck rfl) ?_
      refine fv (fun _ => OV.fieldAddr0 rfl b7) ?_
      refine fv (fun _ => OV.load rfl (At.own 0 rfl) rfl b9) ?_
      refine fv (fun _ => OV.index rfl rfl d5 o_12') ?_
      refine FL.call aoz (fun _ => rfl) (aig ((s_0.getD s_1_2'.toNat 0).toNat : Int)) trivial rfl (fun _ => rfl) rfl ?_
      refine fv (fun _ => OV.pickF rfl rfl) ?_
      refine FL.set 43 (fun _ => rfl) (oF (v := p5 ((s_0.getD s_1_2'.toNat 0).toNat : Int)) hb) ?_
      exact FL.weak (L' := fun _ => [(0, zP b), (3, zI s_1), (21, zB true), (43, zB ((j7 ((s_0.getD s_1_2'.toNat 0).toNat : Int)) || (p5 ((s_0.getD s_1_2'.toNat 0).toNat : Int))))]) (fun _ => ⟨rfl, rfl, rfl, rfl, trivial⟩) (FL.nil hK_17')
    refine fv (fun _ => OV.pickT rfl rfl) ?_
    refine FL.set 44 (fun _ => rfl) (bT (v := (j7 ((s_0.getD s_1_2'.toNat 0).toNat : Int)) || (p5 ((s_0.getD s_1_2'.toNat 0).toNat : Int))) hb) ?_
    exact FL.weak (L' := fun _ => [(0, zP b), (3, zI s_1), (44, zB ((!(decide (s_0.length ≤ s_1_2'))) && ((j7 ((s_0.getD s_1_2'.toNat 0).toNat : Int)) || (p5 ((s_0.getD s_1_2'.toNat 0).toNat : Int)))))]) (fun _ => ⟨rfl, rfl, rfl, trivial⟩) (FL.nil hK_18')
   ·refine FL.set 21 (fun _ => rfl) (congrArg zB hb) ?_
    refine FL.skip rfl (fun _ => rfl) rfl rfl ?_
    refine FL.skip rfl (fun _ => rfl) rfl rfl ?_
    refine FL.skip rfl (fun _ => rfl) rfl rfl ?_
    refine FL.skip rfl (fun _ => rfl) rfl rfl ?_
    refine FL.skip rfl (fun _ => rfl) rfl rfl ?_
    refine FL.skip rfl (fun _ => rfl) rfl rfl ?_
    refine FL.skip rfl (fun _ => rfl) rfl rfl ?_
    refine FL.skip rfl (fun _ => rfl) rfl rfl ?_
    refine FL.skip rfl (fun _ => rfl) rfl rfl ?_
    refine FL.skip rfl (fun _ => rfl) rfl rfl ?_
    refine FL.skip rfl (fun _ => rfl) rfl rfl ?_
    refine FL.skip rfl (fun _ => rfl) rfl rfl ?_
    refine FL.skip rfl (fun _ => rfl) rfl rfl ?_
    refine FL.skip rfl (fun _ => rfl) rfl rfl ?_
    refine FL.skip rfl (fun _ => rfl) rfl rfl ?_
    refine FL.skip rfl (fun _ => rfl) rfl rfl ?_
    refine FL.skip rfl (fun _ => rfl) rfl rfl ?_
    refine FL.skip rfl (fun _ => rfl) rfl rfl ?_
    refine FL.skip rfl (fun _ => rfl) rfl rfl ?_
    refine FL.skip rfl (fun _ => rfl) rfl rfl ?_
    refine FL.skip rfl (fun _ => rfl) rfl rfl ?_
    refine FL.skip rfl (fun _ => rfl) rfl rfl ?_
    refine fv (fun _ => OV.pickF rfl rfl) ?_
    refine FL.set 44 (fun _ => rfl) (bF (v := (j7 ((s_0.getD s_1_2'.toNat 0).toNat : Int)) || (p5 ((s_0.getD s_1_2'.toNat 0).toNat : Int))) hb) ?_
    exact FL.weak (L' := fun _ => [(0, zP b), (3, zI s_1), (44, zB ((!(decide (s_0.length ≤ s_1_2'))) && ((j7 ((s_0.getD s_1_2'.toNat 0).toNat : Int)) || (p5 ((s_0.getD s_1_2'.toNat 0).toNat : Int)))))]) (fun _ => ⟨rfl, rfl, rfl, trivial⟩) (FL.nil hK_18')
  refine FL.weak (L' := fun _ => [(0, zP b), (3, zI s_1), (44, zB ((!(decide (s_0.length ≤ s_1_2'))) && ((j7 ((s_0.getD s_1_2'.toNat 0).toNat : Int)) || (p5 ((s_0.getD s_1_2'.toNat 0).toNat : Int)))))]) (fun _ => ⟨rfl, rfl, rfl, trivial⟩) (FL.nil (hT_2' (fun _ => [(0, zP b), (3, zI s_1), (44, zB ((!(decide (s_0.length ≤ s_1_2'))) && ((j7 ((s_0.getD s_1_2'.toNat 0).toNat : Int)) || (p5 ((s_0.getD s_1_2'.toNat 0).toNat : Int)))))]) (fun _ => ?_)))
  refine kg (hK_16' [(0, zP b), (3, zI s_1), (44, zB ((!(decide (s_0.length ≤ s_1_2'))) && ((j7 ((s_0.getD s_1_2'.toNat 0).toNat : Int)) || (p5 ((s_0.getD s_1_2'.toNat 0).toNat : Int)))))] _ ?_)
  refine b8 (b := (!(decide (s_0.length ≤ s_1_2'))) && ((j7 ((s_0.getD s_1_2'.toNat 0).toNat : Int)) || (p5 ((s_0.getD s_1_2'.toNat 0).toNat : Int)))) rfl (fun hb => ?_) (fun hb => ?_)
  ·replace h := j3 h hb
   refine c5 ?_
   refine kg (hK_15' [(0, zP b), (3, zI s_1)] _ ?_)
   refine c6 ?_
   refine a6 ?_
   refine wm ?_
   refine wv (OV.nilCheck rfl) ?_
   refine wv (OV.fieldAddr0 rfl b7) ?_
   refine wv (OV.load rfl (At.own 0 rfl) rfl b9) ?_
   obtain ⟨o_15', h⟩ := h
   refine wv (OV.add rfl rfl o_15') ?_
   refine wv (OV.nilCheck rfl) ?_
   refine wv (OV.fieldAddr0 rfl b7) ?_
   refine WL.store (vs := [zI (s_1_2' + 1)]) (cs' := [st s_0, zI (s_1_2' + 1), w, zI s_3, zI s_4, st s_5]) 0 rfl rfl rfl rfl l8 (Nat.le_of_ble_eq_true rfl) rfl rfl rfl ?_
   refine WL.nil ?_
   exact kh (hK_14' (s_1_2' + 1) h.1 h.2) [0, 1]
  ·replace h := j0 h hb
   refine p8 ?_
   refine kg (hK_5' [(0, zP b), (3, zI s_1)] _ ?_)
   refine a7 (fun _ hK_19' => ?_)
   refine a7 (fun _ hK_20' => ?_)
   refine a6 ?_
   refine wm ?_
   refine wv (OV.nilCheck rfl) ?_
   refine wv (OV.fieldAddr0 rfl b7) ?_
   refine wv (OV.load rfl (At.own 0 rfl) rfl b9) ?_
   refine wm ?_
   obtain ⟨o_16', h⟩ := h
   refine wv (OV.sub rfl rfl o_16') ?_
   refine wv (OV.gtr rfl rfl) ?_
   refine WL.nil ?_
   refine kg (hK_20' [(0, zP b), (3, zI s_1), (58, zB (decide (32 < s_1_2' - s_1)))] _ ?_)
   refine b8 (b := decide (32 < s_1_2' - s_1)) rfl (fun hb => ?_) (fun hb => ?_)
   ·replace h := j3 h hb
    refine a7 (fun _ hK_21' => ?_)
    refine a6 ?_
    refine wm ?_
    refine wm ?_
    refine WL.call x9 rfl (x4 b s_0 s_1_2' w s_3 s_4 s_5 1 s_1) rfl trivial rfl rfl ?_
    refine wA ?_
    refine WL.nil ?_
    refine kg (hK_21' [(2, zB false)] _ ?_)
    refine c9 ?_
    exact hE.ret [0, 1] rfl rfl (.inl ⟨_, _, _, _, _, _, _, _, h, rfl⟩) (e7.of1 rfl (RV.tmp rfl))
   ·replace h := j0 h hb
    refine c5 ?_
    refine kg (hK_19' [(0, zP b), (3, zI s_1)] _ ?_)
    refine a7 (fun _ hK_22' => ?_)
    refine m0 12 [] h8 (by kernel_rfl) rfl (fun T_3' hT_3' => ?_)
    refine fv (fun _ => OV.move rfl) ?_
    refine fv (fun _ => OV.move rfl) ?_
    refine fv (fun _ => OV.move rfl) ?_
    refine fv (fun _ => OV.nilCheck rfl) ?_
    refine fv (fun _ => OV.fieldAddr0 rfl f8) ?_
    refine fv (fun _ => OV.load rfl (At.own 0 rfl) rfl c8) ?_
    refine fv (fun _ => OV.move rfl) ?_
    refine fv (fun _ => OV.move rfl) ?_
    refine fv (fun _ => OV.nilCheck rfl) ?_
    refine fv (fun _ => OV.fieldAddr0 rfl b7) ?_
    refine fv (fun _ => OV.load rfl (At.own 0 rfl) rfl b9) ?_
    obtain ⟨o_17', h⟩ := h
    refine fv (fun _ => OV.sliceS rfl rfl rfl d5 o_17') ?_
    refine FL.weak (L' := fun γ => [(62, zP b), (63, zI s_1), (73, st ((s_0.drop s_1.toNat).take (s_1_2'.toNat - s_1.toNat)))]) (fun γ => ⟨rfl, rfl, rfl, trivial⟩) (FL.nil (hT_3' (fun γ => [(62, zP b), (63, zI s_1), (73, st ((s_0.drop s_1.toNat).take (s_1_2'.toNat - s_1.toNat)))]) (fun γ => ?_)))
    obtain ⟨o_18', h⟩ := h
    refine WL.callS abg rfl (acj b s_0 s_1_2' w s_3 s_4 s_5 sl 1 s_1 ((s_0.drop s_1.toNat).take (s_1_2'.toNat - s_1.toNat)) o_18') rfl trivial rfl rfl (fun r H' hS => ?_) (fun c H' hS => ?_)
    ·obtain ⟨w_1', ho⟩ := hS
     cases ho
     refine wA ?_
     refine WL.nil ?_
     refine kg (hK_22' [(2, zB true)] _ ?_)
     refine c9 ?_
     exact hE.ret [0, 1] rfl rfl (.inl ⟨_, _, _, _, _, _, _, _, h, rfl⟩) (e7.of1 rfl (RV.tmp rfl))
    ·obtain ⟨w_1', ho⟩ := hS
     cases ho
 ·replace h := j0 h hb
  refine a7 (fun _ hK_23' => ?_)
  refine a6 ?_
  refine wm ?_
  refine wv (OV.eql rfl rfl) ?_
  refine wA ?_
  refine WL.nil ?_
  refine kg (hK_23' [(0, zP b), (3, zI s_1), (4, zU ((s_0.getD s_1.toNat 0).toNat : Int)), (75, zB (decide (((s_0.getD s_1.toNat 0).toNat : Int) = 34)))] _ ?_)
  refine b8 (b := decide (((s_0.getD s_1.toNat 0).toNat : Int) = 34)) rfl (fun hb => ?_) (fun hb => ?_)
  ·replace h := j3 h hb
   refine a7 (fun _ hK_24' => ?_)
   refine a6 ?_
   refine wm ?_
   obtain ⟨o_19', h⟩ := h
   refine WL.callS ao6 rfl (aky b s_0 s_1 w s_3 s_4 s_5 sl o_19') rfl trivial rfl rfl (fun r H' hS => ?_) (fun c H' hS => ?_)
   ·obtain ⟨w_2', ok, at0, l, fc, fa, ft, hc, ho⟩ := hS
    cases ho
    replace h := h ok at0 l fc fa ft hc
    refine wA ?_
    refine WL.nil ?_
    refine kg (hK_24' [(2, zB ok)] _ ?_)
    refine c9 ?_
    exact hE.ret [0, 1] rfl rfl (.inl ⟨_, _, _, _, _, _, _, _, h, rfl⟩) (e7.of1 rfl (RV.tmp rfl))
   ·obtain ⟨w_2', ok, at0, l, fc, fa, ft, hc, ho⟩ := hS
    cases ho
  ·replace h := j0 h hb
   refine a7 (fun _ hK_25' => ?_)
   refine a6 ?_
   refine wm ?_
   refine wv (OV.eql rfl rfl) ?_
   refine wA ?_
   refine WL.nil ?_
   refine kg (hK_25' [(0, zP b), (3, zI s_1), (4, zU ((s_0.getD s_1.toNat 0).toNat : Int)), (80, zB (decide (((s_0.getD s_1.toNat 0).toNat : Int) = 47)))] _ ?_)
   refine b8 (b := decide (((s_0.getD s_1.toNat 0).toNat : Int) = 47)) rfl (fun hb => ?_) (fun hb => ?_)
   ·replace h := j3 h hb
    refine a7 (fun _ hK_26' => ?_)
    refine a6 ?_
    refine wm ?_
    obtain ⟨o_20', h⟩ := h
    refine WL.callS ap6 rfl (amc b s_0 s_1 w s_3 s_4 s_5 sl o_20') rfl trivial rfl rfl (fun r H' hS => ?_) (fun c H' hS => ?_)
    ·obtain ⟨w_3', ok_1', at0_1', l_1', fc_1', fa_1', ft_1', hc, ho⟩ := hS
     cases ho
     replace h := h ok_1' at0_1' l_1' fc_1' fa_1' ft_1' hc
     refine wA ?_
     refine WL.nil ?_
     refine kg (hK_26' [(2, zB ok_1')] _ ?_)
     refine c9 ?_
     exact hE.ret [0, 1] rfl rfl (.inl ⟨_, _, _, _, _, _, _, _, h, rfl⟩) (e7.of1 rfl (RV.tmp rfl))
    ·obtain ⟨w_3', ok_1', at0_1', l_1', fc_1', fa_1', ft_1', hc, ho⟩ := hS
     cases ho
   ·replace h := j0 h hb
    refine a7 (fun _ hK_27' => ?_)
    refine a6 ?_
    refine wm ?_
    refine WL.call (A := []) af6 rfl (abl ([61, 59, 40, 41, 123, 125, 44, 124, 38, 45, 46, 126, 42, 43, 63] : List UInt8) ((s_0.getD s_1.toNat 0).toNat : Int)) rfl trivial rfl rfl ?_
    refine wv (OV.geq rfl rfl) ?_
    refine wA ?_
    refine WL.nil ?_
    refine kg (hK_27' [(0, zP b), (3, zI s_1), (85, zB (decide (0 ≤ Lib.indexByte ([61, 59, 40, 41, 123, 125, 44, 124, 38, 45, 46, 126, 42, 43, 63] : List UInt8) (((s_0.getD s_1.toNat 0).toNat : Int)).toNat.toUInt8)))] _ ?_)
    refine b8 (b := decide (0 ≤ Lib.indexByte ([61, 59, 40, 41, 123, 125, 44, 124, 38, 45, 46, 126, 42, 43, 63] : List UInt8) (((s_0.getD s_1.toNat 0).toNat : Int)).toNat.toUInt8)) rfl (fun hb => ?_) (fun hb => ?_)
    ·replace h := j3 h hb
     refine a7 (fun _ hK_28' => ?_)
     refine a6 ?_
     refine wm ?_
     refine wv (OV.nilCheck rfl) ?_
     refine wv (OV.fieldAddr0 rfl b7) ?_
     refine wv (OV.load rfl (At.own 0 rfl) rfl b9) ?_
     obtain ⟨o_21', h⟩ := h
     refine wv (OV.add rfl rfl o_21') ?_
     refine wv (OV.nilCheck rfl) ?_
     refine wv (OV.fieldAddr0 rfl b7) ?_
     refine WL.store (vs := [zI (s_1 + 1)]) (cs' := [st s_0, zI (s_1 + 1), w, zI s_3, zI s_4, st s_5]) 0 rfl rfl rfl rfl l8 (Nat.le_of_ble_eq_true rfl) rfl rfl rfl ?_
     refine WL.nil ?_
     refine kg (hK_28' [(0, zP b), (3, zI s_1)] _ ?_)
     refine a7 (fun _ hK_29' => ?_)
     refine m0 12 [] h8 (by kernel_rfl) rfl (fun T_4' hT_4' => ?_)
     refine fv (fun _ => OV.move rfl) ?_
     refine fv (fun _ => OV.move rfl) ?_
     refine fv (fun _ => OV.move rfl) ?_
     refine fv (fun _ => OV.nilCheck rfl) ?_
     refine fv (fun _ => OV.fieldAddr0 rfl f8) ?_
     refine fv (fun _ => OV.load rfl (At.own 0 rfl) rfl c8) ?_
     refine fv (fun _ => OV.move rfl) ?_
     refine fv (fun _ => OV.move rfl) ?_
     refine fv (fun _ => OV.nilCheck rfl) ?_
     refine fv (fun _ => OV.fieldAddr0 rfl b7) ?_
     refine fv (fun _ => OV.load rfl (At.own 0 rfl) rfl b9) ?_
     obtain ⟨o_22', h⟩ := h
     refine fv (fun _ => OV.sliceS rfl rfl rfl d5 o_22') ?_
     refine FL.weak (L' := fun γ => [(96, zP b), (97, zI s_1), (107, st ((s_0.drop s_1.toNat).take ((s_1 + 1).toNat - s_1.toNat)))]) (fun γ => ⟨rfl, rfl, rfl, trivial⟩) (FL.nil (hT_4' (fun γ => [(96, zP b), (97, zI s_1), (107, st ((s_0.drop s_1.toNat).take ((s_1 + 1).toNat - s_1.toNat)))]) (fun γ => ?_)))
     obtain ⟨o_23', h⟩ := h
     refine WL.callS abg rfl (acj b s_0 (s_1 + 1) w s_3 s_4 s_5 sl 4 s_1 ((s_0.drop s_1.toNat).take ((s_1 + 1).toNat - s_1.toNat)) o_23') rfl trivial rfl rfl (fun r H' hS => ?_) (fun c H' hS => ?_)
     ·obtain ⟨w_4', ho⟩ := hS
      cases ho
      refine wA ?_
      refine WL.nil ?_
      refine kg (hK_29' [(2, zB true)] _ ?_)
      refine c9 ?_
      exact hE.ret [0, 1] rfl rfl (.inl ⟨_, _, _, _, _, _, _, _, h, rfl⟩) (e7.of1 rfl (RV.tmp rfl))
     ·obtain ⟨w_4', ho⟩ := hS
      cases ho
    ·replace h := j0 h hb
     refine a7 (fun _ hK_30' => ?_)
     refine a6 ?_
     refine wm ?_
     refine wv (OV.nilCheck rfl) ?_
     refine wv (OV.fieldAddr0 rfl f8) ?_
     refine wv (OV.load rfl (At.own 0 rfl) rfl c8) ?_
     refine wm ?_
     obtain ⟨o_24', h⟩ := h
     refine wv (OV.sliceL rfl rfl d5 o_24') ?_
     refine WL.call (A := []) ao3 rfl (ahv (s_0.drop s_1.toNat) ([62, 62] : List UInt8)) rfl trivial rfl rfl ?_
     refine wA ?_
     refine WL.nil ?_
     refine kg (hK_30' [(0, zP b), (3, zI s_1), (109, zB (Lib.hasPrefix (s_0.drop s_1.toNat) ([62, 62] : List UInt8)))] _ ?_)
     refine b8 (b := Lib.hasPrefix (s_0.drop s_1.toNat) ([62, 62] : List UInt8)) rfl (fun hb => ?_) (fun hb => ?_)
     ·replace h := j3 h hb
      refine a7 (fun _ hK_31' => ?_)
      refine a6 ?_
      refine wm ?_
      refine wv (OV.nilCheck rfl) ?_
      refine wv (OV.fieldAddr0 rfl b7) ?_
      refine wv (OV.load rfl (At.own 0 rfl) rfl b9) ?_
      obtain ⟨o_25', h⟩ := h
      refine wv (OV.add rfl rfl o_25') ?_
      refine wv (OV.nilCheck rfl) ?_
      refine wv (OV.fieldAddr0 rfl b7) ?_
      refine WL.store (vs := [zI (s_1 + 2)]) (cs' := [st s_0, zI (s_1 + 2), w, zI s_3, zI s_4, st s_5]) 0 rfl rfl rfl rfl l8 (Nat.le_of_ble_eq_true rfl) rfl rfl rfl ?_
      refine WL.nil ?_
      refine kg (hK_31' [(0, zP b), (3, zI s_1)] _ ?_)
      refine a7 (fun _ hK_32' => ?_)
      refine a6 ?_
      refine wm ?_
      refine wm ?_
      obtain ⟨o_26', h⟩ := h
      refine WL.callS abg rfl (acj b s_0 (s_1 + 2) w s_3 s_4 s_5 sl 4 s_1 ([62, 62] : List UInt8) o_26') rfl trivial rfl rfl (fun r H' hS => ?_) (fun c H' hS => ?_)
      ·obtain ⟨w_5', ho⟩ := hS
       cases ho
       refine wA ?_
       refine WL.nil ?_
       refine kg (hK_32' [(2, zB true)] _ ?_)
       refine c9 ?_
       exact hE.ret [0, 1] rfl rfl (.inl ⟨_, _, _, _, _, _, _, _, h, rfl⟩) (e7.of1 rfl (RV.tmp rfl))
      ·obtain ⟨w_5', ho⟩ := hS
       cases ho
     ·replace h := j0 h hb
      refine c5 ?_
      refine kg (hK_2' [(0, zP b), (3, zI s_1)] _ ?_)
      refine a7 (fun _ hK_33' => ?_)
      refine a6 ?_
      refine wm ?_
      refine wm ?_
      refine WL.call x9 rfl (x4 b s_0 s_1 w s_3 s_4 s_5 50 s_1) rfl trivial rfl rfl ?_
      refine wA ?_
      refine WL.nil ?_
      refine kg (hK_33' [(2, zB false)] _ ?_)
      refine c9 ?_
      exact hE.ret [0, 1] rfl rfl (.inl ⟨_, _, _, _, _, _, _, _, h, rfl⟩) (e7.of1 rfl (RV.tmp rfl))
theorem ak7 {t : List UInt8} {p : Int} (h : 0 ≤ p ∧ p < t.length) : v6 (t.drop p.toNat) = if (j7 (bt t p) || p5 (bt t p)) = true then 1 + v6 (t.drop (p + 1).toNat) else 0 := by
 obtain ⟨x, hx, hb⟩ := afs h
 rw [hx, v6, hb]
theorem ar8 {t : List UInt8} {p : Int} (h : (t.length : Int) ≤ p) : v6 (t.drop p.toNat) = 0 := by
 rw [List.drop_eq_nil_of_le (by omega)]; rfl
theorem abw {t : List UInt8} {fr : Int} : ∀ {n : Nat} {out : List UInt8} {k : Int} {x : List UInt8} {q : Int}, k6 t fr n out k = .ok (x, q) → k < q ∧ q ≤ t.length
 | 0, _, _, _, _, h => by cases h
 | n + 1, out, k, x, q, h => by
  rw [k6] at h
  split at h
  ·split at h
   ·simp only [Except.ok.injEq, Prod.mk.injEq] at h; omega
   ·split at h
    ·cases h
    ·split at h
     ·have := abw h; omega
     ·split at h
      ·cases h
      ·split at h
       ·cases h
       ·have h1 := abw h
        have h2 := (amq (t := t) (a := k) (b := (abf t k).1) (ok := (abf t k).2.1) (q := (abf t k).2.2) rfl).1
        omega
  ·cases h
theorem aar {t : List UInt8} {fr : Int} : ∀ {n : Nat} {k : Int} {x : List UInt8} {q : Int}, o7 t fr n k = .ok (x, q) → k < q ∧ q ≤ t.length
 | 0, _, _, _, h => by cases h
 | n + 1, k, x, q, h => by
  rw [o7] at h
  split at h
  ·split at h
   ·split at h
    ·cases h
    ·have := aar h; omega
   ·split at h
    ·cases h
    ·split at h
     ·simp only [Except.ok.injEq, Prod.mk.injEq] at h; omega
     ·have := aar h; omega
  ·cases h
theorem aek {t : List UInt8} {a : Int} (hb : 0 ≤ a ∧ a < t.length) {k : Tok} {q : Int} (h : abd t a = .ok (k, q)) : a < q ∧ q ≤ t.length := by
 unfold abd at h
 split at h
 ·rename_i hl
  split at h
  ·cases h
  ·simp only [Except.ok.injEq, Prod.mk.injEq] at h
   have h1 := ak7 hb
   rw [if_pos (by simp [hl])] at h1
   have h2 := al1 (t.drop a.toNat)
   rw [List.length_drop] at h2
   omega
 ·split at h
  ·unfold z8 at h
   split at h
   ·rename_i he
    have := abw he
    simp only [Except.ok.injEq, Prod.mk.injEq] at h; omega
   ·cases h
  ·split at h
   ·unfold aa8 at h
    split at h
    ·rename_i he
     have := aar he
     simp only [Except.ok.injEq, Prod.mk.injEq] at h; omega
    ·cases h
   ·split at h
    ·simp only [Except.ok.injEq, Prod.mk.injEq] at h; omega
    ·split at h
     ·simp only [Except.ok.injEq, Prod.mk.injEq] at h; omega
     ·cases h
theorem att {t : List UInt8} {a : Int} (hb : 0 ≤ a ∧ a < t.length) : Lib.hasPrefix (t.drop a.toNat) ([62, 62] : List UInt8) = decide (a + 1 < t.length ∧ bt t a = 62 ∧ bt t (a + 1) = 62) := by
 obtain ⟨x, hx, hbx⟩ := afs hb
 rw [hx, hbx]
 by_cases h1 : a + 1 < t.length
 ·obtain ⟨y, hy, hby⟩ := afs (t := t) (p := a + 1) ⟨by omega, h1⟩
  rw [hy, hby, Bool.eq_iff_iff]
  have e1 := ans x 62
  have e2 := ans y 62
  simp only [Lib.hasPrefix, List.isPrefixOf, Bool.and_true, Bool.and_eq_true, decide_eq_true_eq, h1, true_and]
  constructor
  ·rintro ⟨p1, p2⟩
   have p1 : x = 62 := (by simpa using p1 : (62 : UInt8) = x).symm
   have p2 : y = 62 := (by simpa using p2 : (62 : UInt8) = y).symm
   subst p1; subst p2; exact ⟨rfl, rfl⟩
  ·rintro ⟨p1, p2⟩
   have p1 : x = 62 := UInt8.toNat_inj.1 (by have : (62 : UInt8).toNat = 62 := rfl; omega)
   have p2 : y = 62 := UInt8.toNat_inj.1 (by have : (62 : UInt8).toNat = 62 := rfl; omega)
   subst p1; subst p2; exact ⟨rfl, rfl⟩
 ·rw [List.drop_eq_nil_of_le (by omega)]
  simp [Lib.hasPrefix, List.isPrefixOf, h1]
theorem asb (b : Nat) (t : List UInt8) (a : Int) (w : Value) (fc fa : Int) (ft : List UInt8) (l : List Tok) (h : 0 ≤ a ∧ a < t.length ∧ t.length ≤ 4096 ∧ l.length ≤ 4096) :
  d8 Tryd.prog 36 [.pointer (some ⟨b, 0, none⟩)] [] [.blk b (scB t a w fc fa ft), ae7 w l] (art b t l fc fa ft (abd t a)) := by
 refine (aug b w t a fc fa ft l (fun ok t' q c x y l' => t' = t ∧ aka (abd t a) t l fc fa ft ok q l' c x y) ?_).weak ?_
 ·unfold am0
  have eb : ∀ i : Int, ((t.getD i.toNat 0).toNat : Int) = bt t i := fun _ => rfl
  simp only [eb, true_and]
  have hb : 0 ≤ a ∧ a < t.length := ⟨h.1, h.2.1⟩
  refine ⟨hb, ?_⟩
  by_cases e1 : j7 (bt t a) = true
  ·rw [if_pos e1]
   refine ⟨fun q => a ≤ q ∧ q ≤ t.length ∧ q + v6 (t.drop q.toNat) = a + v6 (t.drop a.toNat), fun q => (t.length - q).toNat, ⟨Int.le_refl _, by omega, rfl⟩, ?_⟩
   rintro q ⟨q0, q1, hq⟩
   refine ⟨fun hh => ⟨⟨by omega, by simpa using hh⟩, fun _ => ⟨by omega, by simpa using hh⟩⟩, ?_⟩
   have hend : q = a + v6 (t.drop a.toNat) → (I64 (q - a)) ∧ (if decide (32 < q - a) = true then t = t ∧ aka (abd t a) t l fc fa ft false q l 1 a [] else (0 ≤ a ∧ a ≤ q ∧ q ≤ t.length) ∧ l.length ≤ 4096 ∧ aka (abd t a) t l fc fa ft true q (l ++ [((1 : Int), a, (t.drop a.toNat).take (q.toNat - a.toNat))]) fc fa ft) := fun hqe => by
    refine ⟨⟨by omega, by omega⟩, ?_⟩
    unfold abd
    rw [if_pos e1]
    by_cases e2 : 32 < q - a
    ·rw [if_pos (by simpa using e2), if_pos (by omega)]
     exact ⟨rfl, rfl, rfl, rfl, rfl, rfl⟩
    ·rw [if_neg (by simpa using e2), if_neg (by omega)]
     refine ⟨⟨by omega, q0, q1⟩, h.2.2.2, rfl, hqe, ?_, rfl, rfl, rfl⟩
     rw [← hqe]; rfl
   simp only [true_and] at hend
   by_cases hql : q < t.length
   ·have hqb : 0 ≤ q ∧ q < t.length := ⟨by omega, hql⟩
    have hs := ak7 hqb
    by_cases e3 : (j7 (bt t q) || p5 (bt t q)) = true
    ·rw [if_pos (by rw [e3]; simp; omega)]
     rw [if_pos e3] at hs
     exact ⟨⟨by omega, by omega⟩, ⟨by omega, by omega, by omega⟩, by show (t.length - (q + 1)).toNat < (t.length - q).toNat; omega⟩
    ·rw [if_neg (by rw [Bool.eq_false_iff.2 e3]; simp)]
     rw [if_neg e3] at hs
     exact hend (by omega)
   ·rw [if_neg (by simp; omega)]
    have := ar8 (t := t) (p := q) (by omega)
    exact hend (by omega)
  ·rw [if_neg e1]
   have hone : abd t a = if bt t a = 34 then z8 t a else if bt t a = 47 then aa8 t a else if ad4.contains (bt t a).toNat.toUInt8 = true then .ok ((4, a, cut t a (a + 1)), a + 1) else if a + 1 < t.length ∧ bt t a = 62 ∧ bt t (a + 1) = 62 then .ok ((4, a, [62, 62]), a + 2) else .error (50, a) := by
    unfold abd; rw [if_neg e1]
   by_cases e2 : bt t a = 34
   ·rw [if_pos (by simpa using e2)]
    rw [if_pos e2] at hone
    rw [hone]
    exact ⟨h, fun ok q l' c x y hT => hT⟩
   ·rw [if_neg (by simpa using e2)]
    rw [if_neg e2] at hone
    by_cases e3 : bt t a = 47
    ·rw [if_pos (by simpa using e3)]
     rw [if_pos e3] at hone
     rw [hone]
     exact ⟨h, fun ok q l' c x y hT => hT⟩
    ·rw [if_neg (by simpa using e3)]
     rw [if_neg e3] at hone
     have hm : (0 ≤ Lib.indexByte ([61, 59, 40, 41, 123, 125, 44, 124, 38, 45, 46, 126, 42, 43, 63] : List UInt8) (bt t a).toNat.toUInt8) ↔ ad4.contains (bt t a).toNat.toUInt8 = true := aat _ _
     by_cases e4 : ad4.contains (bt t a).toNat.toUInt8 = true
     ·rw [if_pos (by simpa using hm.2 e4)]
      rw [if_pos e4] at hone
      rw [hone]
      exact ⟨⟨by omega, by omega⟩, ⟨by omega, by omega, by omega⟩, h.2.2.2, rfl, rfl, rfl, rfl, rfl, rfl⟩
     ·rw [if_neg (by simpa using fun x => e4 (hm.1 x))]
      rw [if_neg e4] at hone
      refine ⟨⟨by omega, by omega⟩, ?_⟩
      rw [att hb]
      by_cases e5 : a + 1 < t.length ∧ bt t a = 62 ∧ bt t (a + 1) = 62
      ·rw [if_pos (by simpa using e5)]
       rw [if_pos e5] at hone
       rw [hone]
       exact ⟨⟨by omega, by omega⟩, h.2.2.2, rfl, rfl, rfl, rfl, rfl, rfl⟩
      ·rw [if_neg (by simpa using e5)]
       rw [if_neg e5] at hone
       rw [hone]
       exact ⟨rfl, rfl, rfl, rfl, rfl⟩
 ·rintro o (⟨ok, t', q, c, x, y, w', l', ⟨rfl, hT⟩, rfl⟩ | h)
  ·exact ⟨w', ok, q, l', c, x, y, hT, rfl⟩
  ·exact h.elim
end Go.Proofs.YtifajndacnfcbaaDoor
set_option maxRecDepth 100000
namespace Go.Proofs.YtifajndacnfcbaaDoor
open Go Go.RowKit
theorem aal : abb Tryd.prog 26 = some [zI 0, zI 0, st []] := by kernel_rfl
theorem o0 : RowT Tryd.prog 26 3 := ⟨by kernel_rfl, by kernel_rfl⟩
theorem aiz : l6 Tryd.prog 34 = true := by kernel_rfl
theorem apv : l6 Tryd.prog 36 = true := by kernel_rfl
def akc (text : List UInt8) (K : (List Tok) → Int → Int → (List UInt8) → Prop) : Prop :=
 (if (decide (4096 < (text.length : Int))) = true then
  K ([] : List Tok) 1 0 []
 else
  (0 ≤ (0 : Int) ∧ (0 : Int) ≤ text.length ∧ text.length ≤ 4096) ∧
  ∃ (Inv : Int → Int → Int → (List UInt8) → (List Tok) → Prop) (mu : Int → Int → Int → (List UInt8) → (List Tok) → Nat),
   Inv (r8 text 0) 0 0 [] [] ∧ ∀ (c_1_1' : Int) (c_3_1' : Int) (c_4_1' : Int) (c_5_1' : List UInt8) (l_3' : List Tok), Inv c_1_1' c_3_1' c_4_1' c_5_1' l_3' →
    (if (!(decide (text.length ≤ c_1_1'))) = true then
     (0 ≤ c_1_1' ∧ c_1_1' < text.length ∧ text.length ≤ 4096 ∧ l_3'.length ≤ 4096) ∧
     (∀ (ok_2' : Bool) (at0_2' : Int) (l_4' : List Tok) (fc_2' : Int) (fa_2' : Int) (ft_2' : List UInt8), aka (abd text c_1_1') text l_3' c_3_1' c_4_1' c_5_1' ok_2' at0_2' l_4' fc_2' fa_2' ft_2' →
      (if (!ok_2') = true then
       K ([] : List Tok) fc_2' fa_2' ft_2'
      else
       (0 ≤ at0_2' ∧ at0_2' ≤ text.length ∧ text.length ≤ 4096) ∧
       Inv (r8 text at0_2') fc_2' fa_2' ft_2' l_4' ∧ mu (r8 text at0_2') fc_2' fa_2' ft_2' l_4' < mu c_1_1' c_3_1' c_4_1' c_5_1' l_3'))
    else
     (l_3'.length ≤ 4096) ∧
     (
      K (l_3' ++ [((0 : Int), (text.length : Int), [])]) 0 0 [])))
theorem asm  (text : List UInt8) (K : (List Tok) → Int → Int → (List UInt8) → Prop) (h : akc text K) :
  d8 Tryd.prog 15 [st text] [] [] (fun o => (∃ (w_6' : Value) (v : List Tok) (v_1'_0 : Int) (v_1'_1 : Int) (v_1'_2 : List UInt8), K v v_1'_0 v_1'_1 v_1'_2 ∧ o = .ret (Value.tuple #[w_6', Value.agg [zI v_1'_0, zI v_1'_1, st v_1'_2].toArray]) [HA.row w_6' 102 3 v.length (v.flatMap f9)]) ∨ (False)) := by
 unfold akc at h
 refine c7 (n := 35) (L0 := [(0, st text)]) Tryd.func15 rfl rfl rfl rfl (fun w0 M Q hE => ?_)
 refine a7 (fun _ hK => ?_)
 refine a6 ?_
 refine wA ?_
 refine WL.nilRow 102 3 f9 ?_
 refine WL.make (MV.alloc aal) rfl rfl rfl (fun b => ?_)
 refine WL.nil ?_
 refine kg (hK [(0, st text), (3, zP b)] _ ?_)
 refine a7 (fun _ hK_1' => ?_)
 refine a7 (fun _ hK_2' => ?_)
 refine a6 ?_
 refine wm ?_
 refine wv (OV.len rfl d5) ?_
 refine wv (OV.gtr rfl rfl) ?_
 refine WL.nil ?_
 refine kg (hK_2' [(0, st text), (3, zP b), (7, zB (decide (4096 < (text.length : Int))))] _ ?_)
 refine b8 (b := decide (4096 < (text.length : Int))) rfl (fun hb => ?_) (fun hb => ?_)
 ·replace h := j3 h hb
  refine a7 (fun _ hK_3' => ?_)
  refine a6 ?_
  refine wv (OV.build rfl (cs := [zI 1, zI 0, st []]) rfl) ?_
  refine wA ?_
  refine WL.nilRow 102 3 f9 ?_
  refine WL.storeW (vs := [zI 1, zI 0, st []]) 1 rfl rfl rfl rfl rfl n4 rfl rfl rfl ?_
  refine WL.nil ?_
  refine kg (hK_3' [(2, Value.slice none 0 0), (3, zP b)] _ ?_)
  refine c9 ?_
  exact hE.ret [0] rfl rfl (.inl ⟨_, _, _, _, _, h, rfl⟩) (e7.of2 rfl (RV.tmp rfl) (RV.row rfl (At.own 1 rfl) o0))
 ·replace h := j0 h hb
  refine c5 ?_
  refine kg (hK_1' [(0, st text), (3, zP b)] _ ?_)
  refine a7 (fun _ hK_4' => ?_)
  refine a6 ?_
  refine wm ?_
  refine wv (OV.build rfl (cs := [st text, zI 0, Value.slice none 0 0, zI 0, zI 0, st []]) rfl) ?_
  refine WL.make (MV.box (cs := [st text, zI 0, Value.slice none 0 0, zI 0, zI 0, st []]) rfl rfl) rfl rfl rfl (fun b_1' => ?_)
  refine WL.nilRow 102 3 f9 ?_
  refine wA ?_
  refine WL.nil ?_
  refine kg (hK_4' [(0, st text), (3, zP b), (4, zP b_1')] _ ?_)
  refine a7 (fun _ hK_5' => ?_)
  refine a7 (fun _ hK_6' => ?_)
  refine a6 ?_
  refine wm ?_
  obtain ⟨o, h⟩ := h
  refine WL.pick (H' := [HA.blk b_1' (.cells [st text, zI 0, Value.slice none 0 0, zI 0, zI 0, st []].toArray 100 (0, 0)), HA.row (Value.slice none 0 0) 102 3 ([] : List Tok).length (([] : List Tok).flatMap f9), HA.blk b (.cells [zI 0, zI 0, st []].toArray 26 (0, 0)), HA.row (Value.slice none 0 0) 102 3 ([] : List Tok).length (([] : List Tok).flatMap f9)]) [1, 0, 2, 3] rfl rfl ?_
  refine WL.call aiz rfl (ai2 b_1' text 0 (Value.slice none 0 0) 0 0 [] o) rfl trivial rfl rfl ?_
  refine WL.nil ?_
  refine kg (hK_6' [(0, st text), (3, zP b), (4, zP b_1')] _ ?_)
  refine c6 ?_
  refine WC.pick (H' := [HA.blk b_1' (.cells [st text, zI (r8 text 0), Value.slice none 0 0, zI 0, zI 0, st []].toArray 100 (0, 0)), HA.row (Value.slice none 0 0) 102 3 ([] : List Tok).length (([] : List Tok).flatMap f9), HA.blk b (.cells [zI 0, zI 0, st []].toArray 26 (0, 0))]) [0, 1, 2] rfl rfl ?_
  obtain ⟨Inv, mu, h0, hr⟩ := h
  refine w9 (S := Int × Int × Int × (List UInt8) × Value × (List Tok)) (fun σ => Inv σ.1 σ.2.1 σ.2.2.1 σ.2.2.2.1 σ.2.2.2.2.2) (fun σ => mu σ.1 σ.2.1 σ.2.2.1 σ.2.2.2.1 σ.2.2.2.2.2) (fun σ => [(0, st text), (3, zP b), (4, zP b_1')]) (fun σ => [HA.blk b_1' (.cells [st text, zI σ.1, σ.2.2.2.2.1, zI σ.2.1, zI σ.2.2.1, st σ.2.2.2.1].toArray 100 (0, 0)), HA.row σ.2.2.2.2.1 102 3 σ.2.2.2.2.2.length (σ.2.2.2.2.2.flatMap f9), HA.blk b (.cells [zI 0, zI 0, st []].toArray 26 (0, 0))]) (r8 text 0, 0, 0, [], Value.slice none 0 0, []) h0 ⟨rfl, rfl, rfl, trivial⟩ rfl ?_
  rintro ⟨c_1_1', c_3_1', c_4_1', c_5_1', w_3', l_3'⟩ hi K0_17' hK_17'
  have h := hr c_1_1' c_3_1' c_4_1' c_5_1' l_3' hi
  show WC _ _ _ _ [(0, st text), (3, zP b), (4, zP b_1')] [HA.blk b_1' (.cells [st text, zI c_1_1', w_3', zI c_3_1', zI c_4_1', st c_5_1'].toArray 100 (0, 0)), HA.row w_3' 102 3 l_3'.length (l_3'.flatMap f9), HA.blk b (.cells [zI 0, zI 0, st []].toArray 26 (0, 0))]
  refine a7 (fun _ hK_18' => ?_)
  refine a7 (fun _ hK_19' => ?_)
  refine a6 ?_
  refine wm ?_
  refine WL.call (A := []) t6 rfl (q7 b_1' text c_1_1' w_3' c_3_1' c_4_1' c_5_1') rfl ⟨.inl ⟨0, rfl⟩, trivial⟩ rfl rfl ?_
  refine wv (OV.not rfl) ?_
  refine WL.nil ?_
  refine kg (hK_19' [(0, st text), (3, zP b), (4, zP b_1'), (16, zB (!(decide (text.length ≤ c_1_1'))))] _ ?_)
  refine b8 (b := !(decide (text.length ≤ c_1_1'))) rfl (fun hb => ?_) (fun hb => ?_)
  ·replace h := j3 h hb
   refine c5 ?_
   refine kg (hK_18' [(0, st text), (3, zP b), (4, zP b_1')] _ ?_)
   refine a7 (fun _ hK_20' => ?_)
   refine c6 ?_
   refine a7 (fun _ hK_21' => ?_)
   refine a6 ?_
   refine wm ?_
   obtain ⟨o_5', h⟩ := h
   refine WL.callS apv rfl (asb b_1' text c_1_1' w_3' c_3_1' c_4_1' c_5_1' l_3' o_5') rfl trivial rfl rfl (fun r H' hS => ?_) (fun c H' hS => ?_)
   ·obtain ⟨w_4', ok_2', at0_2', l_4', fc_2', fa_2', ft_2', hc, ho⟩ := hS
    cases ho
    replace h := h ok_2' at0_2' l_4' fc_2' fa_2' ft_2' hc
    refine wv (OV.not rfl) ?_
    refine WL.nil ?_
    refine kg (hK_21' [(0, st text), (3, zP b), (4, zP b_1'), (21, zB (!ok_2'))] _ ?_)
    refine b8 (b := !ok_2') rfl (fun hb => ?_) (fun hb => ?_)
    ·replace h := j3 h hb
     refine a7 (fun _ hK_22' => ?_)
     refine m0 5 [] h8 (by kernel_rfl) rfl (fun T_2' hT_2' => ?_)
     refine fv (fun _ => OV.move rfl) ?_
     refine fv (fun _ => OV.nilCheck rfl) ?_
     refine fv (fun _ => OV.fieldAddr0 rfl aed) ?_
     refine fv (fun _ => OV.loadM (vs := [zI fc_2', zI fa_2', st ft_2']) rfl (At.own 0 rfl) rfl o0) ?_
     refine fv (fun _ => OV.assign rfl) ?_
     refine FL.weak (L' := fun γ => [(2, Value.slice none 0 0), (3, zP b), (25, Value.agg [zI fc_2', zI fa_2', st ft_2'].toArray)]) (fun γ => ⟨rfl, rfl, rfl, trivial⟩) (FL.nil (hT_2' (fun γ => [(2, Value.slice none 0 0), (3, zP b), (25, Value.agg [zI fc_2', zI fa_2', st ft_2'].toArray)]) (fun γ => ?_)))
     refine WL.storeW (vs := [zI fc_2', zI fa_2', st ft_2']) 2 rfl rfl rfl rfl rfl n4 rfl rfl rfl ?_
     refine WL.nil ?_
     refine kg (hK_22' [(2, Value.slice none 0 0), (3, zP b)] _ ?_)
     refine c9 ?_
     refine QX.nilRow 102 3 f9 ?_
     exact hE.ret [0] rfl rfl (.inl ⟨_, _, _, _, _, h, rfl⟩) (e7.of2 rfl (RV.tmp rfl) (RV.row rfl (At.own 3 rfl) o0))
    ·replace h := j0 h hb
     refine c5 ?_
     refine kg (hK_20' [(0, st text), (3, zP b), (4, zP b_1')] _ ?_)
     refine a6 ?_
     refine wm ?_
     obtain ⟨o_6', h⟩ := h
     refine WL.call aiz rfl (ai2 b_1' text at0_2' w_4' fc_2' fa_2' ft_2' o_6') rfl trivial rfl rfl ?_
     refine WL.nil ?_
     exact kh (hK_17' (r8 text at0_2', fc_2', fa_2', ft_2', w_4', l_4') h.1 h.2) [0, 1, 2]
   ·obtain ⟨w_4', ok_2', at0_2', l_4', fc_2', fa_2', ft_2', hc, ho⟩ := hS
    cases ho
  ·replace h := j0 h hb
   refine p8 ?_
   refine kg (hK_5' [(0, st text), (3, zP b), (4, zP b_1')] _ ?_)
   refine a7 (fun _ hK_23' => ?_)
   refine a6 ?_
   refine wm ?_
   refine wm ?_
   refine wv (OV.len rfl d5) ?_
   obtain ⟨o_7', h⟩ := h
   refine WL.callS abg rfl (acj b_1' text c_1_1' w_3' c_3_1' c_4_1' c_5_1' l_3' 0 (text.length : Int) [] o_7') rfl trivial rfl rfl (fun r H' hS => ?_) (fun c H' hS => ?_)
   ·obtain ⟨w_5', ho⟩ := hS
    cases ho
    refine WL.nil ?_
    refine kg (hK_23' [(3, zP b), (4, zP b_1')] _ ?_)
    refine a7 (fun _ hK_24' => ?_)
    refine a6 ?_
    refine wm ?_
    refine wv (OV.nilCheck rfl) ?_
    refine wv (OV.fieldAddr0 rfl abq) ?_
    refine wv (OV.load rfl (At.own 0 rfl) rfl abr) ?_
    refine wv (OV.build rfl (cs := [zI 0, zI 0, st []]) rfl) ?_
    refine wA ?_
    refine WL.storeW (vs := [zI 0, zI 0, st []]) 2 rfl rfl rfl rfl rfl n4 rfl rfl rfl ?_
    refine WL.nil ?_
    refine kg (hK_24' [(2, w_5'), (3, zP b)] _ ?_)
    refine c9 ?_
    exact hE.ret [1] rfl rfl (.inl ⟨_, _, _, _, _, h, rfl⟩) (e7.of2 rfl (RV.tmp rfl) (RV.row rfl (At.own 2 rfl) o0))
   ·obtain ⟨w_5', ho⟩ := hS
    cases ho
theorem apo (t : List UInt8) : d8 Tryd.prog 15 [st t] [] [] (fun o => ∃ w : Value, o = .ret (.tuple #[w, .agg [zI (g0 t).2.1, zI (g0 t).2.2, st []].toArray]) [ae7 w (g0 t).1]) := by
 refine (asm t (fun l c p x => (l, c, p) = g0 t ∧ x = []) ?_).weak ?_
 ·unfold akc g0
  by_cases h0 : 4096 < t.length
  ·rw [if_pos (by simp; omega), if_pos h0]; exact ⟨rfl, rfl⟩
  ·rw [if_neg (by simp; omega), if_neg h0]
   have hg0 := x0 (t := t) (a := 0) ⟨by omega, by omega⟩
   refine ⟨⟨by omega, by omega, by omega⟩, fun a c p x l => 0 ≤ a ∧ a ≤ t.length ∧ c = 0 ∧ p = 0 ∧ x = [] ∧ l.length ≤ a ∧ ∃ n, (t.length - a).toNat < n ∧ y9 t (t.length + 1) [] (r8 t 0) = y9 t n l a, fun a _ _ _ _ => (t.length - a).toNat, ⟨by omega, by omega, rfl, rfl, rfl, by simp; omega, t.length + 1, by omega, rfl⟩, ?_⟩
   rintro a c p x l ⟨a0, a1, rfl, rfl, rfl, hl, n, hn, hF⟩
   obtain ⟨n, rfl⟩ : ∃ m, n = m + 1 := ⟨n - 1, by omega⟩
   by_cases ha : a < t.length
   ·rw [if_pos (by simp; omega)]
    refine ⟨⟨a0, ha, by omega, by omega⟩, fun ok q l' c' p' x' hT => ?_⟩
    cases ho : abd t a with
    | error e =>
     rw [ho] at hT
     obtain ⟨rfl, rfl, rfl, rfl, rfl⟩ := hT
     rw [if_pos (show (!false) = true from rfl), hF, y9, if_pos ha, ho]
     exact ⟨rfl, rfl⟩
    | ok r =>
     rw [ho] at hT
     obtain ⟨rfl, rfl, rfl, rfl, rfl, rfl⟩ := hT
     have hq := aek ⟨a0, ha⟩ ho
     have hg := x0 (t := t) (a := r.2) ⟨by omega, hq.2⟩
     rw [if_neg (by simp)]
     refine ⟨⟨by omega, hq.2, by omega⟩, ⟨by omega, hg.2, rfl, rfl, rfl, by simp; omega, n, by omega, ?_⟩, by show (t.length - r8 t r.2).toNat < (t.length - a).toNat; omega⟩
     rw [hF, y9, if_pos ha, ho]
   ·rw [if_neg (by simp; omega)]
    refine ⟨by omega, ?_⟩
    rw [hF, y9, if_neg ha]
    exact ⟨rfl, rfl⟩
 ·rintro o (⟨w, l, c, p, x, ⟨he, rfl⟩, rfl⟩ | h)
  ·rw [← he]; exact ⟨w, rfl⟩
  ·exact h.elim
end Go.Proofs.YtifajndacnfcbaaDoor
set_option maxRecDepth 100000
namespace Go.Proofs.YtifajndacnfcbaaDoor
open Go Go.RowKit
theorem agl {t : List UInt8} {fr : Int} : ∀ {n : Nat} {out : List UInt8} {k : Int} {e p : Int}, k6 t fr n out k = .error (e, p) → e ≠ 0
 | 0, _, _, _, _, h => by rw [k6] at h; simp only [Except.error.injEq, Prod.mk.injEq] at h; omega
 | n + 1, out, k, e, p, h => by
  rw [k6] at h
  repeat' split at h
  all_goals first | (exact agl h) | (simp only [Except.error.injEq, Prod.mk.injEq] at h; omega) | cases h
theorem ahz {t : List UInt8} {fr : Int} : ∀ {n : Nat} {k : Int} {e p : Int}, o7 t fr n k = .error (e, p) → e ≠ 0
 | 0, _, _, _, h => by rw [o7] at h; simp only [Except.error.injEq, Prod.mk.injEq] at h; omega
 | n + 1, k, e, p, h => by
  rw [o7] at h
  repeat' split at h
  all_goals first | (exact ahz h) | (simp only [Except.error.injEq, Prod.mk.injEq] at h; omega) | cases h
end Go.Proofs.YtifajndacnfcbaaDoor
set_option maxRecDepth 100000
namespace Go.Proofs.YtifajndacnfcbaaDoor
open Go Go.RowKit
theorem apc : l6 Tryd.prog 82 = true := by kernel_rfl
theorem ap1 : l6 Tryd.prog 77 = true := by kernel_rfl
def aj6  (K : Int → Prop) : Prop :=
 (if (decide (([62, 62] : List UInt8) = ([124] : List UInt8))) = true then
  K 0
 else
  K (-1))
theorem as3   (K : Int → Prop) (h : aj6  K) :
  d8 Tryd.prog 82 [st ([124] : List UInt8), st ([62, 62] : List UInt8)] [] [] (fun o => (∃ (v : Int), K v ∧ o = .ret (zI v) []) ∨ (False)) := by
 unfold aj6 at h
 refine c7 (n := 143) (L0 := [(0, st ([124] : List UInt8)), (1, st ([62, 62] : List UInt8))]) Tryd.func82 rfl rfl rfl rfl (fun w0 M Q hE => ?_)
 refine a7 (fun _ hK => ?_)
 refine a6 ?_
 refine wA ?_
 refine WL.nil ?_
 refine kg (hK [(0, st ([124] : List UInt8)), (1, st ([62, 62] : List UInt8))] _ ?_)
 refine a7 (fun _ hK_1' => ?_)
 refine a6 ?_
 refine wm ?_
 refine wv (OV.len rfl d5) ?_
 refine wA ?_
 refine WL.nil ?_
 refine kg (hK_1' [(0, st ([124] : List UInt8)), (1, st ([62, 62] : List UInt8)), (5, zI 2)] _ ?_)
 refine a7 (fun _ hK_2' => ?_)
 refine c6 ?_
 refine a7 (fun _ hK_3' => ?_)
 refine a6 ?_
 refine wm ?_
 refine wv (OV.eql rfl rfl) ?_
 refine wm ?_
 refine wm ?_
 refine wm ?_
 refine wv (OV.eqlS rfl rfl) ?_
 refine wv (OV.pickF rfl rfl) ?_
 refine wA ?_
 refine WL.nil ?_
 refine kg (hK_3' [(0, st ([124] : List UInt8)), (1, st ([62, 62] : List UInt8)), (5, zI 2), (16, zB (decide (([62, 62] : List UInt8) = ([124] : List UInt8))))] _ ?_)
 refine b8 (b := decide (([62, 62] : List UInt8) = ([124] : List UInt8))) rfl (fun hb => ?_) (fun hb => ?_)
 ·replace h := j3 h hb
  refine a7 (fun _ hK_4' => ?_)
  refine a6 ?_
  refine wA ?_
  refine WL.nil ?_
  refine kg (hK_4' [(4, zI 0)] _ ?_)
  refine c9 ?_
  exact hE.ret [] rfl rfl (.inl ⟨_, h, rfl⟩) (e7.of1 rfl (RV.tmp rfl))
 ·replace h := j0 h hb
  refine a7 (fun _ hK_5' => ?_)
  refine a6 ?_
  refine wm ?_
  refine wv (OV.eql rfl rfl) ?_
  refine wA ?_
  refine WL.nil ?_
  refine kg (hK_5' [(0, st ([124] : List UInt8)), (1, st ([62, 62] : List UInt8)), (5, zI 2), (24, zB false)] _ ?_)
  refine d6 rfl ?_
  refine a7 (fun _ hK_6' => ?_)
  refine a6 ?_
  refine wm ?_
  refine wm ?_
  refine wv (OV.len rfl d5) ?_
  refine wv (OV.geq rfl rfl) ?_
  refine wA ?_
  refine WL.nil ?_
  refine kg (hK_6' [(0, st ([124] : List UInt8)), (1, st ([62, 62] : List UInt8)), (5, zI 2), (31, zB true)] _ ?_)
  refine g8 rfl ?_
  refine a7 (fun _ hK_7' => ?_)
  refine a6 ?_
  refine wA ?_
  refine WL.nil ?_
  refine kg (hK_7' [(4, zI (-1))] _ ?_)
  refine c9 ?_
  exact hE.ret [] rfl rfl (.inl ⟨_, h, rfl⟩) (e7.of1 rfl (RV.tmp rfl))
def aj5  (K : Int → Prop) : Prop :=
 (if (decide (([62, 62] : List UInt8) = ([38, 45] : List UInt8))) = true then
  K 0
 else
  K (-1))
theorem asp   (K : Int → Prop) (h : aj5  K) :
  d8 Tryd.prog 82 [st ([38, 45] : List UInt8), st ([62, 62] : List UInt8)] [] [] (fun o => (∃ (v : Int), K v ∧ o = .ret (zI v) []) ∨ (False)) := by
 unfold aj5 at h
 refine c7 (n := 143) (L0 := [(0, st ([38, 45] : List UInt8)), (1, st ([62, 62] : List UInt8))]) Tryd.func82 rfl rfl rfl rfl (fun w0 M Q hE => ?_)
 refine a7 (fun _ hK => ?_)
 refine a6 ?_
 refine wA ?_
 refine WL.nil ?_
 refine kg (hK [(0, st ([38, 45] : List UInt8)), (1, st ([62, 62] : List UInt8))] _ ?_)
 refine a7 (fun _ hK_1' => ?_)
 refine a6 ?_
 refine wm ?_
 refine wv (OV.len rfl d5) ?_
 refine wA ?_
 refine WL.nil ?_
 refine kg (hK_1' [(0, st ([38, 45] : List UInt8)), (1, st ([62, 62] : List UInt8)), (5, zI 2)] _ ?_)
 refine a7 (fun _ hK_2' => ?_)
 refine c6 ?_
 refine a7 (fun _ hK_3' => ?_)
 refine a6 ?_
 refine wm ?_
 refine wv (OV.eql rfl rfl) ?_
 refine wm ?_
 refine wm ?_
 refine wm ?_
 refine wv (OV.eqlS rfl rfl) ?_
 refine wv (OV.pickF rfl rfl) ?_
 refine wA ?_
 refine WL.nil ?_
 refine kg (hK_3' [(0, st ([38, 45] : List UInt8)), (1, st ([62, 62] : List UInt8)), (5, zI 2), (16, zB (decide (([62, 62] : List UInt8) = ([38, 45] : List UInt8))))] _ ?_)
 refine b8 (b := decide (([62, 62] : List UInt8) = ([38, 45] : List UInt8))) rfl (fun hb => ?_) (fun hb => ?_)
 ·replace h := j3 h hb
  refine a7 (fun _ hK_4' => ?_)
  refine a6 ?_
  refine wA ?_
  refine WL.nil ?_
  refine kg (hK_4' [(4, zI 0)] _ ?_)
  refine c9 ?_
  exact hE.ret [] rfl rfl (.inl ⟨_, h, rfl⟩) (e7.of1 rfl (RV.tmp rfl))
 ·replace h := j0 h hb
  refine a7 (fun _ hK_5' => ?_)
  refine a6 ?_
  refine wm ?_
  refine wv (OV.eql rfl rfl) ?_
  refine wA ?_
  refine WL.nil ?_
  refine kg (hK_5' [(0, st ([38, 45] : List UInt8)), (1, st ([62, 62] : List UInt8)), (5, zI 2), (24, zB false)] _ ?_)
  refine d6 rfl ?_
  refine a7 (fun _ hK_6' => ?_)
  refine a6 ?_
  refine wm ?_
  refine wm ?_
  refine wv (OV.len rfl d5) ?_
  refine wv (OV.geq rfl rfl) ?_
  refine wA ?_
  refine WL.nil ?_
  refine kg (hK_6' [(0, st ([38, 45] : List UInt8)), (1, st ([62, 62] : List UInt8)), (5, zI 2), (31, zB true)] _ ?_)
  refine g8 rfl ?_
  refine a7 (fun _ hK_7' => ?_)
  refine a6 ?_
  refine wA ?_
  refine WL.nil ?_
  refine kg (hK_7' [(4, zI (-1))] _ ?_)
  refine c9 ?_
  exact hE.ret [] rfl rfl (.inl ⟨_, h, rfl⟩) (e7.of1 rfl (RV.tmp rfl))
def akk  (K : Int → Prop) : Prop :=
 (if (decide (([62, 62] : List UInt8) = ([62, 62] : List UInt8))) = true then
  K 0
 else
  K (-1))
theorem asx   (K : Int → Prop) (h : akk  K) :
  d8 Tryd.prog 82 [st ([62, 62] : List UInt8), st ([62, 62] : List UInt8)] [] [] (fun o => (∃ (v : Int), K v ∧ o = .ret (zI v) []) ∨ (False)) := by
 unfold akk at h
 refine c7 (n := 143) (L0 := [(0, st ([62, 62] : List UInt8)), (1, st ([62, 62] : List UInt8))]) Tryd.func82 rfl rfl rfl rfl (fun w0 M Q hE => ?_)
 refine a7 (fun _ hK => ?_)
 refine a6 ?_
 refine wA ?_
 refine WL.nil ?_
 refine kg (hK [(0, st ([62, 62] : List UInt8)), (1, st ([62, 62] : List UInt8))] _ ?_)
 refine a7 (fun _ hK_1' => ?_)
 refine a6 ?_
 refine wm ?_
 refine wv (OV.len rfl d5) ?_
 refine wA ?_
 refine WL.nil ?_
 refine kg (hK_1' [(0, st ([62, 62] : List UInt8)), (1, st ([62, 62] : List UInt8)), (5, zI 2)] _ ?_)
 refine a7 (fun _ hK_2' => ?_)
 refine c6 ?_
 refine a7 (fun _ hK_3' => ?_)
 refine a6 ?_
 refine wm ?_
 refine wv (OV.eql rfl rfl) ?_
 refine wm ?_
 refine wm ?_
 refine wm ?_
 refine wv (OV.eqlS rfl rfl) ?_
 refine wv (OV.pickF rfl rfl) ?_
 refine wA ?_
 refine WL.nil ?_
 refine kg (hK_3' [(0, st ([62, 62] : List UInt8)), (1, st ([62, 62] : List UInt8)), (5, zI 2), (16, zB (decide (([62, 62] : List UInt8) = ([62, 62] : List UInt8))))] _ ?_)
 refine b8 (b := decide (([62, 62] : List UInt8) = ([62, 62] : List UInt8))) rfl (fun hb => ?_) (fun hb => ?_)
 ·replace h := j3 h hb
  refine a7 (fun _ hK_4' => ?_)
  refine a6 ?_
  refine wA ?_
  refine WL.nil ?_
  refine kg (hK_4' [(4, zI 0)] _ ?_)
  refine c9 ?_
  exact hE.ret [] rfl rfl (.inl ⟨_, h, rfl⟩) (e7.of1 rfl (RV.tmp rfl))
 ·replace h := j0 h hb
  refine a7 (fun _ hK_5' => ?_)
  refine a6 ?_
  refine wm ?_
  refine wv (OV.eql rfl rfl) ?_
  refine wA ?_
  refine WL.nil ?_
  refine kg (hK_5' [(0, st ([62, 62] : List UInt8)), (1, st ([62, 62] : List UInt8)), (5, zI 2), (24, zB false)] _ ?_)
  refine d6 rfl ?_
  refine a7 (fun _ hK_6' => ?_)
  refine a6 ?_
  refine wm ?_
  refine wm ?_
  refine wv (OV.len rfl d5) ?_
  refine wv (OV.geq rfl rfl) ?_
  refine wA ?_
  refine WL.nil ?_
  refine kg (hK_6' [(0, st ([62, 62] : List UInt8)), (1, st ([62, 62] : List UInt8)), (5, zI 2), (31, zB true)] _ ?_)
  refine g8 rfl ?_
  refine a7 (fun _ hK_7' => ?_)
  refine a6 ?_
  refine wA ?_
  refine WL.nil ?_
  refine kg (hK_7' [(4, zI (-1))] _ ?_)
  refine c9 ?_
  exact hE.ret [] rfl rfl (.inl ⟨_, h, rfl⟩) (e7.of1 rfl (RV.tmp rfl))
def aj0  (K : Int → Prop) : Prop :=
 (if (decide (([62, 62] : List UInt8) = ([126] : List UInt8))) = true then
  K 0
 else
  K (-1))
theorem asu   (K : Int → Prop) (h : aj0  K) :
  d8 Tryd.prog 82 [st ([126] : List UInt8), st ([62, 62] : List UInt8)] [] [] (fun o => (∃ (v : Int), K v ∧ o = .ret (zI v) []) ∨ (False)) := by
 unfold aj0 at h
 refine c7 (n := 143) (L0 := [(0, st ([126] : List UInt8)), (1, st ([62, 62] : List UInt8))]) Tryd.func82 rfl rfl rfl rfl (fun w0 M Q hE => ?_)
 refine a7 (fun _ hK => ?_)
 refine a6 ?_
 refine wA ?_
 refine WL.nil ?_
 refine kg (hK [(0, st ([126] : List UInt8)), (1, st ([62, 62] : List UInt8))] _ ?_)
 refine a7 (fun _ hK_1' => ?_)
 refine a6 ?_
 refine wm ?_
 refine wv (OV.len rfl d5) ?_
 refine wA ?_
 refine WL.nil ?_
 refine kg (hK_1' [(0, st ([126] : List UInt8)), (1, st ([62, 62] : List UInt8)), (5, zI 2)] _ ?_)
 refine a7 (fun _ hK_2' => ?_)
 refine c6 ?_
 refine a7 (fun _ hK_3' => ?_)
 refine a6 ?_
 refine wm ?_
 refine wv (OV.eql rfl rfl) ?_
 refine wm ?_
 refine wm ?_
 refine wm ?_
 refine wv (OV.eqlS rfl rfl) ?_
 refine wv (OV.pickF rfl rfl) ?_
 refine wA ?_
 refine WL.nil ?_
 refine kg (hK_3' [(0, st ([126] : List UInt8)), (1, st ([62, 62] : List UInt8)), (5, zI 2), (16, zB (decide (([62, 62] : List UInt8) = ([126] : List UInt8))))] _ ?_)
 refine b8 (b := decide (([62, 62] : List UInt8) = ([126] : List UInt8))) rfl (fun hb => ?_) (fun hb => ?_)
 ·replace h := j3 h hb
  refine a7 (fun _ hK_4' => ?_)
  refine a6 ?_
  refine wA ?_
  refine WL.nil ?_
  refine kg (hK_4' [(4, zI 0)] _ ?_)
  refine c9 ?_
  exact hE.ret [] rfl rfl (.inl ⟨_, h, rfl⟩) (e7.of1 rfl (RV.tmp rfl))
 ·replace h := j0 h hb
  refine a7 (fun _ hK_5' => ?_)
  refine a6 ?_
  refine wm ?_
  refine wv (OV.eql rfl rfl) ?_
  refine wA ?_
  refine WL.nil ?_
  refine kg (hK_5' [(0, st ([126] : List UInt8)), (1, st ([62, 62] : List UInt8)), (5, zI 2), (24, zB false)] _ ?_)
  refine d6 rfl ?_
  refine a7 (fun _ hK_6' => ?_)
  refine a6 ?_
  refine wm ?_
  refine wm ?_
  refine wv (OV.len rfl d5) ?_
  refine wv (OV.geq rfl rfl) ?_
  refine wA ?_
  refine WL.nil ?_
  refine kg (hK_6' [(0, st ([126] : List UInt8)), (1, st ([62, 62] : List UInt8)), (5, zI 2), (31, zB true)] _ ?_)
  refine g8 rfl ?_
  refine a7 (fun _ hK_7' => ?_)
  refine a6 ?_
  refine wA ?_
  refine WL.nil ?_
  refine kg (hK_7' [(4, zI (-1))] _ ?_)
  refine c9 ?_
  exact hE.ret [] rfl rfl (.inl ⟨_, h, rfl⟩) (e7.of1 rfl (RV.tmp rfl))
def ajx  (K : Int → Prop) : Prop :=
 (if (decide (([62, 62] : List UInt8) = ([46] : List UInt8))) = true then
  K 0
 else
  K (-1))
theorem asr   (K : Int → Prop) (h : ajx  K) :
  d8 Tryd.prog 82 [st ([46] : List UInt8), st ([62, 62] : List UInt8)] [] [] (fun o => (∃ (v : Int), K v ∧ o = .ret (zI v) []) ∨ (False)) := by
 unfold ajx at h
 refine c7 (n := 143) (L0 := [(0, st ([46] : List UInt8)), (1, st ([62, 62] : List UInt8))]) Tryd.func82 rfl rfl rfl rfl (fun w0 M Q hE => ?_)
 refine a7 (fun _ hK => ?_)
 refine a6 ?_
 refine wA ?_
 refine WL.nil ?_
 refine kg (hK [(0, st ([46] : List UInt8)), (1, st ([62, 62] : List UInt8))] _ ?_)
 refine a7 (fun _ hK_1' => ?_)
 refine a6 ?_
 refine wm ?_
 refine wv (OV.len rfl d5) ?_
 refine wA ?_
 refine WL.nil ?_
 refine kg (hK_1' [(0, st ([46] : List UInt8)), (1, st ([62, 62] : List UInt8)), (5, zI 2)] _ ?_)
 refine a7 (fun _ hK_2' => ?_)
 refine c6 ?_
 refine a7 (fun _ hK_3' => ?_)
 refine a6 ?_
 refine wm ?_
 refine wv (OV.eql rfl rfl) ?_
 refine wm ?_
 refine wm ?_
 refine wm ?_
 refine wv (OV.eqlS rfl rfl) ?_
 refine wv (OV.pickF rfl rfl) ?_
 refine wA ?_
 refine WL.nil ?_
 refine kg (hK_3' [(0, st ([46] : List UInt8)), (1, st ([62, 62] : List UInt8)), (5, zI 2), (16, zB (decide (([62, 62] : List UInt8) = ([46] : List UInt8))))] _ ?_)
 refine b8 (b := decide (([62, 62] : List UInt8) = ([46] : List UInt8))) rfl (fun hb => ?_) (fun hb => ?_)
 ·replace h := j3 h hb
  refine a7 (fun _ hK_4' => ?_)
  refine a6 ?_
  refine wA ?_
  refine WL.nil ?_
  refine kg (hK_4' [(4, zI 0)] _ ?_)
  refine c9 ?_
  exact hE.ret [] rfl rfl (.inl ⟨_, h, rfl⟩) (e7.of1 rfl (RV.tmp rfl))
 ·replace h := j0 h hb
  refine a7 (fun _ hK_5' => ?_)
  refine a6 ?_
  refine wm ?_
  refine wv (OV.eql rfl rfl) ?_
  refine wA ?_
  refine WL.nil ?_
  refine kg (hK_5' [(0, st ([46] : List UInt8)), (1, st ([62, 62] : List UInt8)), (5, zI 2), (24, zB false)] _ ?_)
  refine d6 rfl ?_
  refine a7 (fun _ hK_6' => ?_)
  refine a6 ?_
  refine wm ?_
  refine wm ?_
  refine wv (OV.len rfl d5) ?_
  refine wv (OV.geq rfl rfl) ?_
  refine wA ?_
  refine WL.nil ?_
  refine kg (hK_6' [(0, st ([46] : List UInt8)), (1, st ([62, 62] : List UInt8)), (5, zI 2), (31, zB true)] _ ?_)
  refine g8 rfl ?_
  refine a7 (fun _ hK_7' => ?_)
  refine a6 ?_
  refine wA ?_
  refine WL.nil ?_
  refine kg (hK_7' [(4, zI (-1))] _ ?_)
  refine c9 ?_
  exact hE.ret [] rfl rfl (.inl ⟨_, h, rfl⟩) (e7.of1 rfl (RV.tmp rfl))
def aik (p : Bs) : Prop := p = [124] ∨ p = [38, 45] ∨ p = [62, 62] ∨ p = [126] ∨ p = [46]
def ads (p : Bs) : Int := if p = [62, 62] then 0 else -1
theorem ao7 (p q : Bs) (h : aik p ∧ q = [62, 62]) : d8 Tryd.prog 82 [st p, st q] [] [] (Ret (.int .i64 (ads p)) []) := by
 obtain ⟨h, rfl⟩ := h
 rcases h with rfl | rfl | rfl | rfl | rfl
 ·refine d8.one (e := fun v => .int .i64 v) (as3 (fun v => v = ads [124]) ?_)
  unfold aj6; rw [if_neg (by decide)]; rfl
 ·refine d8.one (e := fun v => .int .i64 v) (asp (fun v => v = ads [38, 45]) ?_)
  unfold aj5; rw [if_neg (by decide)]; rfl
 ·refine d8.one (e := fun v => .int .i64 v) (asx (fun v => v = ads [62, 62]) ?_)
  unfold akk; rw [if_pos (by decide)]; rfl
 ·refine d8.one (e := fun v => .int .i64 v) (asu (fun v => v = ads [126]) ?_)
  unfold aj0; rw [if_neg (by decide)]; rfl
 ·refine d8.one (e := fun v => .int .i64 v) (asr (fun v => v = ads [46]) ?_)
  unfold ajx; rw [if_neg (by decide)]; rfl
def agf (s : List UInt8) (substr : List UInt8) (K : Int → Prop) : Prop :=
 (aik s ∧ substr = [62, 62]) ∧
 K (ads s)
theorem apz  (s : List UInt8) (substr : List UInt8) (K : Int → Prop) (h : agf s substr K) :
  d8 Tryd.prog 77 [st s, st substr] [] [] (fun o => (∃ (v : Int), K v ∧ o = .ret (zI v) []) ∨ (False)) := by
 unfold agf at h
 refine c7 (n := 8) (L0 := [(0, st s), (1, st substr)]) Tryd.func77 rfl rfl rfl rfl (fun w0 M Q hE => ?_)
 refine a7 (fun _ hK => ?_)
 refine a6 ?_
 refine wA ?_
 refine WL.nil ?_
 refine kg (hK [(0, st s), (1, st substr)] _ ?_)
 refine a7 (fun _ hK_1' => ?_)
 refine a6 ?_
 refine wm ?_
 refine wm ?_
 obtain ⟨o, h⟩ := h
 refine WL.call (A := []) apc rfl (ao7 s substr o) rfl trivial rfl rfl ?_
 refine wA ?_
 refine WL.nil ?_
 refine kg (hK_1' [(4, zI (ads s))] _ ?_)
 refine c9 ?_
 exact hE.ret [] rfl rfl (.inl ⟨_, h, rfl⟩) (e7.of1 rfl (RV.tmp rfl))
theorem alq (p q : Bs) (h : aik p ∧ q = [62, 62]) : d8 Tryd.prog 77 [st p, st q] [] [] (Ret (.int .i64 (ads p)) []) := by
 refine d8.one (e := fun v => .int .i64 v) (apz p q (fun v => v = ads p) ?_)
 unfold agf
 exact ⟨h, rfl⟩
def ah1 (s : List UInt8) (substr : List UInt8) (K : Bool → Prop) : Prop :=
 (aik s ∧ substr = [62, 62]) ∧
 K (decide (0 ≤ ads s))
theorem arz  (s : List UInt8) (substr : List UInt8) (K : Bool → Prop) (h : ah1 s substr K) :
  d8 Tryd.prog 71 [st s, st substr] [] [] (fun o => (∃ (v : Bool), K v ∧ o = .ret (zB v) []) ∨ (False)) := by
 unfold ah1 at h
 refine c7 (n := 9) (L0 := [(0, st s), (1, st substr)]) Tryd.func71 rfl rfl rfl rfl (fun w0 M Q hE => ?_)
 refine a7 (fun _ hK => ?_)
 refine a6 ?_
 refine wA ?_
 refine WL.nil ?_
 refine kg (hK [(0, st s), (1, st substr)] _ ?_)
 refine a7 (fun _ hK_1' => ?_)
 refine a6 ?_
 refine wm ?_
 refine wm ?_
 obtain ⟨o, h⟩ := h
 refine WL.call (A := []) ap1 rfl (alq s substr o) rfl trivial rfl rfl ?_
 refine wv (OV.geq rfl rfl) ?_
 refine wA ?_
 refine WL.nil ?_
 refine kg (hK_1' [(4, zB (decide (0 ≤ ads s)))] _ ?_)
 refine c9 ?_
 exact hE.ret [] rfl rfl (.inl ⟨_, h, rfl⟩) (e7.of1 rfl (RV.tmp rfl))
def d9 (p q : Bs) : Bool := if q = [62, 62] then decide (p = [62, 62]) else decide (0 ≤ Lib.indexByte p (q.getD 0 0))
def ah2 (p q : Bs) : Prop := aik p ∧ (q = [62, 62] ∨ ∃ c, q = [c])
theorem t8 (p q : Bs) (h : ah2 p q) : d8 Tryd.prog 71 [st p, st q] [] [] (Ret (.bool (d9 p q)) []) := by
 obtain ⟨h5, rfl | ⟨c, rfl⟩⟩ := h
 ·refine d8.one (e := fun v => .bool v) (arz p [62, 62] (fun v => v = d9 p [62, 62]) ?_)
  unfold ah1
  refine ⟨⟨h5, rfl⟩, ?_⟩
  rcases h5 with rfl | rfl | rfl | rfl | rfl <;> decide
 ·have hc : d9 p [c] = decide (0 ≤ Lib.indexByte p c) := by
   unfold d9; rw [if_neg (by simp)]; rfl
  rw [hc]
  exact d8.ofPure fun w => (Tryd.strings_Contains_one ⟨p.toArray⟩ c w).mono fun _ _ ⟨h1, h2⟩ => by subst h2; exact ⟨h1, Below.refl _ _⟩
end Go.Proofs.YtifajndacnfcbaaDoor
