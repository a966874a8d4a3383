/-
  Merged: SyNc.
-/
import Derived.Test.YtifajndacnfcbaaDoorSq8
set_option maxRecDepth 100000
namespace Go.Proofs.YtifajndacnfcbaaDoor
open Go Go.RowKit
theorem asg : k9 Tryd.prog 51 = true := by kernel_rfl
theorem ar4 : k9 Tryd.prog 52 = true := by kernel_rfl
theorem adb : k9 Tryd.prog 22 = true := by kernel_rfl
theorem aat : slB Tryd.prog 67 3 1 = true := by kernel_rfl
theorem acm : k9 Tryd.prog 53 = true := by kernel_rfl
theorem asc : k9 Tryd.prog 69 = true := by kernel_rfl
theorem alz : k9 Tryd.prog 19 = true := by kernel_rfl
theorem abb : k9 Tryd.prog 21 = true := by kernel_rfl
theorem asf : afi Tryd.prog 3 = some ([zI 0], 1, 8) := by kernel_rfl
def aia (ts : List Tok) (ns : List NdV) (k0 : Int) (op0 : Int) (er0 : Int) (ea0 : Int) (dv0 : Value) (mn0 : Int) (B0 : List (Nat × Obj)) (rank : Int) (K : Int → Int → Int → Int → Int → Value → Int → (List Tok) → (List NdV) → (List (Nat × Obj)) → Prop) : Prop :=
 (awk ts k0 er0) ∧
 (RP ts k0 op0 er0 ns) ∧
 (∀ (i : Int) (k : Int) (op : Int) (er : Int) (ea : Int) (nl : List NdV) (B : List (Nat × Obj)), aad (sP ts (k0.toNat, op0)) ts B0 ns k0 op0 er0 ea0 i k op er ea nl B →
  ∃ (Inv : Int → Int → Int → Int → Int → (List NdV) → (List (Nat × Obj)) → Prop) (mu : Int → Int → Int → Int → Int → (List NdV) → (List (Nat × Obj)) → Nat),
   Inv i k op er ea nl B ∧ ∀ (a_1' : Int) (s_1_1' : Int) (s_2_1' : Int) (s_3_1' : Int) (s_4_1' : Int) (l_1' : List NdV) (c_1' : List (Nat × Obj)), Inv a_1' s_1_1' s_2_1' s_3_1' s_4_1' l_1' c_1' →
    ((decide (s_3_1' = 0)) = true → (0 ≤ s_1_1' ∧ s_1_1' < (ts.length : Int))) ∧
    (if ((decide (s_3_1' = 0)) && (decide ((ts.getD (s_1_1').toNat default).1 = 4))) = true then
     (0 ≤ s_1_1' ∧ s_1_1' < (ts.length : Int)) ∧
     (if (decide (d8 ((ts.getD (s_1_1').toNat default).2.2) < rank)) = true then
      K a_1' s_1_1' s_2_1' s_3_1' s_4_1' dv0 mn0 ts l_1' c_1'
     else
      (0 ≤ s_1_1' ∧ s_1_1' < (ts.length : Int)) ∧
      (I64 (s_1_1' + 1)) ∧
      (I64 ((d8 ((ts.getD (s_1_1').toNat default).2.2)) + 1)) ∧
      (aic ts (s_1_1' + 1) s_3_1' ((d8 ((ts.getD (s_1_1').toNat default).2.2)) + 1)) ∧
      (RP ts (s_1_1' + 1) s_2_1' s_3_1' l_1' ∧ 0 ≤ ((d8 ((ts.getD (s_1_1').toNat default).2.2)) + 1) ∧ ((d8 ((ts.getD (s_1_1').toNat default).2.2)) + 1) ≤ 5) ∧
      (∀ (i_3' : Int) (k_3' : Int) (op_3' : Int) (er_3' : Int) (ea_3' : Int) (nl_3' : List NdV) (B_3' : List (Nat × Obj)), aad (sE ts ((d8 ((ts.getD (s_1_1').toNat default).2.2)) + 1).toNat ((s_1_1' + 1).toNat, s_2_1')) ts c_1' l_1' (s_1_1' + 1) s_2_1' s_3_1' s_4_1' i_3' k_3' op_3' er_3' ea_3' nl_3' B_3' →
       ∀ (b_2' : Nat) (R_2' : List (Nat × Obj)), q8 (Value.slice (some ⟨b_2', 0, none⟩) 2 2) 3 1 [a_1', i_3'].length ([a_1', i_3'].flatMap z7) R_2' →
       (nl_3'.length ≤ 20000) ∧
       ((Value.slice (some ⟨b_2', 0, none⟩) 2 2).oneCell' = true) ∧
       (
        Inv (nl_3'.length : Int) k_3' op_3' er_3' ea_3' (nl_3' ++ [(((7 : Int), ((ts.getD (s_1_1').toNat default).2.1), (ts.getD (s_1_1').toNat default).2.2, Value.slice (some ⟨b_2', 0, none⟩) 2 2) : NdV)]) (R_2' ++ B_3') ∧ mu (nl_3'.length : Int) k_3' op_3' er_3' ea_3' (nl_3' ++ [(((7 : Int), ((ts.getD (s_1_1').toNat default).2.1), (ts.getD (s_1_1').toNat default).2.2, Value.slice (some ⟨b_2', 0, none⟩) 2 2) : NdV)]) (R_2' ++ B_3') < mu a_1' s_1_1' s_2_1' s_3_1' s_4_1' l_1' c_1')))
    else
     K a_1' s_1_1' s_2_1' s_3_1' s_4_1' dv0 mn0 ts l_1' c_1'))
theorem apd (pb : Nat) (wa : Value) (wn : Value) (ts : List Tok) (ns : List NdV) (k0 : Int) (op0 : Int) (er0 : Int) (ea0 : Int) (dv0 : Value) (mn0 : Int) (B0 : List (Nat × Obj)) (rank : Int) (K : Int → Int → Int → Int → Int → Value → Int → (List Tok) → (List NdV) → (List (Nat × Obj)) → Prop) (h : aia ts ns k0 op0 er0 ea0 dv0 mn0 B0 rank K) :
  d9 Tryd.prog 22 [zP pb, zI rank] [] [HA.blk pb (.cells [wa, zI k0, zI op0, zI er0, zI ea0, wn, dv0, zI mn0].toArray 62 (0, 0)), HA.row wa 64 3 ts.length (ts.flatMap e6), HA.row wn 69 4 ns.length (ns.flatMap ndC), pool B0] (fun o => (∃ (v : Int) (d_2' : Int) (d_3' : Int) (d_4' : Int) (d_5' : Int) (d_6' : Value) (d_7' : Int) (d : List Tok) (w_10' : Value) (d_1' : List NdV) (D : List (Nat × Obj)), K v d_2' d_3' d_4' d_5' d_6' d_7' d d_1' D ∧ o = .ret (zI v) [HA.blk pb (.cells [wa, zI d_2', zI d_3', zI d_4', zI d_5', w_10', d_6', zI d_7'].toArray 62 (0, 0)), HA.row wa 64 3 d.length (d.flatMap e6), HA.row w_10' 69 4 d_1'.length (d_1'.flatMap ndC), pool D]) ∨ (False)) := by
 unfold aia at h
 refine c8 (n := 78) (L0 := [(0, zP pb), (1, zI rank)]) Tryd.func22 rfl rfl rfl rfl (fun w0 M Q hE => ?_)
 refine a7 (fun _ hK => ?_)
 refine a6 ?_
 refine wA ?_
 refine WL.nil ?_
 refine kg (hK [(0, zP pb), (1, zI rank)] _ ?_)
 refine a7 (fun _ hK_1' => ?_)
 refine a6 ?_
 refine wm ?_
 obtain ⟨o, h⟩ := h
 obtain ⟨o_1', h⟩ := h
 refine WL.callS asg rfl (o pb wa wn ns op0 ea0 dv0 mn0 B0 o_1') rfl trivial rfl rfl (fun r H' hS => ?_) (fun c H' hS => ?_)
 ·obtain ⟨w, i, k, op, er, ea, nl, B, hc, ho⟩ := hS
  cases ho
  replace h := h i k op er ea nl B hc
  refine wA ?_
  refine WL.nil ?_
  refine kg (hK_1' [(0, zP pb), (1, zI rank), (5, zI i)] _ ?_)
  refine a7 (fun _ hK_2' => ?_)
  refine b7 ?_
  obtain ⟨Inv, mu, h0, hr⟩ := h
  refine o7 (S := Int × Int × Int × Int × Int × Value × (List NdV) × (List (Nat × Obj))) (fun σ => Inv σ.1 σ.2.1 σ.2.2.1 σ.2.2.2.1 σ.2.2.2.2.1 σ.2.2.2.2.2.2.1 σ.2.2.2.2.2.2.2) (fun σ => mu σ.1 σ.2.1 σ.2.2.1 σ.2.2.2.1 σ.2.2.2.2.1 σ.2.2.2.2.2.2.1 σ.2.2.2.2.2.2.2) (fun σ => [(0, zP pb), (1, zI rank), (5, zI σ.1)]) (fun σ => [HA.blk pb (.cells [wa, zI σ.2.1, zI σ.2.2.1, zI σ.2.2.2.1, zI σ.2.2.2.2.1, σ.2.2.2.2.2.1, dv0, zI mn0].toArray 62 (0, 0)), HA.row wa 64 3 ts.length (ts.flatMap e6), HA.row σ.2.2.2.2.2.1 69 4 σ.2.2.2.2.2.2.1.length (σ.2.2.2.2.2.2.1.flatMap ndC), pool σ.2.2.2.2.2.2.2]) (i, k, op, er, ea, w, nl, B) h0 ⟨rfl, rfl, rfl, trivial⟩ rfl ?_
  rintro ⟨a_1', s_1_1', s_2_1', s_3_1', s_4_1', w_6', l_1', c_1'⟩ hi K0_25' hK_25'
  have h := hr a_1' s_1_1' s_2_1' s_3_1' s_4_1' l_1' c_1' hi
  show WC _ _ _ _ [(0, zP pb), (1, zI rank), (5, zI a_1')] [HA.blk pb (.cells [wa, zI s_1_1', zI s_2_1', zI s_3_1', zI s_4_1', w_6', dv0, zI mn0].toArray 62 (0, 0)), HA.row wa 64 3 ts.length (ts.flatMap e6), HA.row w_6' 69 4 l_1'.length (l_1'.flatMap ndC), pool c_1']
  refine a7 (fun _ hK_26' => ?_)
  refine a7 (fun _ hK_27' => ?_)
  refine l8 [] f0 (by kernel_rfl) rfl (fun T_6' hT_6' => ?_)
  refine fv (fun _ => OV.move rfl) ?_
  refine fv (fun _ => OV.nilCheck rfl) ?_
  refine fv (fun _ => OV.fieldAddr0 rfl q9) ?_
  refine fv (fun _ => OV.load rfl (At.own 0 rfl) rfl a8) ?_
  refine fv (fun _ => OV.eql rfl rfl) ?_
  refine fv (fun _ => OV.move rfl) ?_
  obtain ⟨o_23', h⟩ := h
  refine FL.cut 13 rfl (fun _ => [(0, zP pb), (1, zI rank), (5, zI a_1'), (30, zB ((decide (s_3_1' = 0)) && (decide ((ts.getD (s_1_1').toNat default).1 = 4))))]) ?_ (fun K0_28' hK_28' => ?_)
  rotate_left
  ·refine FL.split (decide (s_3_1' = 0)) (fun hb => ?_) (fun hb => ?_)
   ·have o_22' := o_23' hb
    refine FL.set 17 (fun _ => rfl) (congrArg zB hb) ?_
    refine fv (fun _ => OV.move rfl) ?_
    refine fv (fun _ => OV.nilCheck rfl) ?_
    refine fv (fun _ => OV.fieldAddr0 rfl l0) ?_
    refine fv (fun _ => OV.load rfl (At.own 0 rfl) rfl p8) ?_
    refine fv (fun _ => OV.move rfl) ?_
    refine fv (fun _ => OV.nilCheck rfl) ?_
    refine fv (fun _ => OV.fieldAddr0 rfl e7) ?_
    refine fv (fun _ => OV.load rfl (At.own 0 rfl) rfl a8) ?_
    refine fv (fun _ => OV.indexRow 1 rfl rfl rfl r9 o_22') ?_
    refine fv (fun _ => OV.fieldAddr rfl m6) ?_
    refine fv (fun _ => OV.loadEF (f := e6) (o := 0) 1 rfl rfl p9 (by omega) rfl a8) ?_
    refine fv (fun _ => OV.eql rfl rfl) ?_
    refine fv (fun _ => OV.pickT rfl rfl) ?_
    refine FL.set 30 (fun _ => rfl) (bT (v := decide ((ts.getD (s_1_1').toNat default).1 = 4)) hb) ?_
    exact FL.weak (L' := fun _ => [(0, zP pb), (1, zI rank), (5, zI a_1'), (30, zB ((decide (s_3_1' = 0)) && (decide ((ts.getD (s_1_1').toNat default).1 = 4))))]) (fun _ => ⟨rfl, rfl, rfl, rfl, trivial⟩) (FL.nil hK_28')
   ·refine FL.set 17 (fun _ => rfl) (congrArg zB hb) ?_
    refine FL.skip rfl (fun _ => rfl) rfl rfl ?_
    refine FL.skip rfl (fun _ => rfl) rfl rfl ?_
    refine FL.skip rfl (fun _ => rfl) rfl rfl ?_
    refine FL.skip rfl (fun _ => rfl) rfl rfl ?_
    refine FL.skip rfl (fun _ => rfl) rfl rfl ?_
    refine FL.skip rfl (fun _ => rfl) rfl rfl ?_
    refine FL.skip rfl (fun _ => rfl) rfl rfl ?_
    refine FL.skip rfl (fun _ => rfl) rfl rfl ?_
    refine FL.skip rfl (fun _ => rfl) rfl rfl ?_
    refine FL.skip rfl (fun _ => rfl) rfl rfl ?_
    refine FL.skip rfl (fun _ => rfl) rfl rfl ?_
    refine FL.skip rfl (fun _ => rfl) rfl rfl ?_
    refine fv (fun _ => OV.pickF rfl rfl) ?_
    refine FL.set 30 (fun _ => rfl) (bF (v := decide ((ts.getD (s_1_1').toNat default).1 = 4)) hb) ?_
    exact FL.weak (L' := fun _ => [(0, zP pb), (1, zI rank), (5, zI a_1'), (30, zB ((decide (s_3_1' = 0)) && (decide ((ts.getD (s_1_1').toNat default).1 = 4))))]) (fun _ => ⟨rfl, rfl, rfl, rfl, trivial⟩) (FL.nil hK_28')
  refine FL.weak (L' := fun _ => [(0, zP pb), (1, zI rank), (5, zI a_1'), (30, zB ((decide (s_3_1' = 0)) && (decide ((ts.getD (s_1_1').toNat default).1 = 4))))]) (fun _ => ⟨rfl, rfl, rfl, rfl, trivial⟩) (FL.nil (hT_6' (fun _ => [(0, zP pb), (1, zI rank), (5, zI a_1'), (30, zB ((decide (s_3_1' = 0)) && (decide ((ts.getD (s_1_1').toNat default).1 = 4))))]) (fun _ => ?_)))
  refine kg (hK_27' [(0, zP pb), (1, zI rank), (5, zI a_1'), (30, zB ((decide (s_3_1' = 0)) && (decide ((ts.getD (s_1_1').toNat default).1 = 4))))] _ ?_)
  refine b5 (b := (decide (s_3_1' = 0)) && (decide ((ts.getD (s_1_1').toNat default).1 = 4))) rfl (fun hb => ?_) (fun hb => ?_)
  ·replace h := e8 h hb
   refine b6 ?_
   refine kg (hK_26' [(0, zP pb), (1, zI rank), (5, zI a_1')] _ ?_)
   refine b7 ?_
   refine a7 (fun _ hK_29' => ?_)
   refine m0 8 [] f0 (by kernel_rfl) rfl (fun T_7' hT_7' => ?_)
   refine fv (fun _ => OV.move rfl) ?_
   refine fv (fun _ => OV.nilCheck rfl) ?_
   refine fv (fun _ => OV.fieldAddr0 rfl l0) ?_
   refine fv (fun _ => OV.load rfl (At.own 0 rfl) rfl p8) ?_
   refine fv (fun _ => OV.move rfl) ?_
   refine fv (fun _ => OV.nilCheck rfl) ?_
   refine fv (fun _ => OV.fieldAddr0 rfl e7) ?_
   refine fv (fun _ => OV.load rfl (At.own 0 rfl) rfl a8) ?_
   refine FL.weak (L' := fun γ => [(0, zP pb), (1, zI rank), (5, zI a_1'), (34, wa), (38, zI s_1_1')]) (fun γ => ⟨rfl, rfl, rfl, rfl, rfl, trivial⟩) (FL.nil (hT_7' (fun γ => [(0, zP pb), (1, zI rank), (5, zI a_1'), (34, wa), (38, zI s_1_1')]) (fun γ => ?_)))
   obtain ⟨o_24', h⟩ := h
   refine wv (OV.indexRow 1 rfl rfl rfl r9 o_24') ?_
   refine wv (OV.fieldAddr rfl l3) ?_
   refine wv (OV.loadEF (f := e6) (o := 2) 1 rfl rfl p9 (by omega) rfl c7) ?_
   refine wA ?_
   refine WL.nil ?_
   refine kg (hK_29' [(0, zP pb), (1, zI rank), (5, zI a_1'), (6, st ((ts.getD (s_1_1').toNat default).2.2))] _ ?_)
   refine a7 (fun _ hK_30' => ?_)
   refine a6 ?_
   refine wm ?_
   refine WL.call (A := []) ar4 rfl (aq4 ((ts.getD (s_1_1').toNat default).2.2)) rfl trivial rfl rfl ?_
   refine wA ?_
   refine WL.nil ?_
   refine kg (hK_30' [(0, zP pb), (1, zI rank), (5, zI a_1'), (6, st ((ts.getD (s_1_1').toNat default).2.2)), (7, zI (d8 ((ts.getD (s_1_1').toNat default).2.2)))] _ ?_)
   refine a7 (fun _ hK_31' => ?_)
   refine a7 (fun _ hK_32' => ?_)
   refine a6 ?_
   refine wm ?_
   refine wm ?_
   refine wv (OV.lss rfl rfl) ?_
   refine WL.nil ?_
   refine kg (hK_32' [(0, zP pb), (1, zI rank), (5, zI a_1'), (6, st ((ts.getD (s_1_1').toNat default).2.2)), (7, zI (d8 ((ts.getD (s_1_1').toNat default).2.2))), (46, zB (decide (d8 ((ts.getD (s_1_1').toNat default).2.2) < rank)))] _ ?_)
   refine b5 (b := decide (d8 ((ts.getD (s_1_1').toNat default).2.2) < rank)) rfl (fun hb => ?_) (fun hb => ?_)
   ·replace h := e8 h hb
    refine a7 (fun _ hK_33' => ?_)
    refine a6 ?_
    refine wm ?_
    refine wA ?_
    refine WL.nil ?_
    refine kg (hK_33' [(4, zI a_1')] _ ?_)
    refine b8 ?_
    exact hE.ret [0, 1, 2, 3] rfl rfl (.inl ⟨_, _, _, _, _, _, _, _, _, _, _, h, rfl⟩) (d7.of1 rfl (RV.tmp rfl))
   ·replace h := e9 h hb
    refine b6 ?_
    refine kg (hK_31' [(0, zP pb), (1, zI rank), (5, zI a_1'), (6, st ((ts.getD (s_1_1').toNat default).2.2)), (7, zI (d8 ((ts.getD (s_1_1').toNat default).2.2)))] _ ?_)
    refine a7 (fun _ hK_34' => ?_)
    refine m0 8 [] f0 (by kernel_rfl) rfl (fun T_8' hT_8' => ?_)
    refine fv (fun _ => OV.move rfl) ?_
    refine fv (fun _ => OV.nilCheck rfl) ?_
    refine fv (fun _ => OV.fieldAddr0 rfl l0) ?_
    refine fv (fun _ => OV.load rfl (At.own 0 rfl) rfl p8) ?_
    refine fv (fun _ => OV.move rfl) ?_
    refine fv (fun _ => OV.nilCheck rfl) ?_
    refine fv (fun _ => OV.fieldAddr0 rfl e7) ?_
    refine fv (fun _ => OV.load rfl (At.own 0 rfl) rfl a8) ?_
    refine FL.weak (L' := fun γ => [(0, zP pb), (1, zI rank), (5, zI a_1'), (6, st ((ts.getD (s_1_1').toNat default).2.2)), (7, zI (d8 ((ts.getD (s_1_1').toNat default).2.2))), (51, wa), (55, zI s_1_1')]) (fun γ => ⟨rfl, rfl, rfl, rfl, rfl, rfl, rfl, trivial⟩) (FL.nil (hT_8' (fun γ => [(0, zP pb), (1, zI rank), (5, zI a_1'), (6, st ((ts.getD (s_1_1').toNat default).2.2)), (7, zI (d8 ((ts.getD (s_1_1').toNat default).2.2))), (51, wa), (55, zI s_1_1')]) (fun γ => ?_)))
    obtain ⟨o_25', h⟩ := h
    refine wv (OV.indexRow 1 rfl rfl rfl r9 o_25') ?_
    refine wv (OV.fieldAddr rfl s8) ?_
    refine wv (OV.loadEF (f := e6) (o := 1) 1 rfl rfl p9 (by omega) rfl a8) ?_
    refine wA ?_
    refine WL.nil ?_
    refine kg (hK_34' [(0, zP pb), (1, zI rank), (5, zI a_1'), (6, st ((ts.getD (s_1_1').toNat default).2.2)), (7, zI (d8 ((ts.getD (s_1_1').toNat default).2.2))), (8, zI ((ts.getD (s_1_1').toNat default).2.1))] _ ?_)
    refine a7 (fun _ hK_35' => ?_)
    refine a6 ?_
    refine wm ?_
    refine wv (OV.nilCheck rfl) ?_
    refine wv (OV.fieldAddr0 rfl e7) ?_
    refine wv (OV.load rfl (At.own 0 rfl) rfl a8) ?_
    obtain ⟨o_26', h⟩ := h
    refine wv (OV.add rfl rfl o_26') ?_
    refine wv (OV.nilCheck rfl) ?_
    refine wv (OV.fieldAddr0 rfl e7) ?_
    refine WL.store (vs := [zI (s_1_1' + 1)]) (cs' := [wa, zI (s_1_1' + 1), zI s_2_1', zI s_3_1', zI s_4_1', w_6', dv0, zI mn0]) 0 rfl rfl rfl rfl f9 (Nat.le_of_ble_eq_true rfl) rfl rfl rfl ?_
    refine WL.nil ?_
    refine kg (hK_35' [(0, zP pb), (1, zI rank), (5, zI a_1'), (6, st ((ts.getD (s_1_1').toNat default).2.2)), (7, zI (d8 ((ts.getD (s_1_1').toNat default).2.2))), (8, zI ((ts.getD (s_1_1').toNat default).2.1))] _ ?_)
    refine a7 (fun _ hK_36' => ?_)
    refine a6 ?_
    refine wm ?_
    refine wm ?_
    obtain ⟨o_27', h⟩ := h
    refine wv (OV.add rfl rfl o_27') ?_
    obtain ⟨o_28', h⟩ := h
    obtain ⟨o_29', h⟩ := h
    refine WL.callS adb rfl (o_28' pb wa w_6' l_1' s_2_1' s_4_1' dv0 mn0 c_1' o_29') rfl trivial rfl rfl (fun r H' hS => ?_) (fun c H' hS => ?_)
    ·obtain ⟨w_7', i_3', k_3', op_3', er_3', ea_3', nl_3', B_3', hc, ho⟩ := hS
     cases ho
     replace h := h i_3' k_3' op_3' er_3' ea_3' nl_3' B_3' hc
     refine wA ?_
     refine WL.nil ?_
     refine kg (hK_36' [(0, zP pb), (1, zI rank), (5, zI a_1'), (6, st ((ts.getD (s_1_1').toNat default).2.2)), (8, zI ((ts.getD (s_1_1').toNat default).2.1)), (9, zI i_3')] _ ?_)
     refine a6 ?_
     refine wm ?_
     refine wm ?_
     refine wm ?_
     refine wm ?_
     refine wm ?_
     refine WL.make (MV.buildSlice (cs := [zI a_1', zI i_3']) rfl aat (by kernel_rfl)) rfl rfl rfl (fun b_2' => ?_)
     refine WL.asRow (f := z7) (ms := [a_1', i_3']) 0 rfl rfl rfl ab6 rfl ?_
     refine WL.pick (H' := [HA.row (Value.slice (some ⟨b_2', 0, none⟩) 2 2) 3 1 [a_1', i_3'].length ([a_1', i_3'].flatMap z7), pool B_3', HA.blk pb (.cells [wa, zI k_3', zI op_3', zI er_3', zI ea_3', w_7', dv0, zI mn0].toArray 62 (0, 0)), HA.row wa 64 3 ts.length (ts.flatMap e6), HA.row w_7' 69 4 nl_3'.length (nl_3'.flatMap ndC)]) [0, 4, 1, 2, 3] rfl rfl ?_
     refine WL.absorbRow0 (fun R_2' hl_2' => ?_)
     replace h := h b_2' R_2' hl_2'
     obtain ⟨o_30', h⟩ := h
     obtain ⟨o_31', h⟩ := h
     refine WL.pick (H' := [HA.blk pb (.cells [wa, zI k_3', zI op_3', zI er_3', zI ea_3', w_7', dv0, zI mn0].toArray 62 (0, 0)), HA.row wa 64 3 ts.length (ts.flatMap e6), HA.row w_7' 69 4 nl_3'.length (nl_3'.flatMap ndC), pool (R_2' ++ B_3')]) [1, 2, 3, 0] rfl rfl ?_
     refine WL.callS acm rfl (aci pb wa ts w_7' nl_3' k_3' op_3' er_3' ea_3' dv0 mn0 (R_2' ++ B_3') (7 : Int) ((ts.getD (s_1_1').toNat default).2.1) ((ts.getD (s_1_1').toNat default).2.2) (Value.slice (some ⟨b_2', 0, none⟩) 2 2) o_30' o_31') rfl trivial rfl rfl (fun r H' hS => ?_) (fun c H' hS => ?_)
     ·obtain ⟨w_8', ho⟩ := hS
      cases ho
      refine wA ?_
      refine WL.nil ?_
      exact kh (hK_25' ((nl_3'.length : Int), k_3', op_3', er_3', ea_3', w_8', nl_3' ++ [(((7 : Int), ((ts.getD (s_1_1').toNat default).2.1), (ts.getD (s_1_1').toNat default).2.2, Value.slice (some ⟨b_2', 0, none⟩) 2 2) : NdV)], (R_2' ++ B_3')) h.1 h.2) [0, 1, 2, 3]
     ·obtain ⟨w_8', ho⟩ := hS
      cases ho
    ·obtain ⟨w_7', i_3', k_3', op_3', er_3', ea_3', nl_3', B_3', hc, ho⟩ := hS
     cases ho
  ·replace h := e9 h hb
   refine l4 ?_
   refine kg (hK_2' [(5, zI a_1')] _ ?_)
   refine a7 (fun _ hK_37' => ?_)
   refine a6 ?_
   refine wm ?_
   refine wA ?_
   refine WL.nil ?_
   refine kg (hK_37' [(4, zI a_1')] _ ?_)
   refine b8 ?_
   exact hE.ret [0, 1, 2, 3] rfl rfl (.inl ⟨_, _, _, _, _, _, _, _, _, _, _, h, rfl⟩) (d7.of1 rfl (RV.tmp rfl))
 ·obtain ⟨w, i, k, op, er, ea, nl, B, hc, ho⟩ := hS
  cases ho
def aii (ts : List Tok) (ns : List NdV) (k0 : Int) (op0 : Int) (er0 : Int) (ea0 : Int) (dv0 : Value) (mn0 : Int) (B0 : List (Nat × Obj)) (K : Int → Int → Int → Int → Int → Value → Int → (List Tok) → (List NdV) → (List (Nat × Obj)) → Prop) : Prop :=
 (aw6 ts k0 er0) ∧
 (RP ts k0 op0 er0 ns) ∧
 (∀ (i : Int) (k : Int) (op : Int) (er : Int) (ea : Int) (nl : List NdV) (B : List (Nat × Obj)), aad (sA ts (k0.toNat, op0)) ts B0 ns k0 op0 er0 ea0 i k op er ea nl B →
  ∃ (Inv : Int → Int → (List NdV) → (List (Nat × Obj)) → Prop) (mu : Int → Int → (List NdV) → (List (Nat × Obj)) → Nat),
   Inv i k nl B ∧ ∀ (a_1' : Int) (s_1_1' : Int) (l_1' : List NdV) (c_1' : List (Nat × Obj)), Inv a_1' s_1_1' l_1' c_1' →
    (0 ≤ s_1_1' ∧ s_1_1' < (ts.length : Int)) ∧
    ((o9 ts s_1_1' er ([42] : List UInt8)) = false → (0 ≤ s_1_1' ∧ s_1_1' < (ts.length : Int))) ∧
    (((o9 ts s_1_1' er ([42] : List UInt8)) || (o9 ts s_1_1' er ([43] : List UInt8))) = false → (0 ≤ s_1_1' ∧ s_1_1' < (ts.length : Int))) ∧
    (if (((o9 ts s_1_1' er ([42] : List UInt8)) || (o9 ts s_1_1' er ([43] : List UInt8))) || (o9 ts s_1_1' er ([63] : List UInt8))) = true then
     (0 ≤ s_1_1' ∧ s_1_1' < (ts.length : Int)) ∧
     (0 ≤ s_1_1' ∧ s_1_1' < (ts.length : Int)) ∧
     ∀ (b_2' : Nat),
     (l_1'.length ≤ 20000) ∧
     ((Value.slice (some ⟨b_2', 0, none⟩) 1 1).oneCell' = true) ∧
     (
      (I64 (s_1_1' + 1)) ∧
      Inv (l_1'.length : Int) (s_1_1' + 1) (l_1' ++ [(((6 : Int), ((ts.getD (s_1_1').toNat default).2.1), (ts.getD (s_1_1').toNat default).2.2, Value.slice (some ⟨b_2', 0, none⟩) 1 1) : NdV)]) ((b_2', .cells [zI a_1'].toArray 3 (0, 0)) :: c_1') ∧ mu (l_1'.length : Int) (s_1_1' + 1) (l_1' ++ [(((6 : Int), ((ts.getD (s_1_1').toNat default).2.1), (ts.getD (s_1_1').toNat default).2.2, Value.slice (some ⟨b_2', 0, none⟩) 1 1) : NdV)]) ((b_2', .cells [zI a_1'].toArray 3 (0, 0)) :: c_1') < mu a_1' s_1_1' l_1' c_1')
    else
     K a_1' s_1_1' op er ea dv0 mn0 ts l_1' c_1'))
theorem aop (pb : Nat) (wa : Value) (wn : Value) (ts : List Tok) (ns : List NdV) (k0 : Int) (op0 : Int) (er0 : Int) (ea0 : Int) (dv0 : Value) (mn0 : Int) (B0 : List (Nat × Obj)) (K : Int → Int → Int → Int → Int → Value → Int → (List Tok) → (List NdV) → (List (Nat × Obj)) → Prop) (h : aii ts ns k0 op0 er0 ea0 dv0 mn0 B0 K) :
  d9 Tryd.prog 51 [zP pb] [] [HA.blk pb (.cells [wa, zI k0, zI op0, zI er0, zI ea0, wn, dv0, zI mn0].toArray 62 (0, 0)), HA.row wa 64 3 ts.length (ts.flatMap e6), HA.row wn 69 4 ns.length (ns.flatMap ndC), pool B0] (fun o => (∃ (v : Int) (d_2' : Int) (d_3' : Int) (d_4' : Int) (d_5' : Int) (d_6' : Value) (d_7' : Int) (d : List Tok) (w_7' : Value) (d_1' : List NdV) (D : List (Nat × Obj)), K v d_2' d_3' d_4' d_5' d_6' d_7' d d_1' D ∧ o = .ret (zI v) [HA.blk pb (.cells [wa, zI d_2', zI d_3', zI d_4', zI d_5', w_7', d_6', zI d_7'].toArray 62 (0, 0)), HA.row wa 64 3 d.length (d.flatMap e6), HA.row w_7' 69 4 d_1'.length (d_1'.flatMap ndC), pool D]) ∨ (False)) := by
 unfold aii at h
 refine c8 (n := 50) (L0 := [(0, zP pb)]) Tryd.func51 rfl rfl rfl rfl (fun w0 M Q hE => ?_)
 refine a7 (fun _ hK => ?_)
 refine a6 ?_
 refine wA ?_
 refine WL.nil ?_
 refine kg (hK [(0, zP pb)] _ ?_)
 refine a7 (fun _ hK_1' => ?_)
 refine a6 ?_
 refine wm ?_
 obtain ⟨o, h⟩ := h
 obtain ⟨o_1', h⟩ := h
 refine WL.callS asc rfl (o pb wa wn ns op0 ea0 dv0 mn0 B0 o_1') rfl trivial rfl rfl (fun r H' hS => ?_) (fun c H' hS => ?_)
 ·obtain ⟨w, i, k, op, er, ea, nl, B, hc, ho⟩ := hS
  cases ho
  replace h := h i k op er ea nl B hc
  refine wA ?_
  refine WL.nil ?_
  refine kg (hK_1' [(0, zP pb), (3, zI i)] _ ?_)
  refine a7 (fun _ hK_2' => ?_)
  refine b7 ?_
  obtain ⟨Inv, mu, h0, hr⟩ := h
  refine o7 (S := Int × Int × Value × (List NdV) × (List (Nat × Obj))) (fun σ => Inv σ.1 σ.2.1 σ.2.2.2.1 σ.2.2.2.2) (fun σ => mu σ.1 σ.2.1 σ.2.2.2.1 σ.2.2.2.2) (fun σ => [(0, zP pb), (3, zI σ.1)]) (fun σ => [HA.blk pb (.cells [wa, zI σ.2.1, zI op, zI er, zI ea, σ.2.2.1, dv0, zI mn0].toArray 62 (0, 0)), HA.row wa 64 3 ts.length (ts.flatMap e6), HA.row σ.2.2.1 69 4 σ.2.2.2.1.length (σ.2.2.2.1.flatMap ndC), pool σ.2.2.2.2]) (i, k, w, nl, B) h0 ⟨rfl, rfl, trivial⟩ rfl ?_
  rintro ⟨a_1', s_1_1', w_4', l_1', c_1'⟩ hi K0_13' hK_13'
  have h := hr a_1' s_1_1' l_1' c_1' hi
  show WC _ _ _ _ [(0, zP pb), (3, zI a_1')] [HA.blk pb (.cells [wa, zI s_1_1', zI op, zI er, zI ea, w_4', dv0, zI mn0].toArray 62 (0, 0)), HA.row wa 64 3 ts.length (ts.flatMap e6), HA.row w_4' 69 4 l_1'.length (l_1'.flatMap ndC), pool c_1']
  refine a7 (fun _ hK_14' => ?_)
  refine a7 (fun _ hK_15' => ?_)
  refine a6 ?_
  refine wm ?_
  obtain ⟨o_22', h⟩ := h
  refine WL.call ac9 rfl (acl pb wa ts w_4' l_1' s_1_1' op er ea dv0 mn0 c_1' ([42] : List UInt8) o_22') rfl trivial rfl rfl ?_
  refine wm ?_
  obtain ⟨o_24', h⟩ := h
  refine WL.cut 3 [(0, zP pb), (3, zI a_1'), (11, zB ((o9 ts s_1_1' er ([42] : List UInt8)) || (o9 ts s_1_1' er ([43] : List UInt8))))] ?_ (fun K0_16' hK_16' => ?_)
  rotate_left
  ·refine WL.split (o9 ts s_1_1' er ([42] : List UInt8)) (fun hb => ?_) (fun hb => ?_)
   ·refine WL.set 8 rfl (congrArg zB hb) ?_
    refine wk ?_
    refine wk ?_
    refine wv (OV.pickT rfl rfl) ?_
    refine WL.set 11 rfl (oT (v := o9 ts s_1_1' er ([43] : List UInt8)) hb) ?_
    exact WL.end_ (kg hK_16')
   ·have o_23' := o_24' hb
    refine WL.set 8 rfl (congrArg zB hb) ?_
    refine wm ?_
    refine WL.call ac9 rfl (acl pb wa ts w_4' l_1' s_1_1' op er ea dv0 mn0 c_1' ([43] : List UInt8) o_23') rfl trivial rfl rfl ?_
    refine wv (OV.pickF rfl rfl) ?_
    refine WL.set 11 rfl (oF (v := o9 ts s_1_1' er ([43] : List UInt8)) hb) ?_
    exact WL.end_ (kg hK_16')
  refine wm ?_
  obtain ⟨o_26', h⟩ := h
  refine WL.cut 3 [(0, zP pb), (3, zI a_1'), (15, zB (((o9 ts s_1_1' er ([42] : List UInt8)) || (o9 ts s_1_1' er ([43] : List UInt8))) || (o9 ts s_1_1' er ([63] : List UInt8))))] ?_ (fun K0_17' hK_17' => ?_)
  rotate_left
  ·refine WL.split ((o9 ts s_1_1' er ([42] : List UInt8)) || (o9 ts s_1_1' er ([43] : List UInt8))) (fun hb => ?_) (fun hb => ?_)
   ·refine WL.set 12 rfl (congrArg zB hb) ?_
    refine wk ?_
    refine wk ?_
    refine wv (OV.pickT rfl rfl) ?_
    refine WL.set 15 rfl (oT (v := o9 ts s_1_1' er ([63] : List UInt8)) hb) ?_
    exact WL.end_ (kg hK_17')
   ·have o_25' := o_26' hb
    refine WL.set 12 rfl (congrArg zB hb) ?_
    refine wm ?_
    refine WL.call ac9 rfl (acl pb wa ts w_4' l_1' s_1_1' op er ea dv0 mn0 c_1' ([63] : List UInt8) o_25') rfl trivial rfl rfl ?_
    refine wv (OV.pickF rfl rfl) ?_
    refine WL.set 15 rfl (oF (v := o9 ts s_1_1' er ([63] : List UInt8)) hb) ?_
    exact WL.end_ (kg hK_17')
  refine WL.nil ?_
  refine kg (hK_15' [(0, zP pb), (3, zI a_1'), (15, zB (((o9 ts s_1_1' er ([42] : List UInt8)) || (o9 ts s_1_1' er ([43] : List UInt8))) || (o9 ts s_1_1' er ([63] : List UInt8))))] _ ?_)
  refine b5 (b := ((o9 ts s_1_1' er ([42] : List UInt8)) || (o9 ts s_1_1' er ([43] : List UInt8))) || (o9 ts s_1_1' er ([63] : List UInt8))) rfl (fun hb => ?_) (fun hb => ?_)
  ·replace h := e8 h hb
   refine b6 ?_
   refine kg (hK_14' [(0, zP pb), (3, zI a_1')] _ ?_)
   refine b7 ?_
   refine a7 (fun _ hK_18' => ?_)
   refine m0 25 [(24, .cells [zI a_1'].toArray 3 (0, 0))] f0 (by kernel_rfl) rfl (fun T_2' hT_2' => ?_)
   refine fv (fun _ => OV.move rfl) ?_
   refine fv (fun _ => OV.move rfl) ?_
   refine fv (fun _ => OV.nilCheck rfl) ?_
   refine fv (fun _ => OV.fieldAddr0 rfl l0) ?_
   refine fv (fun _ => OV.load rfl (At.own 0 rfl) rfl p8) ?_
   refine fv (fun _ => OV.move rfl) ?_
   refine fv (fun _ => OV.nilCheck rfl) ?_
   refine fv (fun _ => OV.fieldAddr0 rfl e7) ?_
   refine fv (fun _ => OV.load rfl (At.own 0 rfl) rfl a8) ?_
   obtain ⟨o_27', h⟩ := h
   refine fv (fun _ => OV.indexRow 1 rfl rfl rfl r9 o_27') ?_
   refine fv (fun _ => OV.fieldAddr rfl s8) ?_
   refine fv (fun _ => OV.loadEF (f := e6) (o := 1) 1 rfl rfl p9 (by omega) rfl a8) ?_
   refine fv (fun _ => OV.move rfl) ?_
   refine fv (fun _ => OV.nilCheck rfl) ?_
   refine fv (fun _ => OV.fieldAddr0 rfl l0) ?_
   refine fv (fun _ => OV.load rfl (At.own 0 rfl) rfl p8) ?_
   refine fv (fun _ => OV.move rfl) ?_
   refine fv (fun _ => OV.nilCheck rfl) ?_
   refine fv (fun _ => OV.fieldAddr0 rfl e7) ?_
   refine fv (fun _ => OV.load rfl (At.own 0 rfl) rfl a8) ?_
   obtain ⟨o_28', h⟩ := h
   refine fv (fun _ => OV.indexRow 1 rfl rfl rfl r9 o_28') ?_
   refine fv (fun _ => OV.fieldAddr rfl l3) ?_
   refine fv (fun _ => OV.loadEF (f := e6) (o := 2) 1 rfl rfl p9 (by omega) rfl c7) ?_
   refine fv (fun _ => OV.move rfl) ?_
   refine FL.make (fun _ => MV.buildSlice (cs := [zI a_1']) rfl aat (by kernel_rfl)) rfl (fun _ => rfl) rfl rfl ?_
   refine FL.weak (L' := fun γ => [(0, zP pb), (3, zI a_1'), (16, zP pb), (27, zI ((ts.getD (s_1_1').toNat default).2.1)), (38, st ((ts.getD (s_1_1').toNat default).2.2)), (40, Value.slice (some ⟨(γ 24), 0, none⟩) 1 1)]) (fun γ => ⟨rfl, rfl, rfl, rfl, rfl, rfl, trivial⟩) (FL.nil (hT_2' (fun γ => [(0, zP pb), (3, zI a_1'), (16, zP pb), (27, zI ((ts.getD (s_1_1').toNat default).2.1)), (38, st ((ts.getD (s_1_1').toNat default).2.2)), (40, Value.slice (some ⟨(γ 24), 0, none⟩) 1 1)]) (fun γ => ?_)))
   show WL _ _ _ _ [(0, zP pb), (3, zI a_1'), (16, zP pb), (27, zI ((ts.getD (s_1_1').toNat default).2.1)), (38, st ((ts.getD (s_1_1').toNat default).2.2)), (40, Value.slice (some ⟨(γ 24), 0, none⟩) 1 1)] [HA.blk (γ 24) (.cells [zI a_1'].toArray 3 (0, 0)), HA.blk pb (.cells [wa, zI s_1_1', zI op, zI er, zI ea, w_4', dv0, zI mn0].toArray 62 (0, 0)), HA.row wa 64 3 ts.length (ts.flatMap e6), HA.row w_4' 69 4 l_1'.length (l_1'.flatMap ndC), pool c_1'] _
   generalize γ 24 = b_2'
   refine WL.pick (H' := [HA.blk b_2' (.cells [zI a_1'].toArray 3 (0, 0)), pool c_1', HA.blk pb (.cells [wa, zI s_1_1', zI op, zI er, zI ea, w_4', dv0, zI mn0].toArray 62 (0, 0)), HA.row wa 64 3 ts.length (ts.flatMap e6), HA.row w_4' 69 4 l_1'.length (l_1'.flatMap ndC)]) [0, 4, 1, 2, 3] rfl rfl ?_
   refine WL.absorb ?_
   replace h := h b_2'
   obtain ⟨o_29', h⟩ := h
   obtain ⟨o_30', h⟩ := h
   refine WL.pick (H' := [HA.blk pb (.cells [wa, zI s_1_1', zI op, zI er, zI ea, w_4', dv0, zI mn0].toArray 62 (0, 0)), HA.row wa 64 3 ts.length (ts.flatMap e6), HA.row w_4' 69 4 l_1'.length (l_1'.flatMap ndC), pool ((b_2', .cells [zI a_1'].toArray 3 (0, 0)) :: c_1')]) [1, 2, 3, 0] rfl rfl ?_
   refine WL.callS acm rfl (aci pb wa ts w_4' l_1' s_1_1' op er ea dv0 mn0 ((b_2', .cells [zI a_1'].toArray 3 (0, 0)) :: c_1') (6 : Int) ((ts.getD (s_1_1').toNat default).2.1) ((ts.getD (s_1_1').toNat default).2.2) (Value.slice (some ⟨b_2', 0, none⟩) 1 1) o_29' o_30') rfl trivial rfl rfl (fun r H' hS => ?_) (fun c H' hS => ?_)
   ·obtain ⟨w_5', ho⟩ := hS
    cases ho
    refine wA ?_
    refine WL.nil ?_
    refine kg (hK_18' [(0, zP pb), (3, zI (l_1'.length : Int))] _ ?_)
    refine a6 ?_
    refine wm ?_
    refine wv (OV.nilCheck rfl) ?_
    refine wv (OV.fieldAddr0 rfl e7) ?_
    refine wv (OV.load rfl (At.own 0 rfl) rfl a8) ?_
    obtain ⟨o_31', h⟩ := h
    refine wv (OV.add rfl rfl o_31') ?_
    refine wv (OV.nilCheck rfl) ?_
    refine wv (OV.fieldAddr0 rfl e7) ?_
    refine WL.store (vs := [zI (s_1_1' + 1)]) (cs' := [wa, zI (s_1_1' + 1), zI op, zI er, zI ea, w_5', dv0, zI mn0]) 0 rfl rfl rfl rfl f9 (Nat.le_of_ble_eq_true rfl) rfl rfl rfl ?_
    refine WL.nil ?_
    exact kh (hK_13' ((l_1'.length : Int), s_1_1' + 1, w_5', l_1' ++ [(((6 : Int), ((ts.getD (s_1_1').toNat default).2.1), (ts.getD (s_1_1').toNat default).2.2, Value.slice (some ⟨b_2', 0, none⟩) 1 1) : NdV)], ((b_2', .cells [zI a_1'].toArray 3 (0, 0)) :: c_1')) h.1 h.2) [0, 1, 2, 3]
   ·obtain ⟨w_5', ho⟩ := hS
    cases ho
  ·replace h := e9 h hb
   refine l4 ?_
   refine kg (hK_2' [(3, zI a_1')] _ ?_)
   refine a7 (fun _ hK_19' => ?_)
   refine a6 ?_
   refine wm ?_
   refine wA ?_
   refine WL.nil ?_
   refine kg (hK_19' [(2, zI a_1')] _ ?_)
   refine b8 ?_
   exact hE.ret [0, 1, 2, 3] rfl rfl (.inl ⟨_, _, _, _, _, _, _, _, _, _, _, h, rfl⟩) (d7.of1 rfl (RV.tmp rfl))
 ·obtain ⟨w, i, k, op, er, ea, nl, B, hc, ho⟩ := hS
  cases ho
def ah9 (ts : List Tok) (ns : List NdV) (k0 : Int) (op0 : Int) (er0 : Int) (ea0 : Int) (dv0 : Value) (mn0 : Int) (B0 : List (Nat × Obj)) (K : Int → Int → Int → Int → Int → Value → Int → (List Tok) → (List NdV) → (List (Nat × Obj)) → Prop) : Prop :=
 (if (!decide (er0 = 0)) = true then
  K 0 k0 op0 er0 ea0 dv0 mn0 ts ns B0
 else
  (0 ≤ k0 ∧ k0 < (ts.length : Int)) ∧
  (if (decide ((ts.getD (k0).toNat default).1 = 2)) = true then
   (I64 (k0 + 1)) ∧
   (ns.length ≤ 20000) ∧
   ((Value.slice none 0 0).oneCell' = true) ∧
   (
    K (ns.length : Int) (k0 + 1) op0 er0 ea0 dv0 mn0 ts (ns ++ [(((2 : Int), ((ts.getD (k0).toNat default).2.1), (ts.getD (k0).toNat default).2.2, Value.slice none 0 0) : NdV)]) B0)
  else
   (if (decide ((ts.getD (k0).toNat default).1 = 3)) = true then
    (I64 (k0 + 1)) ∧
    (ns.length ≤ 20000) ∧
    ((Value.slice none 0 0).oneCell' = true) ∧
    (
     K (ns.length : Int) (k0 + 1) op0 er0 ea0 dv0 mn0 ts (ns ++ [(((3 : Int), ((ts.getD (k0).toNat default).2.1), (ts.getD (k0).toNat default).2.2, Value.slice none 0 0) : NdV)]) B0)
   else
    (if (decide ((ts.getD (k0).toNat default).1 = 1)) = true then
     (if (decide (d6 ((ts.getD (k0).toNat default).2.2) < 0)) = true then
      (0 ≤ k0 ∧ k0 < (ts.length : Int)) ∧
      K 0 k0 op0 (acy er0 (60 : Int)) (acw ts k0 er0 ea0) dv0 mn0 ts ns B0
     else
      (I64 (k0 + 1)) ∧
      (if (decide (d6 ((ts.getD (k0).toNat default).2.2) = 0)) = true then
       (ns.length ≤ 20000) ∧
       ((Value.slice none 0 0).oneCell' = true) ∧
       (
        K (ns.length : Int) (k0 + 1) op0 er0 ea0 dv0 mn0 ts (ns ++ [(((1 : Int), ((ts.getD (k0).toNat default).2.1), (ts.getD (k0).toNat default).2.2, Value.slice none 0 0) : NdV)]) B0)
      else
       ((0 ≤ (k0 + 1) ∧ (k0 + 1) < (ts.length : Int)) ∧ (0 ≤ op0 ∧ op0 ≤ 64) ∧ ts.length ≤ 10000) ∧
       (∀ (k : Int) (op : Int) (er : Int) (ea : Int), abh ts (k0 + 1) op0 er0 ea0 ([40] : List UInt8) = (k, op, er, ea) →
        ∃ (Inv : Int → Int → Int → Int → Int → (List NdV) → (List (Nat × Obj)) → (List Int) → Prop) (mu : Int → Int → Int → Int → Int → (List NdV) → (List (Nat × Obj)) → (List Int) → Nat),
         Inv 0 k op er ea ns B0 [] ∧ ∀ (k_6' : Int) (s_1_2' : Int) (s_2_2' : Int) (s_3_2' : Int) (s_4_2' : Int) (l_2' : List NdV) (c_1' : List (Nat × Obj)) (l_3' : List Int), Inv k_6' s_1_2' s_2_2' s_3_2' s_4_2' l_2' c_1' l_3' →
          (if ((decide (k_6' < d6 ((ts.getD (k0).toNat default).2.2))) && (decide (s_3_2' = 0))) = true then
           ∃ (J0_2' : Int → Int → Int → Int → Prop),
            (∀ (s_1_3' : Int) (s_2_3' : Int) (s_3_3' : Int) (s_4_3' : Int), J0_2' s_1_3' s_2_3' s_3_3' s_4_3' →
             (aic ts s_1_3' s_3_3' (0 : Int)) ∧
             (RP ts s_1_3' s_2_3' s_3_3' l_2' ∧ 0 ≤ (0 : Int) ∧ (0 : Int) ≤ 5) ∧
             (∀ (i_2' : Int) (k_8' : Int) (op_6' : Int) (er_6' : Int) (ea_6' : Int) (nl_2' : List NdV) (B_2' : List (Nat × Obj)), aad (sE ts (0 : Int).toNat (s_1_3'.toNat, s_2_3')) ts c_1' l_2' s_1_3' s_2_3' s_3_3' s_4_3' i_2' k_8' op_6' er_6' ea_6' nl_2' B_2' →
              (((l_3'.length + 1) + (l_3'.length + 1) / 4 + 192) * 8 ≤ 281474976710656 ∧ l_3'.length + 1 ≤ 9223372036854775807) ∧
              (I64 (k_6' + 1)) ∧
              Inv (k_6' + 1) k_8' op_6' er_6' ea_6' nl_2' B_2' (l_3' ++ [i_2']) ∧ mu (k_6' + 1) k_8' op_6' er_6' ea_6' nl_2' B_2' (l_3' ++ [i_2']) < mu k_6' s_1_2' s_2_2' s_3_2' s_4_2' l_2' c_1' l_3')) ∧
            (if (decide (0 < k_6')) = true then
             ((0 ≤ s_1_2' ∧ s_1_2' < (ts.length : Int)) ∧ (0 ≤ s_2_2' ∧ s_2_2' ≤ 64) ∧ ts.length ≤ 10000) ∧
             (∀ (k_9' : Int) (op_7' : Int) (er_7' : Int) (ea_7' : Int), abh ts s_1_2' s_2_2' s_3_2' s_4_2' ([44] : List UInt8) = (k_9', op_7', er_7', ea_7') →
              J0_2' k_9' op_7' er_7' ea_7')
            else
             J0_2' s_1_2' s_2_2' s_3_2' s_4_2')
          else
           ((0 ≤ s_1_2' ∧ s_1_2' < (ts.length : Int)) ∧ (0 ≤ s_2_2' ∧ s_2_2' ≤ 64) ∧ ts.length ≤ 10000) ∧
           (∀ (k_10' : Int) (op_8' : Int) (er_8' : Int) (ea_8' : Int), abh ts s_1_2' s_2_2' s_3_2' s_4_2' ([41] : List UInt8) = (k_10', op_8', er_8', ea_8') →
            ∀ (w_10' : Value) (R : List (Nat × Obj)), q8 w_10' 3 1 l_3'.length (l_3'.flatMap z7) R →
            (l_2'.length ≤ 20000) ∧
            (w_10'.oneCell' = true) ∧
            (
             K (l_2'.length : Int) k_10' op_8' er_8' ea_8' dv0 mn0 ts (l_2' ++ [(((4 : Int), ((ts.getD (k0).toNat default).2.1), (ts.getD (k0).toNat default).2.2, w_10') : NdV)]) (R ++ c_1')))))))
    else
     (0 ≤ k0 ∧ k0 < (ts.length : Int)) ∧
     (if (o9 ts k0 er0 ([40] : List UInt8)) = true then
      ((0 ≤ k0 ∧ k0 < (ts.length : Int)) ∧ (0 ≤ op0 ∧ op0 ≤ 64) ∧ ts.length ≤ 10000) ∧
      (∀ (k_11' : Int) (op_9' : Int) (er_9' : Int) (ea_9' : Int), abh ts k0 op0 er0 ea0 ([40] : List UInt8) = (k_11', op_9', er_9', ea_9') →
       (aic ts k_11' er_9' (0 : Int)) ∧
       (RP ts k_11' op_9' er_9' ns ∧ 0 ≤ (0 : Int) ∧ (0 : Int) ≤ 5) ∧
       (∀ (i_3' : Int) (k_12' : Int) (op_10' : Int) (er_10' : Int) (ea_10' : Int) (nl_3' : List NdV) (B_3' : List (Nat × Obj)), aad (sE ts (0 : Int).toNat (k_11'.toNat, op_9')) ts B0 ns k_11' op_9' er_9' ea_9' i_3' k_12' op_10' er_10' ea_10' nl_3' B_3' →
        ((0 ≤ k_12' ∧ k_12' < (ts.length : Int)) ∧ (0 ≤ op_10' ∧ op_10' ≤ 64) ∧ ts.length ≤ 10000) ∧
        (∀ (k_13' : Int) (op_11' : Int) (er_11' : Int) (ea_11' : Int), abh ts k_12' op_10' er_10' ea_10' ([41] : List UInt8) = (k_13', op_11', er_11', ea_11') →
         K i_3' k_13' op_11' er_11' ea_11' dv0 mn0 ts nl_3' B_3')))
     else
      (0 ≤ k0 ∧ k0 < (ts.length : Int)) ∧
      (if (o9 ts k0 er0 ([123] : List UInt8)) = true then
       ((0 ≤ k0 ∧ k0 < (ts.length : Int)) ∧ (0 ≤ op0 ∧ op0 ≤ 64) ∧ ts.length ≤ 10000) ∧
       (∀ (k_14' : Int) (op_12' : Int) (er_12' : Int) (ea_12' : Int), abh ts k0 op0 er0 ea0 ([123] : List UInt8) = (k_14', op_12', er_12', ea_12') →
        (aic ts k_14' er_12' (0 : Int)) ∧
        (RP ts k_14' op_12' er_12' ns ∧ 0 ≤ (0 : Int) ∧ (0 : Int) ≤ 5) ∧
        (∀ (i_4' : Int) (k_15' : Int) (op_13' : Int) (er_13' : Int) (ea_13' : Int) (nl_4' : List NdV) (B_4' : List (Nat × Obj)), aad (sE ts (0 : Int).toNat (k_14'.toNat, op_12')) ts B0 ns k_14' op_12' er_12' ea_12' i_4' k_15' op_13' er_13' ea_13' nl_4' B_4' →
         ((0 ≤ k_15' ∧ k_15' < (ts.length : Int)) ∧ (0 ≤ op_13' ∧ op_13' ≤ 64) ∧ ts.length ≤ 10000) ∧
         (∀ (k_16' : Int) (op_14' : Int) (er_14' : Int) (ea_14' : Int), abh ts k_15' op_13' er_13' ea_13' ([125] : List UInt8) = (k_16', op_14', er_14', ea_14') →
          ∀ (b_4' : Nat) (R_1' : List (Nat × Obj)), q8 (Value.slice (some ⟨b_4', 0, none⟩) 1 1) 3 1 [i_4'].length ([i_4'].flatMap z7) R_1' →
          (nl_4'.length ≤ 20000) ∧
          ((Value.slice (some ⟨b_4', 0, none⟩) 1 1).oneCell' = true) ∧
          (
           K (nl_4'.length : Int) k_16' op_14' er_14' ea_14' dv0 mn0 ts (nl_4' ++ [(((5 : Int), ((ts.getD (k0).toNat default).2.1), ([] : List UInt8), Value.slice (some ⟨b_4', 0, none⟩) 1 1) : NdV)]) (R_1' ++ B_4')))))
      else
       (0 ≤ k0 ∧ k0 < (ts.length : Int)) ∧
       K 0 k0 op0 (acy er0 (60 : Int)) (acw ts k0 er0 ea0) dv0 mn0 ts ns B0))))))
theorem aou (pb : Nat) (wa : Value) (wn : Value) (ts : List Tok) (ns : List NdV) (k0 : Int) (op0 : Int) (er0 : Int) (ea0 : Int) (dv0 : Value) (mn0 : Int) (B0 : List (Nat × Obj)) (K : Int → Int → Int → Int → Int → Value → Int → (List Tok) → (List NdV) → (List (Nat × Obj)) → Prop) (h : ah9 ts ns k0 op0 er0 ea0 dv0 mn0 B0 K) :
  d9 Tryd.prog 69 [zP pb] [] [HA.blk pb (.cells [wa, zI k0, zI op0, zI er0, zI ea0, wn, dv0, zI mn0].toArray 62 (0, 0)), HA.row wa 64 3 ts.length (ts.flatMap e6), HA.row wn 69 4 ns.length (ns.flatMap ndC), pool B0] (fun o => (∃ (v : Int) (d_2' : Int) (d_3' : Int) (d_4' : Int) (d_5' : Int) (d_6' : Value) (d_7' : Int) (d : List Tok) (w_18' : Value) (d_1' : List NdV) (D : List (Nat × Obj)), K v d_2' d_3' d_4' d_5' d_6' d_7' d d_1' D ∧ o = .ret (zI v) [HA.blk pb (.cells [wa, zI d_2', zI d_3', zI d_4', zI d_5', w_18', d_6', zI d_7'].toArray 62 (0, 0)), HA.row wa 64 3 d.length (d.flatMap e6), HA.row w_18' 69 4 d_1'.length (d_1'.flatMap ndC), pool D]) ∨ (False)) := by
 unfold ah9 at h
 refine c8 (n := 138) (L0 := [(0, zP pb)]) Tryd.func69 rfl rfl rfl rfl (fun w0 M Q hE => ?_)
 refine a7 (fun _ hK => ?_)
 refine a6 ?_
 refine wA ?_
 refine WL.nil ?_
 refine kg (hK [(0, zP pb)] _ ?_)
 refine a7 (fun _ hK_1' => ?_)
 refine a7 (fun _ hK_2' => ?_)
 refine a6 ?_
 refine wm ?_
 refine wv (OV.nilCheck rfl) ?_
 refine wv (OV.fieldAddr0 rfl q9) ?_
 refine wv (OV.load rfl (At.own 0 rfl) rfl a8) ?_
 refine wv (OV.neq rfl rfl) ?_
 refine WL.nil ?_
 refine kg (hK_2' [(0, zP pb), (13, zB (!decide (er0 = 0)))] _ ?_)
 refine b5 (b := !decide (er0 = 0)) rfl (fun hb => ?_) (fun hb => ?_)
 ·replace h := e8 h hb
  refine a7 (fun _ hK_3' => ?_)
  refine a6 ?_
  refine wA ?_
  refine WL.nil ?_
  refine kg (hK_3' [(2, zI 0)] _ ?_)
  refine b8 ?_
  exact hE.ret [0, 1, 2, 3] rfl rfl (.inl ⟨_, _, _, _, _, _, _, _, _, _, _, h, rfl⟩) (d7.of1 rfl (RV.tmp rfl))
 ·replace h := e9 h hb
  refine b6 ?_
  refine kg (hK_1' [(0, zP pb)] _ ?_)
  refine a7 (fun _ hK_4' => ?_)
  refine m0 11 [(10, .cells [zI 0, zI 0, st []].toArray 64 (0, 0))] f0 (by kernel_rfl) rfl (fun T hT => ?_)
  refine fv (fun _ => OV.move rfl) ?_
  refine fv (fun _ => OV.nilCheck rfl) ?_
  refine fv (fun _ => OV.fieldAddr0 rfl l0) ?_
  refine fv (fun _ => OV.load rfl (At.own 0 rfl) rfl p8) ?_
  refine fv (fun _ => OV.move rfl) ?_
  refine fv (fun _ => OV.nilCheck rfl) ?_
  refine fv (fun _ => OV.fieldAddr0 rfl e7) ?_
  refine fv (fun _ => OV.load rfl (At.own 0 rfl) rfl a8) ?_
  obtain ⟨o, h⟩ := h
  refine fv (fun _ => OV.indexRow 1 rfl rfl rfl r9 o) ?_
  refine fv (fun _ => OV.loadE (f := e6) 1 rfl rfl p9 (by decide) (by omega) amk) ?_
  refine FL.make (fun _ => MV.alloc ajw) rfl (fun _ => rfl) rfl rfl ?_
  refine FL.weak (L' := fun γ => [(0, zP pb), (3, Value.pointer (some ⟨(γ 10), 0, none⟩)), (23, Value.agg [zI ((ts.getD (k0).toNat default).1), zI ((ts.getD (k0).toNat default).2.1), st ((ts.getD (k0).toNat default).2.2)].toArray)]) (fun γ => ⟨rfl, rfl, rfl, trivial⟩) (FL.nil (hT (fun γ => [(0, zP pb), (3, Value.pointer (some ⟨(γ 10), 0, none⟩)), (23, Value.agg [zI ((ts.getD (k0).toNat default).1), zI ((ts.getD (k0).toNat default).2.1), st ((ts.getD (k0).toNat default).2.2)].toArray)]) (fun γ => ?_)))
  show WL _ _ _ _ [(0, zP pb), (3, Value.pointer (some ⟨(γ 10), 0, none⟩)), (23, Value.agg [zI ((ts.getD (k0).toNat default).1), zI ((ts.getD (k0).toNat default).2.1), st ((ts.getD (k0).toNat default).2.2)].toArray)] [HA.blk (γ 10) (.cells [zI 0, zI 0, st []].toArray 64 (0, 0)), HA.blk pb (.cells [wa, zI k0, zI op0, zI er0, zI ea0, wn, dv0, zI mn0].toArray 62 (0, 0)), HA.row wa 64 3 ts.length (ts.flatMap e6), HA.row wn 69 4 ns.length (ns.flatMap ndC), pool B0] _
  generalize γ 10 = b
  refine WL.storeW (vs := [zI ((ts.getD (k0).toNat default).1), zI ((ts.getD (k0).toNat default).2.1), st ((ts.getD (k0).toNat default).2.2)]) 0 rfl rfl rfl rfl rfl ake rfl rfl rfl ?_
  refine WL.nil ?_
  refine kg (hK_4' [(0, zP pb), (3, zP b)] _ ?_)
  refine a7 (fun _ hK_5' => ?_)
  refine a7 (fun _ hK_6' => ?_)
  refine a6 ?_
  refine wv (OV.fieldAddr0 rfl m6) ?_
  refine wv (OV.load rfl (At.own 0 rfl) rfl a8) ?_
  refine wv (OV.eql rfl rfl) ?_
  refine WL.nil ?_
  refine kg (hK_6' [(0, zP pb), (3, zP b), (26, zB (decide ((ts.getD (k0).toNat default).1 = 2)))] _ ?_)
  refine b5 (b := decide ((ts.getD (k0).toNat default).1 = 2)) rfl (fun hb => ?_) (fun hb => ?_)
  ·replace h := e8 h hb
   refine a7 (fun _ hK_7' => ?_)
   refine a6 ?_
   refine wm ?_
   refine wv (OV.nilCheck rfl) ?_
   refine wv (OV.fieldAddr0 rfl e7) ?_
   refine wv (OV.load rfl (At.own 1 rfl) rfl a8) ?_
   obtain ⟨o_1', h⟩ := h
   refine wv (OV.add rfl rfl o_1') ?_
   refine wv (OV.nilCheck rfl) ?_
   refine wv (OV.fieldAddr0 rfl e7) ?_
   refine WL.store (vs := [zI (k0 + 1)]) (cs' := [wa, zI (k0 + 1), zI op0, zI er0, zI ea0, wn, dv0, zI mn0]) 1 rfl rfl rfl rfl f9 (Nat.le_of_ble_eq_true rfl) rfl rfl rfl ?_
   refine WL.nil ?_
   refine kg (hK_7' [(0, zP pb), (3, zP b)] _ ?_)
   refine a7 (fun _ hK_8' => ?_)
   refine a6 ?_
   refine wm ?_
   refine wv (OV.fieldAddr0 rfl s8) ?_
   refine wv (OV.load rfl (At.own 0 rfl) rfl a8) ?_
   refine wv (OV.fieldAddr0 rfl l3) ?_
   refine wv (OV.load rfl (At.own 0 rfl) rfl c7) ?_
   obtain ⟨o_2', h⟩ := h
   obtain ⟨o_3', h⟩ := h
   refine WL.pick (H' := [HA.blk pb (.cells [wa, zI (k0 + 1), zI op0, zI er0, zI ea0, wn, dv0, zI mn0].toArray 62 (0, 0)), HA.row wa 64 3 ts.length (ts.flatMap e6), HA.row wn 69 4 ns.length (ns.flatMap ndC), pool B0, HA.blk b (.cells [zI ((ts.getD (k0).toNat default).1), zI ((ts.getD (k0).toNat default).2.1), st ((ts.getD (k0).toNat default).2.2)].toArray 64 (0, 0))]) [1, 2, 3, 4, 0] rfl rfl ?_
   refine WL.callS acm rfl (aci pb wa ts wn ns (k0 + 1) op0 er0 ea0 dv0 mn0 B0 (2 : Int) ((ts.getD (k0).toNat default).2.1) ((ts.getD (k0).toNat default).2.2) (Value.slice none 0 0) o_2' o_3') rfl trivial rfl rfl (fun r H' hS => ?_) (fun c H' hS => ?_)
   ·obtain ⟨w, ho⟩ := hS
    cases ho
    refine wA ?_
    refine WL.nil ?_
    refine kg (hK_8' [(2, zI (ns.length : Int))] _ ?_)
    refine b8 ?_
    exact hE.ret [0, 1, 2, 3] rfl rfl (.inl ⟨_, _, _, _, _, _, _, _, _, _, _, h, rfl⟩) (d7.of1 rfl (RV.tmp rfl))
   ·obtain ⟨w, ho⟩ := hS
    cases ho
  ·replace h := e9 h hb
   refine b6 ?_
   refine kg (hK_5' [(0, zP pb), (3, zP b)] _ ?_)
   refine a7 (fun _ hK_9' => ?_)
   refine a7 (fun _ hK_10' => ?_)
   refine a6 ?_
   refine wv (OV.fieldAddr0 rfl m6) ?_
   refine wv (OV.load rfl (At.own 0 rfl) rfl a8) ?_
   refine wv (OV.eql rfl rfl) ?_
   refine WL.nil ?_
   refine kg (hK_10' [(0, zP pb), (3, zP b), (42, zB (decide ((ts.getD (k0).toNat default).1 = 3)))] _ ?_)
   refine b5 (b := decide ((ts.getD (k0).toNat default).1 = 3)) rfl (fun hb => ?_) (fun hb => ?_)
   ·replace h := e8 h hb
    refine a7 (fun _ hK_11' => ?_)
    refine a6 ?_
    refine wm ?_
    refine wv (OV.nilCheck rfl) ?_
    refine wv (OV.fieldAddr0 rfl e7) ?_
    refine wv (OV.load rfl (At.own 1 rfl) rfl a8) ?_
    obtain ⟨o_4', h⟩ := h
    refine wv (OV.add rfl rfl o_4') ?_
    refine wv (OV.nilCheck rfl) ?_
    refine wv (OV.fieldAddr0 rfl e7) ?_
    refine WL.store (vs := [zI (k0 + 1)]) (cs' := [wa, zI (k0 + 1), zI op0, zI er0, zI ea0, wn, dv0, zI mn0]) 1 rfl rfl rfl rfl f9 (Nat.le_of_ble_eq_true rfl) rfl rfl rfl ?_
    refine WL.nil ?_
    refine kg (hK_11' [(0, zP pb), (3, zP b)] _ ?_)
    refine a7 (fun _ hK_12' => ?_)
    refine a6 ?_
    refine wm ?_
    refine wv (OV.fieldAddr0 rfl s8) ?_
    refine wv (OV.load rfl (At.own 0 rfl) rfl a8) ?_
    refine wv (OV.fieldAddr0 rfl l3) ?_
    refine wv (OV.load rfl (At.own 0 rfl) rfl c7) ?_
    obtain ⟨o_5', h⟩ := h
    obtain ⟨o_6', h⟩ := h
    refine WL.pick (H' := [HA.blk pb (.cells [wa, zI (k0 + 1), zI op0, zI er0, zI ea0, wn, dv0, zI mn0].toArray 62 (0, 0)), HA.row wa 64 3 ts.length (ts.flatMap e6), HA.row wn 69 4 ns.length (ns.flatMap ndC), pool B0, HA.blk b (.cells [zI ((ts.getD (k0).toNat default).1), zI ((ts.getD (k0).toNat default).2.1), st ((ts.getD (k0).toNat default).2.2)].toArray 64 (0, 0))]) [1, 2, 3, 4, 0] rfl rfl ?_
    refine WL.callS acm rfl (aci pb wa ts wn ns (k0 + 1) op0 er0 ea0 dv0 mn0 B0 (3 : Int) ((ts.getD (k0).toNat default).2.1) ((ts.getD (k0).toNat default).2.2) (Value.slice none 0 0) o_5' o_6') rfl trivial rfl rfl (fun r H' hS => ?_) (fun c H' hS => ?_)
    ·obtain ⟨w_1', ho⟩ := hS
     cases ho
     refine wA ?_
     refine WL.nil ?_
     refine kg (hK_12' [(2, zI (ns.length : Int))] _ ?_)
     refine b8 ?_
     exact hE.ret [0, 1, 2, 3] rfl rfl (.inl ⟨_, _, _, _, _, _, _, _, _, _, _, h, rfl⟩) (d7.of1 rfl (RV.tmp rfl))
    ·obtain ⟨w_1', ho⟩ := hS
     cases ho
   ·replace h := e9 h hb
    refine b6 ?_
    refine kg (hK_9' [(0, zP pb), (3, zP b)] _ ?_)
    refine a7 (fun _ hK_13' => ?_)
    refine a7 (fun _ hK_14' => ?_)
    refine a6 ?_
    refine wv (OV.fieldAddr0 rfl m6) ?_
    refine wv (OV.load rfl (At.own 0 rfl) rfl a8) ?_
    refine wv (OV.eql rfl rfl) ?_
    refine WL.nil ?_
    refine kg (hK_14' [(0, zP pb), (3, zP b), (58, zB (decide ((ts.getD (k0).toNat default).1 = 1)))] _ ?_)
    refine b5 (b := decide ((ts.getD (k0).toNat default).1 = 1)) rfl (fun hb => ?_) (fun hb => ?_)
    ·replace h := e8 h hb
     refine a7 (fun _ hK_15' => ?_)
     refine a6 ?_
     refine wv (OV.fieldAddr0 rfl l3) ?_
     refine wv (OV.load rfl (At.own 0 rfl) rfl c7) ?_
     refine WL.call (A := []) alz rfl (ajf ((ts.getD (k0).toNat default).2.2)) rfl trivial rfl rfl ?_
     refine wA ?_
     refine WL.nil ?_
     refine kg (hK_15' [(0, zP pb), (3, zP b), (4, zI (d6 ((ts.getD (k0).toNat default).2.2)))] _ ?_)
     refine a7 (fun _ hK_16' => ?_)
     refine a7 (fun _ hK_17' => ?_)
     refine a6 ?_
     refine wm ?_
     refine wv (OV.lss rfl rfl) ?_
     refine WL.nil ?_
     refine kg (hK_17' [(0, zP pb), (3, zP b), (4, zI (d6 ((ts.getD (k0).toNat default).2.2))), (63, zB (decide (d6 ((ts.getD (k0).toNat default).2.2) < 0)))] _ ?_)
     refine b5 (b := decide (d6 ((ts.getD (k0).toNat default).2.2) < 0)) rfl (fun hb => ?_) (fun hb => ?_)
     ·replace h := e8 h hb
      refine a7 (fun _ hK_18' => ?_)
      refine a6 ?_
      refine wm ?_
      obtain ⟨o_7', h⟩ := h
      refine WL.pick (H' := [HA.blk pb (.cells [wa, zI k0, zI op0, zI er0, zI ea0, wn, dv0, zI mn0].toArray 62 (0, 0)), HA.row wa 64 3 ts.length (ts.flatMap e6), HA.row wn 69 4 ns.length (ns.flatMap ndC), pool B0, HA.blk b (.cells [zI ((ts.getD (k0).toNat default).1), zI ((ts.getD (k0).toNat default).2.1), st ((ts.getD (k0).toNat default).2.2)].toArray 64 (0, 0))]) [1, 2, 3, 4, 0] rfl rfl ?_
      refine WL.call adc rfl (acc pb wa ts wn ns k0 op0 er0 ea0 dv0 mn0 B0 (60 : Int) o_7') rfl trivial rfl rfl ?_
      refine wA ?_
      refine WL.nil ?_
      refine kg (hK_18' [(2, zI 0)] _ ?_)
      refine b8 ?_
      exact hE.ret [0, 1, 2, 3] rfl rfl (.inl ⟨_, _, _, _, _, _, _, _, _, _, _, h, rfl⟩) (d7.of1 rfl (RV.tmp rfl))
     ·replace h := e9 h hb
      refine b6 ?_
      refine kg (hK_16' [(0, zP pb), (3, zP b), (4, zI (d6 ((ts.getD (k0).toNat default).2.2)))] _ ?_)
      refine a7 (fun _ hK_19' => ?_)
      refine a6 ?_
      refine wm ?_
      refine wv (OV.nilCheck rfl) ?_
      refine wv (OV.fieldAddr0 rfl e7) ?_
      refine wv (OV.load rfl (At.own 1 rfl) rfl a8) ?_
      obtain ⟨o_8', h⟩ := h
      refine wv (OV.add rfl rfl o_8') ?_
      refine wv (OV.nilCheck rfl) ?_
      refine wv (OV.fieldAddr0 rfl e7) ?_
      refine WL.store (vs := [zI (k0 + 1)]) (cs' := [wa, zI (k0 + 1), zI op0, zI er0, zI ea0, wn, dv0, zI mn0]) 1 rfl rfl rfl rfl f9 (Nat.le_of_ble_eq_true rfl) rfl rfl rfl ?_
      refine WL.nil ?_
      refine kg (hK_19' [(0, zP pb), (3, zP b), (4, zI (d6 ((ts.getD (k0).toNat default).2.2)))] _ ?_)
      refine a7 (fun _ hK_20' => ?_)
      refine a7 (fun _ hK_21' => ?_)
      refine a6 ?_
      refine wm ?_
      refine wv (OV.eql rfl rfl) ?_
      refine WL.nil ?_
      refine kg (hK_21' [(0, zP pb), (3, zP b), (4, zI (d6 ((ts.getD (k0).toNat default).2.2))), (74, zB (decide (d6 ((ts.getD (k0).toNat default).2.2) = 0)))] _ ?_)
      refine b5 (b := decide (d6 ((ts.getD (k0).toNat default).2.2) = 0)) rfl (fun hb => ?_) (fun hb => ?_)
      ·replace h := e8 h hb
       refine a7 (fun _ hK_22' => ?_)
       refine a6 ?_
       refine wm ?_
       refine wv (OV.fieldAddr0 rfl s8) ?_
       refine wv (OV.load rfl (At.own 0 rfl) rfl a8) ?_
       refine wv (OV.fieldAddr0 rfl l3) ?_
       refine wv (OV.load rfl (At.own 0 rfl) rfl c7) ?_
       obtain ⟨o_9', h⟩ := h
       obtain ⟨o_10', h⟩ := h
       refine WL.pick (H' := [HA.blk pb (.cells [wa, zI (k0 + 1), zI op0, zI er0, zI ea0, wn, dv0, zI mn0].toArray 62 (0, 0)), HA.row wa 64 3 ts.length (ts.flatMap e6), HA.row wn 69 4 ns.length (ns.flatMap ndC), pool B0, HA.blk b (.cells [zI ((ts.getD (k0).toNat default).1), zI ((ts.getD (k0).toNat default).2.1), st ((ts.getD (k0).toNat default).2.2)].toArray 64 (0, 0))]) [1, 2, 3, 4, 0] rfl rfl ?_
       refine WL.callS acm rfl (aci pb wa ts wn ns (k0 + 1) op0 er0 ea0 dv0 mn0 B0 (1 : Int) ((ts.getD (k0).toNat default).2.1) ((ts.getD (k0).toNat default).2.2) (Value.slice none 0 0) o_9' o_10') rfl trivial rfl rfl (fun r H' hS => ?_) (fun c H' hS => ?_)
       ·obtain ⟨w_2', ho⟩ := hS
        cases ho
        refine wA ?_
        refine WL.nil ?_
        refine kg (hK_22' [(2, zI (ns.length : Int))] _ ?_)
        refine b8 ?_
        exact hE.ret [0, 1, 2, 3] rfl rfl (.inl ⟨_, _, _, _, _, _, _, _, _, _, _, h, rfl⟩) (d7.of1 rfl (RV.tmp rfl))
       ·obtain ⟨w_2', ho⟩ := hS
        cases ho
      ·replace h := e9 h hb
       refine b6 ?_
       refine kg (hK_20' [(0, zP pb), (3, zP b), (4, zI (d6 ((ts.getD (k0).toNat default).2.2)))] _ ?_)
       refine a7 (fun _ hK_23' => ?_)
       refine a6 ?_
       refine wA ?_
       refine WL.nilRow 3 1 z7 ?_
       refine WL.nil ?_
       refine kg (hK_23' [(0, zP pb), (3, zP b), (4, zI (d6 ((ts.getD (k0).toNat default).2.2))), (5, Value.slice none 0 0)] _ ?_)
       refine a7 (fun _ hK_24' => ?_)
       refine a6 ?_
       refine wm ?_
       obtain ⟨o_11', h⟩ := h
       refine WL.pick (H' := [HA.blk pb (.cells [wa, zI (k0 + 1), zI op0, zI er0, zI ea0, wn, dv0, zI mn0].toArray 62 (0, 0)), HA.row wa 64 3 ts.length (ts.flatMap e6), HA.row wn 69 4 ns.length (ns.flatMap ndC), pool B0, HA.row (Value.slice none 0 0) 3 1 ([] : List Int).length (([] : List Int).flatMap z7), HA.blk b (.cells [zI ((ts.getD (k0).toNat default).1), zI ((ts.getD (k0).toNat default).2.1), st ((ts.getD (k0).toNat default).2.2)].toArray 64 (0, 0))]) [2, 3, 4, 5, 0, 1] rfl rfl ?_
       refine WL.callS abb rfl (aao pb wa ts wn ns (k0 + 1) op0 er0 ea0 dv0 mn0 B0 ([40] : List UInt8) o_11') rfl trivial rfl rfl (fun r H' hS => ?_) (fun c H' hS => ?_)
       ·obtain ⟨k, op, er, ea, hc, ho⟩ := hS
        cases ho
        replace h := h k op er ea hc
        refine WL.nil ?_
        refine kg (hK_24' [(0, zP pb), (3, zP b), (4, zI (d6 ((ts.getD (k0).toNat default).2.2))), (5, Value.slice none 0 0)] _ ?_)
        refine a7 (fun _ hK_25' => ?_)
        refine a7 (fun _ hK_26' => ?_)
        refine a6 ?_
        refine wA ?_
        refine WL.nil ?_
        refine kg (hK_26' [(0, zP pb), (3, zP b), (4, zI (d6 ((ts.getD (k0).toNat default).2.2))), (5, Value.slice none 0 0), (6, zI 0)] _ ?_)
        refine b7 ?_
        obtain ⟨Inv, mu, h0, hr⟩ := h
        refine o7 (S := Int × Int × Int × Int × Int × Value × (List NdV) × (List (Nat × Obj)) × Value × (List Int)) (fun σ => Inv σ.1 σ.2.1 σ.2.2.1 σ.2.2.2.1 σ.2.2.2.2.1 σ.2.2.2.2.2.2.1 σ.2.2.2.2.2.2.2.1 σ.2.2.2.2.2.2.2.2.2) (fun σ => mu σ.1 σ.2.1 σ.2.2.1 σ.2.2.2.1 σ.2.2.2.2.1 σ.2.2.2.2.2.2.1 σ.2.2.2.2.2.2.2.1 σ.2.2.2.2.2.2.2.2.2) (fun σ => [(0, zP pb), (3, zP b), (4, zI (d6 ((ts.getD (k0).toNat default).2.2))), (5, σ.2.2.2.2.2.2.2.2.1), (6, zI σ.1)]) (fun σ => [HA.blk pb (.cells [wa, zI σ.2.1, zI σ.2.2.1, zI σ.2.2.2.1, zI σ.2.2.2.2.1, σ.2.2.2.2.2.1, dv0, zI mn0].toArray 62 (0, 0)), HA.row wa 64 3 ts.length (ts.flatMap e6), HA.row σ.2.2.2.2.2.1 69 4 σ.2.2.2.2.2.2.1.length (σ.2.2.2.2.2.2.1.flatMap ndC), pool σ.2.2.2.2.2.2.2.1, HA.row σ.2.2.2.2.2.2.2.2.1 3 1 σ.2.2.2.2.2.2.2.2.2.length (σ.2.2.2.2.2.2.2.2.2.flatMap z7), HA.blk b (.cells [zI ((ts.getD (k0).toNat default).1), zI ((ts.getD (k0).toNat default).2.1), st ((ts.getD (k0).toNat default).2.2)].toArray 64 (0, 0))]) (0, k, op, er, ea, wn, ns, B0, Value.slice none 0 0, []) h0 ⟨rfl, rfl, rfl, rfl, rfl, trivial⟩ rfl ?_
        rintro ⟨k_6', s_1_2', s_2_2', s_3_2', s_4_2', w_9', l_2', c_1', w_10', l_3'⟩ hi K0_41' hK_41'
        have h := hr k_6' s_1_2' s_2_2' s_3_2' s_4_2' l_2' c_1' l_3' hi
        show WC _ _ _ _ [(0, zP pb), (3, zP b), (4, zI (d6 ((ts.getD (k0).toNat default).2.2))), (5, w_10'), (6, zI k_6')] [HA.blk pb (.cells [wa, zI s_1_2', zI s_2_2', zI s_3_2', zI s_4_2', w_9', dv0, zI mn0].toArray 62 (0, 0)), HA.row wa 64 3 ts.length (ts.flatMap e6), HA.row w_9' 69 4 l_2'.length (l_2'.flatMap ndC), pool c_1', HA.row w_10' 3 1 l_3'.length (l_3'.flatMap z7), HA.blk b (.cells [zI ((ts.getD (k0).toNat default).1), zI ((ts.getD (k0).toNat default).2.1), st ((ts.getD (k0).toNat default).2.2)].toArray 64 (0, 0))]
        refine a7 (fun _ hK_42' => ?_)
        refine a7 (fun _ hK_43' => ?_)
        refine a6 ?_
        refine wm ?_
        refine wm ?_
        refine wv (OV.lss rfl rfl) ?_
        refine wm ?_
        refine WL.cut 6 [(0, zP pb), (3, zP b), (4, zI (d6 ((ts.getD (k0).toNat default).2.2))), (5, w_10'), (6, zI k_6'), (92, zB ((decide (k_6' < d6 ((ts.getD (k0).toNat default).2.2))) && (decide (s_3_2' = 0))))] ?_ (fun K0_44' hK_44' => ?_)
        rotate_left
        ·refine WL.split (decide (k_6' < d6 ((ts.getD (k0).toNat default).2.2))) (fun hb => ?_) (fun hb => ?_)
         ·refine WL.set 86 rfl (congrArg zB hb) ?_
          refine wm ?_
          refine wv (OV.nilCheck rfl) ?_
          refine wv (OV.fieldAddr0 rfl q9) ?_
          refine wv (OV.load rfl (At.own 0 rfl) rfl a8) ?_
          refine wv (OV.eql rfl rfl) ?_
          refine wv (OV.pickT rfl rfl) ?_
          refine WL.set 92 rfl (bT (v := decide (s_3_2' = 0)) hb) ?_
          exact WL.end_ (kg hK_44')
         ·refine WL.set 86 rfl (congrArg zB hb) ?_
          refine wk ?_
          refine wk ?_
          refine wk ?_
          refine wk ?_
          refine wk ?_
          refine wv (OV.pickF rfl rfl) ?_
          refine WL.set 92 rfl (bF (v := decide (s_3_2' = 0)) hb) ?_
          exact WL.end_ (kg hK_44')
        refine WL.nil ?_
        refine kg (hK_43' [(0, zP pb), (3, zP b), (4, zI (d6 ((ts.getD (k0).toNat default).2.2))), (5, w_10'), (6, zI k_6'), (92, zB ((decide (k_6' < d6 ((ts.getD (k0).toNat default).2.2))) && (decide (s_3_2' = 0))))] _ ?_)
        refine b5 (b := (decide (k_6' < d6 ((ts.getD (k0).toNat default).2.2))) && (decide (s_3_2' = 0))) rfl (fun hb => ?_) (fun hb => ?_)
        ·replace h := e8 h hb
         refine b6 ?_
         refine kg (hK_42' [(0, zP pb), (3, zP b), (4, zI (d6 ((ts.getD (k0).toNat default).2.2))), (5, w_10'), (6, zI k_6')] _ ?_)
         refine a7 (fun _ hK_45' => ?_)
         refine b7 ?_
         obtain ⟨J0_2', hJ_2', h⟩ := h
         refine m5 (X := Int × Int × Int × Int) (fun σ => J0_2' σ.1 σ.2.1 σ.2.2.1 σ.2.2.2) (fun σ => [(0, zP pb), (3, zP b), (4, zI (d6 ((ts.getD (k0).toNat default).2.2))), (5, w_10'), (6, zI k_6')]) (fun σ => [HA.blk pb (.cells [wa, zI σ.1, zI σ.2.1, zI σ.2.2.1, zI σ.2.2.2, w_9', dv0, zI mn0].toArray 62 (0, 0)), HA.row wa 64 3 ts.length (ts.flatMap e6), HA.row w_9' 69 4 l_2'.length (l_2'.flatMap ndC), pool c_1', HA.row w_10' 3 1 l_3'.length (l_3'.flatMap z7), HA.blk b (.cells [zI ((ts.getD (k0).toNat default).1), zI ((ts.getD (k0).toNat default).2.1), st ((ts.getD (k0).toNat default).2.2)].toArray 64 (0, 0))]) ?_ (fun K0_47' hK_47' => ?_)
         ·rintro ⟨s_1_3', s_2_3', s_3_3', s_4_3'⟩ hj
          replace h := hJ_2' s_1_3' s_2_3' s_3_3' s_4_3' hj
          show WC _ _ _ _ [(0, zP pb), (3, zP b), (4, zI (d6 ((ts.getD (k0).toNat default).2.2))), (5, w_10'), (6, zI k_6')] [HA.blk pb (.cells [wa, zI s_1_3', zI s_2_3', zI s_3_3', zI s_4_3', w_9', dv0, zI mn0].toArray 62 (0, 0)), HA.row wa 64 3 ts.length (ts.flatMap e6), HA.row w_9' 69 4 l_2'.length (l_2'.flatMap ndC), pool c_1', HA.row w_10' 3 1 l_3'.length (l_3'.flatMap z7), HA.blk b (.cells [zI ((ts.getD (k0).toNat default).1), zI ((ts.getD (k0).toNat default).2.1), st ((ts.getD (k0).toNat default).2.2)].toArray 64 (0, 0))]
          refine a6 ?_
          refine wm ?_
          refine wm ?_
          obtain ⟨o_25', h⟩ := h
          obtain ⟨o_26', h⟩ := h
          refine WL.callS adb rfl (o_25' pb wa w_9' l_2' s_2_3' s_4_3' dv0 mn0 c_1' o_26') rfl trivial rfl rfl (fun r H' hS => ?_) (fun c H' hS => ?_)
          ·obtain ⟨w_11', i_2', k_8', op_6', er_6', ea_6', nl_2', B_2', hc, ho⟩ := hS
           cases ho
           replace h := h i_2' k_8' op_6' er_6' ea_6' nl_2' B_2' hc
           refine WL.make (MV.buildSlice (cs := [zI i_2']) rfl aat (by kernel_rfl)) rfl rfl rfl (fun b_3' => ?_)
           obtain ⟨o_27', h⟩ := h
           refine WL.append (f := z7) (ms := [i_2']) 5 0 rfl rfl rfl rfl rfl rfl ab6 (by decide) rfl aat asf rfl o_27' rfl rfl (fun w_12' => ?_)
           refine wA ?_
           refine WL.nil ?_
           refine kg (hK_45' [(0, zP pb), (3, zP b), (4, zI (d6 ((ts.getD (k0).toNat default).2.2))), (5, w_12'), (6, zI k_6')] _ ?_)
           refine a6 ?_
           refine wm ?_
           obtain ⟨o_28', h⟩ := h
           refine wv (OV.add rfl rfl o_28') ?_
           refine wA ?_
           refine WL.nil ?_
           exact kh (hK_41' (k_6' + 1, k_8', op_6', er_6', ea_6', w_11', nl_2', B_2', w_12', l_3' ++ [i_2']) h.1 h.2) [1, 2, 3, 4, 5, 6]
          ·obtain ⟨w_11', i_2', k_8', op_6', er_6', ea_6', nl_2', B_2', hc, ho⟩ := hS
           cases ho
         ·skip
          refine a7 (fun _ hK_48' => ?_)
          refine a6 ?_
          refine wm ?_
          refine wv (OV.gtr rfl rfl) ?_
          refine WL.nil ?_
          refine kg (hK_48' [(0, zP pb), (3, zP b), (4, zI (d6 ((ts.getD (k0).toNat default).2.2))), (5, w_10'), (6, zI k_6'), (96, zB (decide (0 < k_6')))] _ ?_)
          refine b5 (b := decide (0 < k_6')) rfl (fun hb => ?_) (fun hb => ?_)
          ·replace h := e8 h hb
           refine a6 ?_
           refine wm ?_
           obtain ⟨o_29', h⟩ := h
           refine WL.callS abb rfl (aao pb wa ts w_9' l_2' s_1_2' s_2_2' s_3_2' s_4_2' dv0 mn0 c_1' ([44] : List UInt8) o_29') rfl trivial rfl rfl (fun r H' hS => ?_) (fun c H' hS => ?_)
           ·obtain ⟨k_9', op_7', er_7', ea_7', hc, ho⟩ := hS
            cases ho
            replace h := h k_9' op_7' er_7' ea_7' hc
            refine WL.nil ?_
            exact kh (hK_47' (k_9', op_7', er_7', ea_7') h) [0, 1, 2, 3, 4, 5]
           ·obtain ⟨k_9', op_7', er_7', ea_7', hc, ho⟩ := hS
            cases ho
          ·replace h := e9 h hb
           refine b6 ?_
           exact kh (hK_47' (s_1_2', s_2_2', s_3_2', s_4_2') h) [0, 1, 2, 3, 4, 5]
        ·replace h := e9 h hb
         refine l4 ?_
         refine kg (hK_25' [(0, zP pb), (3, zP b), (5, w_10')] _ ?_)
         refine a7 (fun _ hK_49' => ?_)
         refine a6 ?_
         refine wm ?_
         obtain ⟨o_30', h⟩ := h
         refine WL.callS abb rfl (aao pb wa ts w_9' l_2' s_1_2' s_2_2' s_3_2' s_4_2' dv0 mn0 c_1' ([41] : List UInt8) o_30') rfl trivial rfl rfl (fun r H' hS => ?_) (fun c H' hS => ?_)
         ·obtain ⟨k_10', op_8', er_8', ea_8', hc, ho⟩ := hS
          cases ho
          replace h := h k_10' op_8' er_8' ea_8' hc
          refine WL.nil ?_
          refine kg (hK_49' [(0, zP pb), (3, zP b), (5, w_10')] _ ?_)
          refine a7 (fun _ hK_50' => ?_)
          refine a6 ?_
          refine wm ?_
          refine wv (OV.fieldAddr0 rfl s8) ?_
          refine wv (OV.load rfl (At.own 5 rfl) rfl a8) ?_
          refine wv (OV.fieldAddr0 rfl l3) ?_
          refine wv (OV.load rfl (At.own 5 rfl) rfl c7) ?_
          refine wm ?_
          refine WL.pick (H' := [HA.row w_10' 3 1 l_3'.length (l_3'.flatMap z7), pool c_1', HA.blk pb (.cells [wa, zI k_10', zI op_8', zI er_8', zI ea_8', w_9', dv0, zI mn0].toArray 62 (0, 0)), HA.row wa 64 3 ts.length (ts.flatMap e6), HA.row w_9' 69 4 l_2'.length (l_2'.flatMap ndC), HA.blk b (.cells [zI ((ts.getD (k0).toNat default).1), zI ((ts.getD (k0).toNat default).2.1), st ((ts.getD (k0).toNat default).2.2)].toArray 64 (0, 0))]) [4, 3, 0, 1, 2, 5] rfl rfl ?_
          refine WL.absorbRow0 (fun R hl => ?_)
          replace h := h w_10' R hl
          obtain ⟨o_31', h⟩ := h
          obtain ⟨o_32', h⟩ := h
          refine WL.pick (H' := [HA.blk pb (.cells [wa, zI k_10', zI op_8', zI er_8', zI ea_8', w_9', dv0, zI mn0].toArray 62 (0, 0)), HA.row wa 64 3 ts.length (ts.flatMap e6), HA.row w_9' 69 4 l_2'.length (l_2'.flatMap ndC), pool (R ++ c_1'), HA.blk b (.cells [zI ((ts.getD (k0).toNat default).1), zI ((ts.getD (k0).toNat default).2.1), st ((ts.getD (k0).toNat default).2.2)].toArray 64 (0, 0))]) [1, 2, 3, 0, 4] rfl rfl ?_
          refine WL.callS acm rfl (aci pb wa ts w_9' l_2' k_10' op_8' er_8' ea_8' dv0 mn0 (R ++ c_1') (4 : Int) ((ts.getD (k0).toNat default).2.1) ((ts.getD (k0).toNat default).2.2) w_10' o_31' o_32') rfl trivial rfl rfl (fun r H' hS => ?_) (fun c H' hS => ?_)
          ·obtain ⟨w_13', ho⟩ := hS
           cases ho
           refine wA ?_
           refine WL.nil ?_
           refine kg (hK_50' [(2, zI (l_2'.length : Int))] _ ?_)
           refine b8 ?_
           exact hE.ret [0, 1, 2, 3] rfl rfl (.inl ⟨_, _, _, _, _, _, _, _, _, _, _, h, rfl⟩) (d7.of1 rfl (RV.tmp rfl))
          ·obtain ⟨w_13', ho⟩ := hS
           cases ho
         ·obtain ⟨k_10', op_8', er_8', ea_8', hc, ho⟩ := hS
          cases ho
       ·obtain ⟨k, op, er, ea, hc, ho⟩ := hS
        cases ho
    ·replace h := e9 h hb
     refine b6 ?_
     refine kg (hK_13' [(0, zP pb), (3, zP b)] _ ?_)
     refine a7 (fun _ hK_51' => ?_)
     refine a7 (fun _ hK_52' => ?_)
     refine a6 ?_
     refine wm ?_
     obtain ⟨o_33', h⟩ := h
     refine WL.pick (H' := [HA.blk pb (.cells [wa, zI k0, zI op0, zI er0, zI ea0, wn, dv0, zI mn0].toArray 62 (0, 0)), HA.row wa 64 3 ts.length (ts.flatMap e6), HA.row wn 69 4 ns.length (ns.flatMap ndC), pool B0, HA.blk b (.cells [zI ((ts.getD (k0).toNat default).1), zI ((ts.getD (k0).toNat default).2.1), st ((ts.getD (k0).toNat default).2.2)].toArray 64 (0, 0))]) [1, 2, 3, 4, 0] rfl rfl ?_
     refine WL.call ac9 rfl (acl pb wa ts wn ns k0 op0 er0 ea0 dv0 mn0 B0 ([40] : List UInt8) o_33') rfl trivial rfl rfl ?_
     refine WL.nil ?_
     refine kg (hK_52' [(0, zP pb), (3, zP b), (114, zB (o9 ts k0 er0 ([40] : List UInt8)))] _ ?_)
     refine b5 (b := o9 ts k0 er0 ([40] : List UInt8)) rfl (fun hb => ?_) (fun hb => ?_)
     ·replace h := e8 h hb
      refine a7 (fun _ hK_53' => ?_)
      refine a6 ?_
      refine wm ?_
      obtain ⟨o_34', h⟩ := h
      refine WL.callS abb rfl (aao pb wa ts wn ns k0 op0 er0 ea0 dv0 mn0 B0 ([40] : List UInt8) o_34') rfl trivial rfl rfl (fun r H' hS => ?_) (fun c H' hS => ?_)
      ·obtain ⟨k_11', op_9', er_9', ea_9', hc, ho⟩ := hS
       cases ho
       replace h := h k_11' op_9' er_9' ea_9' hc
       refine WL.nil ?_
       refine kg (hK_53' [(0, zP pb)] _ ?_)
       refine a7 (fun _ hK_54' => ?_)
       refine a6 ?_
       refine wm ?_
       obtain ⟨o_35', h⟩ := h
       obtain ⟨o_36', h⟩ := h
       refine WL.callS adb rfl (o_35' pb wa wn ns op_9' ea_9' dv0 mn0 B0 o_36') rfl trivial rfl rfl (fun r H' hS => ?_) (fun c H' hS => ?_)
       ·obtain ⟨w_14', i_3', k_12', op_10', er_10', ea_10', nl_3', B_3', hc, ho⟩ := hS
        cases ho
        replace h := h i_3' k_12' op_10' er_10' ea_10' nl_3' B_3' hc
        refine wA ?_
        refine WL.nil ?_
        refine kg (hK_54' [(0, zP pb), (7, zI i_3')] _ ?_)
        refine a7 (fun _ hK_55' => ?_)
        refine a6 ?_
        refine wm ?_
        obtain ⟨o_37', h⟩ := h
        refine WL.callS abb rfl (aao pb wa ts w_14' nl_3' k_12' op_10' er_10' ea_10' dv0 mn0 B_3' ([41] : List UInt8) o_37') rfl trivial rfl rfl (fun r H' hS => ?_) (fun c H' hS => ?_)
        ·obtain ⟨k_13', op_11', er_11', ea_11', hc, ho⟩ := hS
         cases ho
         replace h := h k_13' op_11' er_11' ea_11' hc
         refine WL.nil ?_
         refine kg (hK_55' [(7, zI i_3')] _ ?_)
         refine a7 (fun _ hK_56' => ?_)
         refine a6 ?_
         refine wm ?_
         refine wA ?_
         refine WL.nil ?_
         refine kg (hK_56' [(2, zI i_3')] _ ?_)
         refine b8 ?_
         exact hE.ret [0, 1, 2, 3] rfl rfl (.inl ⟨_, _, _, _, _, _, _, _, _, _, _, h, rfl⟩) (d7.of1 rfl (RV.tmp rfl))
        ·obtain ⟨k_13', op_11', er_11', ea_11', hc, ho⟩ := hS
         cases ho
       ·obtain ⟨w_14', i_3', k_12', op_10', er_10', ea_10', nl_3', B_3', hc, ho⟩ := hS
        cases ho
      ·obtain ⟨k_11', op_9', er_9', ea_9', hc, ho⟩ := hS
       cases ho
     ·replace h := e9 h hb
      refine b6 ?_
      refine kg (hK_51' [(0, zP pb), (3, zP b)] _ ?_)
      refine a7 (fun _ hK_57' => ?_)
      refine a7 (fun _ hK_58' => ?_)
      refine a6 ?_
      refine wm ?_
      obtain ⟨o_38', h⟩ := h
      refine WL.call ac9 rfl (acl pb wa ts wn ns k0 op0 er0 ea0 dv0 mn0 B0 ([123] : List UInt8) o_38') rfl trivial rfl rfl ?_
      refine WL.nil ?_
      refine kg (hK_58' [(0, zP pb), (3, zP b), (123, zB (o9 ts k0 er0 ([123] : List UInt8)))] _ ?_)
      refine b5 (b := o9 ts k0 er0 ([123] : List UInt8)) rfl (fun hb => ?_) (fun hb => ?_)
      ·replace h := e8 h hb
       refine a7 (fun _ hK_59' => ?_)
       refine a6 ?_
       refine wm ?_
       obtain ⟨o_39', h⟩ := h
       refine WL.callS abb rfl (aao pb wa ts wn ns k0 op0 er0 ea0 dv0 mn0 B0 ([123] : List UInt8) o_39') rfl trivial rfl rfl (fun r H' hS => ?_) (fun c H' hS => ?_)
       ·obtain ⟨k_14', op_12', er_12', ea_12', hc, ho⟩ := hS
        cases ho
        replace h := h k_14' op_12' er_12' ea_12' hc
        refine WL.nil ?_
        refine kg (hK_59' [(0, zP pb), (3, zP b)] _ ?_)
        refine a7 (fun _ hK_60' => ?_)
        refine a6 ?_
        refine wm ?_
        obtain ⟨o_40', h⟩ := h
        obtain ⟨o_41', h⟩ := h
        refine WL.callS adb rfl (o_40' pb wa wn ns op_12' ea_12' dv0 mn0 B0 o_41') rfl trivial rfl rfl (fun r H' hS => ?_) (fun c H' hS => ?_)
        ·obtain ⟨w_15', i_4', k_15', op_13', er_13', ea_13', nl_4', B_4', hc, ho⟩ := hS
         cases ho
         replace h := h i_4' k_15' op_13' er_13' ea_13' nl_4' B_4' hc
         refine wA ?_
         refine WL.nil ?_
         refine kg (hK_60' [(0, zP pb), (3, zP b), (8, zI i_4')] _ ?_)
         refine a7 (fun _ hK_61' => ?_)
         refine a6 ?_
         refine wm ?_
         obtain ⟨o_42', h⟩ := h
         refine WL.callS abb rfl (aao pb wa ts w_15' nl_4' k_15' op_13' er_13' ea_13' dv0 mn0 B_4' ([125] : List UInt8) o_42') rfl trivial rfl rfl (fun r H' hS => ?_) (fun c H' hS => ?_)
         ·obtain ⟨k_16', op_14', er_14', ea_14', hc, ho⟩ := hS
          cases ho
          replace h := h k_16' op_14' er_14' ea_14' hc
          refine WL.nil ?_
          refine kg (hK_61' [(0, zP pb), (3, zP b), (8, zI i_4')] _ ?_)
          refine a7 (fun _ hK_62' => ?_)
          refine a6 ?_
          refine wm ?_
          refine wv (OV.fieldAddr0 rfl s8) ?_
          refine wv (OV.load rfl (At.own 4 rfl) rfl a8) ?_
          refine wm ?_
          refine WL.make (MV.buildSlice (cs := [zI i_4']) rfl aat (by kernel_rfl)) rfl rfl rfl (fun b_4' => ?_)
          refine WL.asRow (f := z7) (ms := [i_4']) 0 rfl rfl rfl ab6 rfl ?_
          refine WL.pick (H' := [HA.row (Value.slice (some ⟨b_4', 0, none⟩) 1 1) 3 1 [i_4'].length ([i_4'].flatMap z7), pool B_4', HA.blk pb (.cells [wa, zI k_16', zI op_14', zI er_14', zI ea_14', w_15', dv0, zI mn0].toArray 62 (0, 0)), HA.row wa 64 3 ts.length (ts.flatMap e6), HA.row w_15' 69 4 nl_4'.length (nl_4'.flatMap ndC), HA.blk b (.cells [zI ((ts.getD (k0).toNat default).1), zI ((ts.getD (k0).toNat default).2.1), st ((ts.getD (k0).toNat default).2.2)].toArray 64 (0, 0))]) [0, 4, 1, 2, 3, 5] rfl rfl ?_
          refine WL.absorbRow0 (fun R_1' hl_1' => ?_)
          replace h := h b_4' R_1' hl_1'
          obtain ⟨o_43', h⟩ := h
          obtain ⟨o_44', h⟩ := h
          refine WL.pick (H' := [HA.blk pb (.cells [wa, zI k_16', zI op_14', zI er_14', zI ea_14', w_15', dv0, zI mn0].toArray 62 (0, 0)), HA.row wa 64 3 ts.length (ts.flatMap e6), HA.row w_15' 69 4 nl_4'.length (nl_4'.flatMap ndC), pool (R_1' ++ B_4'), HA.blk b (.cells [zI ((ts.getD (k0).toNat default).1), zI ((ts.getD (k0).toNat default).2.1), st ((ts.getD (k0).toNat default).2.2)].toArray 64 (0, 0))]) [1, 2, 3, 0, 4] rfl rfl ?_
          refine WL.callS acm rfl (aci pb wa ts w_15' nl_4' k_16' op_14' er_14' ea_14' dv0 mn0 (R_1' ++ B_4') (5 : Int) ((ts.getD (k0).toNat default).2.1) ([] : List UInt8) (Value.slice (some ⟨b_4', 0, none⟩) 1 1) o_43' o_44') rfl trivial rfl rfl (fun r H' hS => ?_) (fun c H' hS => ?_)
          ·obtain ⟨w_16', ho⟩ := hS
           cases ho
           refine wA ?_
           refine WL.nil ?_
           refine kg (hK_62' [(2, zI (nl_4'.length : Int))] _ ?_)
           refine b8 ?_
           exact hE.ret [0, 1, 2, 3] rfl rfl (.inl ⟨_, _, _, _, _, _, _, _, _, _, _, h, rfl⟩) (d7.of1 rfl (RV.tmp rfl))
          ·obtain ⟨w_16', ho⟩ := hS
           cases ho
         ·obtain ⟨k_16', op_14', er_14', ea_14', hc, ho⟩ := hS
          cases ho
        ·obtain ⟨w_15', i_4', k_15', op_13', er_13', ea_13', nl_4', B_4', hc, ho⟩ := hS
         cases ho
       ·obtain ⟨k_14', op_12', er_12', ea_12', hc, ho⟩ := hS
        cases ho
      ·replace h := e9 h hb
       refine b6 ?_
       refine kg (hK_57' [(0, zP pb)] _ ?_)
       refine a7 (fun _ hK_63' => ?_)
       refine a6 ?_
       refine wm ?_
       obtain ⟨o_45', h⟩ := h
       refine WL.call adc rfl (acc pb wa ts wn ns k0 op0 er0 ea0 dv0 mn0 B0 (60 : Int) o_45') rfl trivial rfl rfl ?_
       refine wA ?_
       refine WL.nil ?_
       refine kg (hK_63' [(2, zI 0)] _ ?_)
       refine b8 ?_
       exact hE.ret [0, 1, 2, 3] rfl rfl (.inl ⟨_, _, _, _, _, _, _, _, _, _, _, h, rfl⟩) (d7.of1 rfl (RV.tmp rfl))
theorem aww (ts : List Tok) (k : Nat) : ts.getD k default = b4 ts k := rfl
theorem aqi (e : Int) : acy 0 e = e := if_pos rfl
theorem aqq (ts : List Tok) (k ea : Int) : acw ts k 0 ea = (b4 ts k.toNat).2.1 := if_pos rfl
theorem agh {er : Int} (h : er ≠ 0) (ts : List Tok) (k : Int) (m : Bs) : o9 ts k er m = false := by unfold o9; rw [decide_eq_false h, Bool.false_and]
abbrev KF (r : RsX Ex) (ts : List Tok) (B : List (Nat × Obj)) (ns : List NdV) (k o er ea : Int) (dv : Value) (mn : Int) : Int → Int → Int → Int → Int → Value → Int → List Tok → List NdV → List (Nat × Obj) → Prop :=
 fun i k2 o2 er2 ea2 dv2 mn2 ts2 ns2 B2 => aad r ts B ns k o er ea i k2 o2 er2 ea2 ns2 B2 ∧ dv2 = dv ∧ mn2 = mn ∧ ts2 = ts
section
variable {ts : List Tok} {k o er ea : Int} {B : List (Nat × Obj)} {ns : List NdV} {r : RsX Ex} {i k2 o2 er2 ea2 : Int} {ns2 : List NdV} {B2 : List (Nat × Obj)}
theorem aad.same (h : er ≠ 0) : aad r ts B ns k o er ea i k o er ea ns B := by unfold aad; rw [if_neg h]; exact ⟨rfl, rfl, rfl, rfl, rfl, rfl⟩
theorem aad.stay (h : er ≠ 0) (hf : aad r ts B ns k o er ea i k2 o2 er2 ea2 ns2 B2) : k2 = k ∧ o2 = o ∧ er2 = er ∧ ea2 = ea ∧ ns2 = ns ∧ B2 = B := by unfold aad at hf; rwa [if_neg h] at hf
theorem aad.zero (hf : aad r ts B ns k o 0 ea i k2 o2 er2 ea2 ns2 B2) : Gr ts B ns k k2 o2 er2 ns2 B2 ∧ Res r B2 ns2 ea i k2 o2 er2 ea2 := by unfold aad at hf; rwa [if_pos rfl] at hf
theorem ac1 (hg : Gr ts B ns k k2 o2 er2 ns2 B2) (hr : Res r B2 ns2 ea i k2 o2 er2 ea2) : aad r ts B ns k o 0 ea i k2 o2 er2 ea2 ns2 B2 := by unfold aad; rw [if_pos rfl]; exact ⟨hg, hr⟩
theorem Res.err {x : Int × Int} (h : r = .error x) : Res r B2 ns2 ea i k2 o2 x.1 x.2 := by subst h; exact ⟨rfl, rfl⟩
theorem Res.okE {e : Ex} (h : r = .ok (e, (k2.toNat, o2))) (h0 : 0 ≤ k2) (hn : Nd B2 ns2 e i) : Res r B2 ns2 ea i k2 o2 0 ea := by subst h; exact ⟨⟨rfl, rfl, by dsimp only; omega, rfl⟩, hn⟩
theorem Gr.add {B4 : List (Nat × Obj)} (H : RP ts k o 0 ns) (g : RP ts k2 o2 er2 ns2) (le : k ≤ k2) (ex : ∃ x, ns2 = ns ++ x) (sub : ∀ p ∈ B, p ∈ B4) (rel : (ns2.length : Int) + 1 + k ≤ ns.length + k2 + (if er2 = 0 then 0 else 1)) (d : NdV) : Gr ts B ns k k2 o2 er2 (ns2 ++ [d]) B4 := by
 obtain ⟨x, hx⟩ := ex
 have hn := H.nn
 rw [if_pos rfl] at hn
 have hl : ((ns2 ++ [d]).length : Int) = ns2.length + 1 := by rw [List.length_append, List.length_singleton]; omega
 exact ⟨g.at g.k0 g.k1 g.o0 g.o1 (by rw [hl]; omega), le, ⟨x ++ [d], by rw [hx, List.append_assoc]⟩, sub, by rw [hl]; omega⟩
theorem RP.small (h : RP ts k o er ns) : ns.length ≤ 20000 := by
 have h1 := h.nn
 have h2 := h.k1
 have h3 := h.len
 split at h1 <;> omega
end
section
variable {ts : List Tok} {k : Int}
theorem asu {er : Int} (h : er ≠ 0) : aw6 ts k er := by
 intro pb wa wn ns o ea dv mn B hp
 refine (aou pb wa wn ts ns k o er ea dv mn B (KF (sA ts (k.toNat, o)) ts B ns k o er ea dv mn) ?_).weak ?_
 ·unfold ah9
  rw [if_pos (by rw [decide_eq_false h]; rfl)]
  exact ⟨.same h, rfl, rfl, rfl⟩
 ·rintro x (⟨i, k2, o2, er2, ea2, dv2, mn2, ts2, w2, ns2, B2, ⟨hf, rfl, rfl, rfl⟩, rfl⟩ | h)
  ·exact ⟨w2, i, k2, o2, er2, ea2, ns2, B2, hf, rfl⟩
  ·exact h.elim
theorem atj {er : Int} (h : er ≠ 0) : awk ts k er := by
 intro pb wa wn ns o ea dv mn B hp
 refine (aop pb wa wn ts ns k o er ea dv mn B (KF (sP ts (k.toNat, o)) ts B ns k o er ea dv mn) ?_).weak ?_
 ·unfold aii
  refine ⟨asu h, hp, fun i k2 o2 er2 ea2 ns2 B2 hf => ?_⟩
  obtain ⟨rfl, rfl, rfl, rfl, rfl, rfl⟩ := hf.stay h
  refine ⟨fun a k' ns' B' => k' = k2 ∧ ns' = ns2 ∧ B' = B2, fun _ _ _ _ => 0, ⟨rfl, rfl, rfl⟩, ?_⟩
  rintro a k' ns' B' ⟨rfl, rfl, rfl⟩
  refine ⟨⟨hp.k0, hp.k1⟩, fun _ => ⟨hp.k0, hp.k1⟩, fun _ => ⟨hp.k0, hp.k1⟩, ?_⟩
  rw [if_neg (by rw [agh h, agh h, agh h]; decide)]
  exact ⟨.same h, rfl, rfl, rfl⟩
 ·rintro x (⟨i, k2, o2, er2, ea2, dv2, mn2, ts2, w2, ns2, B2, ⟨hf, rfl, rfl, rfl⟩, rfl⟩ | h)
  ·exact ⟨w2, i, k2, o2, er2, ea2, ns2, B2, hf, rfl⟩
  ·exact h.elim
theorem amy {er : Int} (h : er ≠ 0) (l : Int) : aic ts k er l := by
 intro pb wa wn ns o ea dv mn B hp
 refine (apd pb wa wn ts ns k o er ea dv mn B l (KF (sE ts l.toNat (k.toNat, o)) ts B ns k o er ea dv mn) ?_).weak ?_
 ·unfold aia
  refine ⟨atj h, hp.1, fun i k2 o2 er2 ea2 ns2 B2 hf => ?_⟩
  obtain ⟨rfl, rfl, rfl, rfl, rfl, rfl⟩ := hf.stay h
  refine ⟨fun a k' o' er' ea' ns' B' => k' = k2 ∧ o' = o2 ∧ er' = er2 ∧ ea' = ea2 ∧ ns' = ns2 ∧ B' = B2, fun _ _ _ _ _ _ _ => 0, ⟨rfl, rfl, rfl, rfl, rfl, rfl⟩, ?_⟩
  rintro a k' o' er' ea' ns' B' ⟨rfl, rfl, rfl, rfl, rfl, rfl⟩
  refine ⟨fun _ => ⟨hp.1.k0, hp.1.k1⟩, ?_⟩
  rw [if_neg (by rw [decide_eq_false h, Bool.false_and]; decide)]
  exact ⟨.same h, rfl, rfl, rfl⟩
 ·rintro x (⟨i, k2, o2, er2, ea2, dv2, mn2, ts2, w2, ns2, B2, ⟨hf, rfl, rfl, rfl⟩, rfl⟩ | h)
  ·exact ⟨w2, i, k2, o2, er2, ea2, ns2, B2, hf, rfl⟩
  ·exact h.elim
theorem auz (h : aw6 ts k 0) : awk ts k 0 := by
 intro pb wa wn ns o ea dv mn B hp
 refine (aop pb wa wn ts ns k o 0 ea dv mn B (KF (sP ts (k.toNat, o)) ts B ns k o 0 ea dv mn) ?_).weak ?_
 ·unfold aii
  simp only [aww]
  refine ⟨h, hp, fun i k2 o2 er2 ea2 ns2 B2 hf => ?_⟩
  obtain ⟨hg, hr⟩ := hf.zero
  cases hA : sA ts (k.toNat, o) with
  | error x =>
   rw [hA] at hr
   obtain ⟨rfl, rfl⟩ := hr
   have hx : x.1 ≠ 0 := ((ao5 ts _).a _ _ hA).nz
   have hb := hg.rp
   refine ⟨fun a k' ns' B' => k' = k2 ∧ ns' = ns2 ∧ B' = B2, fun _ _ _ _ => 0, ⟨rfl, rfl, rfl⟩, ?_⟩
   rintro a k' ns' B' ⟨rfl, rfl, rfl⟩
   refine ⟨⟨hb.k0, hb.k1⟩, fun _ => ⟨hb.k0, hb.k1⟩, fun _ => ⟨hb.k0, hb.k1⟩, ?_⟩
   rw [if_neg (by rw [agh hx, agh hx, agh hx]; decide)]
   exact ⟨ac1 hg (.err (by rw [arb, hA])), rfl, rfl, rfl⟩
  | ok y =>
   obtain ⟨e, q⟩ := y
   rw [hA] at hr
   obtain ⟨⟨rfl, rfl, hk2, ho2⟩, hn⟩ := hr
   have hq : q = (k2.toNat, o2) := Prod.ext (by dsimp only; omega) (by rw [ho2])
   refine ⟨fun a k' ns' B' => Gr ts B ns k k' o2 0 ns' B' ∧ ∃ e', sP ts (k.toNat, o) = sS ts e' (k'.toNat, o2) ∧ Nd B' ns' e' a, fun _ k' _ _ => (ts.length - k').toNat, ⟨hg, e, by rw [arb, hA, hq], hn⟩, ?_⟩
   rintro a k' ns' B' ⟨g, e', s1, s2⟩
   have hb := g.rp
   have kk : 0 ≤ k' ∧ k' < (ts.length : Int) := ⟨hb.k0, hb.k1⟩
   refine ⟨kk, fun _ => kk, fun _ => kk, ?_⟩
   rw [ajl, ajl, ajl]
   by_cases hm : isM ts k'.toNat [42] = true ∨ isM ts k'.toNat [43] = true ∨ isM ts k'.toNat [63] = true
   ·rw [if_pos (by rw [Bool.or_eq_true, Bool.or_eq_true, or_assoc]; exact hm)]
    have hl : k' + 1 < (ts.length : Int) := by rcases hm with hm | hm | hm <;> exact hb.nextM hm
    have gr := g.rel
    rw [if_pos rfl] at gr
    have hlen := hb.len
    refine ⟨kk, kk, fun b => ⟨hb.small, rfl, by unfold I64; omega, ⟨Gr.add hp (hb.at (by omega) hl hb.o0 hb.o1 (by have := hb.nn; rw [if_pos rfl] at this ⊢; omega)) (by have := g.le; omega) g.ex (fun p hq => List.mem_cons_of_mem _ (g.sub p hq)) (by rw [if_pos rfl]; omega) _, .unary (b4 ts k'.toNat).2.1 (b4 ts k'.toNat).2.2 e', ?_, ?_⟩, by show (ts.length - (k' + 1)).toNat < (ts.length - k').toNat; omega⟩⟩
    ·rw [s1, ar0, if_pos hm, show (k' + 1).toNat = k'.toNat + 1 by omega]
    ·rw [Nd]
     exact ⟨_, a, Nd.last, axs b a B', Nd.more (fun p hp => List.mem_cons_of_mem _ hp) _ _ _ _ s2⟩
   ·rw [if_neg (by rw [Bool.or_eq_true, Bool.or_eq_true, or_assoc]; exact hm)]
    exact ⟨ac1 g (.okE (by rw [s1, ar0, if_neg hm]) kk.1 s2), rfl, rfl, rfl⟩
 ·rintro x (⟨i, k2, o2, er2, ea2, dv2, mn2, ts2, w2, ns2, B2, ⟨hf, rfl, rfl, rfl⟩, rfl⟩ | h)
  ·exact ⟨w2, i, k2, o2, er2, ea2, ns2, B2, hf, rfl⟩
  ·exact h.elim
theorem avm (h : awk ts k 0) (hE : ∀ k2, k < k2 → ∀ l, aic ts k2 0 l) (l : Int) : aic ts k 0 l := by
 intro pb wa wn ns o ea dv mn B hp
 obtain ⟨hp, hl0, hl5⟩ := hp
 refine (apd pb wa wn ts ns k o 0 ea dv mn B l (KF (sE ts l.toNat (k.toNat, o)) ts B ns k o 0 ea dv mn) ?_).weak ?_
 ·unfold aia
  refine ⟨h, hp, fun i k2 o2 er2 ea2 ns2 B2 hf => ?_⟩
  obtain ⟨hg, hr⟩ := hf.zero
  have hEP := E_P (ts := ts) (q := (k.toNat, o)) (r := l.toNat) (by omega)
  refine ⟨fun a k' o' er' ea' ns' B' => Gr ts B ns k k' o' er' ns' B' ∧ (er' = 0 → ea' = ea ∧ ∃ e, sE ts l.toNat (k.toNat, o) = W ts l.toNat (5 - l.toNat) e (k'.toNat, o') ∧ Nd B' ns' e a) ∧ (er' ≠ 0 → sE ts l.toNat (k.toNat, o) = .error (er', ea')), fun _ k' _ _ _ _ _ => (ts.length - k').toNat, ⟨hg, fun h0 => ?_, fun h0 => ?_⟩, ?_⟩
  ·cases hP : sP ts (k.toNat, o) with
   | error x => rw [hP] at hr; exact absurd (hr.1 ▸ h0) ((ao5 ts _).p _ _ hP).nz
   | ok y =>
    obtain ⟨e, q⟩ := y
    rw [hP] at hr hEP
    obtain ⟨⟨_, h2, h3, h4⟩, hn⟩ := hr
    have hq : q = (k2.toNat, o2) := Prod.ext (by dsimp only; omega) (by rw [h4])
    exact ⟨h2, e, by rw [hEP, hq], hn⟩
  ·cases hP : sP ts (k.toNat, o) with
   | error x => rw [hP] at hr hEP; rw [hEP]; show (.error x : RsX Ex) = _; rw [hr.1, hr.2]
   | ok y => obtain ⟨e, q⟩ := y; rw [hP] at hr; exact absurd hr.1.1 h0
  ·rintro a k' o' er' ea' ns' B' ⟨g, i1, i2⟩
   have hb := g.rp
   have kk : 0 ≤ k' ∧ k' < (ts.length : Int) := ⟨hb.k0, hb.k1⟩
   refine ⟨fun _ => kk, ?_⟩
   by_cases he : er' = 0
   ·subst he
    obtain ⟨rfl, e, s1, s2⟩ := i1 rfl
    by_cases h4 : (b4 ts k'.toNat).1 = 4
    ·rw [if_pos (by rw [Bool.and_eq_true, decide_eq_true_eq, decide_eq_true_eq]; exact ⟨rfl, h4⟩)]
     refine ⟨kk, ?_⟩
     by_cases hlt : d8 (b4 ts k'.toNat).2.2 < l
     ·rw [if_pos (by rw [decide_eq_true_eq]; exact hlt)]
      exact ⟨ac1 g (.okE (by rw [s1]; exact aqm (by rintro ⟨_, g2⟩; dsimp only at g2; omega) _) kk.1 s2), rfl, rfl, rfl⟩
     ·rw [if_neg (by rw [decide_eq_true_eq]; exact hlt)]
      have hr4 := (am7 (b4 ts k'.toNat).2.2).2
      have hl : k' + 1 < (ts.length : Int) := hb.next (by rw [h4]; decide)
      have gr := g.rel
      have gle := g.le
      rw [if_pos rfl] at gr
      have hnn := hb.nn
      rw [if_pos rfl] at hnn
      have hlen := hb.len
      refine ⟨kk, by unfold I64; omega, show I64 (d8 (b4 ts k'.toNat).2.2 + 1) by unfold I64; omega, hE _ (by omega) _, ⟨hb.at (by omega) hl hb.o0 hb.o1 (by rw [if_pos rfl]; omega), show 0 ≤ d8 (b4 ts k'.toNat).2.2 + 1 by omega, show d8 (b4 ts k'.toNat).2.2 + 1 ≤ 5 by omega⟩, fun i3 k3 o3 er3 ea3 ns3 B3 hf3 => ?_⟩
      have hf3 : aad (sE ts (d8 (b4 ts k'.toNat).2.2 + 1).toNat ((k' + 1).toNat, o')) ts B' ns' (k' + 1) o' 0 ea' i3 k3 o3 er3 ea3 ns3 B3 := hf3
      obtain ⟨g3, r3⟩ := hf3.zero
      have gr3 := g3.rel
      have gle3 := g3.le
      intro b R hR
      have hex : ∃ x, ns3 = ns ++ x := by
       obtain ⟨x, hx⟩ := g.ex
       obtain ⟨y, hy⟩ := g3.ex
       exact ⟨x ++ y, by rw [hy, hx, List.append_assoc]⟩
      obtain ⟨y3, hy3⟩ := g3.ex
      have hrk : d8 (b4 ts (k'.toNat)).2.2 = (((d8 (b4 ts k'.toNat).2.2).toNat : Nat) : Int) := by omega
      have hW := axx (ts := ts) (r := l.toNat) (k := (d8 (b4 ts k'.toNat).2.2).toNat) (a := e) (q := (k'.toNat, o')) h4 hrk (by omega) (by omega)
      rw [show ((d8 (b4 ts k'.toNat).2.2).toNat + 1) = (d8 (b4 ts k'.toNat).2.2 + 1).toNat by omega] at hW
      dsimp only at hW
      rw [show k'.toNat + 1 = (k' + 1).toNat by omega] at hW
      refine ⟨g3.rp.small, rfl, ⟨Gr.add hp g3.rp (by omega) hex (fun p hq => List.mem_append_right _ (g3.sub p (g.sub p hq))) (by omega) _, fun h0 => ?_, fun h0 => ?_⟩, by show (ts.length - k3).toNat < (ts.length - k').toNat; omega⟩
      ·cases hq : sE ts (d8 (b4 ts k'.toNat).2.2 + 1).toNat ((k' + 1).toNat, o') with
       | error x => rw [hq] at r3; exact absurd (r3.1 ▸ h0) (ai1 hq)
       | ok y =>
        obtain ⟨e3, q3⟩ := y
        rw [hq] at r3 hW
        obtain ⟨⟨_, h2, h3, h4'⟩, hn⟩ := r3
        have hq3 : q3 = (k3.toNat, o3) := Prod.ext (by dsimp only; omega) (by rw [h4'])
        refine ⟨h2, .binary (b4 ts k'.toNat).2.1 (b4 ts k'.toNat).2.2 e e3, by rw [s1, hW, hq3], ?_⟩
        rw [Nd]
        refine ⟨_, a, i3, Nd.last, hR.parts, ?_, Nd.more (fun p hq => List.mem_append_right _ hq) _ _ _ _ hn⟩
        rw [hy3, List.append_assoc]
        exact Nd.more (fun p hq => List.mem_append_right _ (g3.sub p hq)) _ _ _ _ s2
      ·cases hq : sE ts (d8 (b4 ts k'.toNat).2.2 + 1).toNat ((k' + 1).toNat, o') with
       | error x => rw [hq] at r3 hW; rw [s1, hW, r3.1, r3.2]
       | ok y => obtain ⟨e3, q3⟩ := y; rw [hq] at r3; exact absurd r3.1.1 h0
    ·rw [if_neg (by rw [Bool.and_eq_true, decide_eq_true_eq, decide_eq_true_eq]; exact fun x => h4 x.2)]
     exact ⟨ac1 g (.okE (by rw [s1]; exact aqm (fun x => h4 x.1) _) kk.1 s2), rfl, rfl, rfl⟩
   ·rw [if_neg (by rw [Bool.and_eq_true, decide_eq_true_eq, decide_eq_true_eq]; exact fun x => he x.1)]
    exact ⟨ac1 g (.err (x := (er', ea')) (i2 he)), rfl, rfl, rfl⟩
 ·rintro x (⟨i, k2, o2, er2, ea2, dv2, mn2, ts2, w2, ns2, B2, ⟨hf, rfl, rfl, rfl⟩, rfl⟩ | h)
  ·exact ⟨w2, i, k2, o2, er2, ea2, ns2, B2, hf, rfl⟩
  ·exact h.elim
end
section
variable {ts : List Tok} {k o ea : Int} {B : List (Nat × Obj)} {ns : List NdV}
theorem axg {m m2 : Bs} (u : Ex → Ex) (H : RP ts k o 0 ns) (hm : m = [40] ∨ m = [123]) (hm2 : m2 = [41] ∨ m2 = [125]) {k1 o1 e1 a1 : Int} (w1 : abh ts k o 0 ea m = (k1, o1, e1, a1)) :
  RP ts k1 o1 e1 ns ∧ (e1 = 0 → k < k1) ∧ ∀ {i k2 o2 e2 a2 : Int} {ns2 : List NdV} {B2 : List (Nat × Obj)}, aad (sE ts 0 (k1.toNat, o1)) ts B ns k1 o1 e1 a1 i k2 o2 e2 a2 ns2 B2 → RP ts k2 o2 e2 ns2 ∧
   ∀ {k3 o3 e3 a3 : Int}, abh ts k2 o2 e2 a2 m2 = (k3, o3, e3, a3) → (RP ts k3 o3 e3 ns2 ∧ k ≤ k3 ∧ (∃ x, ns2 = ns ++ x) ∧ (∀ p ∈ B, p ∈ B2) ∧ (ns2.length : Int) + 1 + k ≤ ns.length + k3 + (if e3 = 0 then 0 else 1)) ∧
    (e3 = 0 → a3 = ea ∧ ∃ e', brM ts m m2 u (k.toNat, o) = .ok (u e', (k3.toNat, o3)) ∧ Nd B2 ns2 e' i) ∧ (e3 ≠ 0 → brM ts m m2 u (k.toNat, o) = .error (e3, a3)) := by
 have s1 := amn hm H.k0 H.o1 w1
 obtain ⟨r1, c1⟩ := arz H s1
 have h0 := H.o0
 rcases c1 with ⟨rfl, en, hk1, ho1, ha1⟩ | ⟨hne, en, hk1, ho1⟩
 ·refine ⟨r1, fun _ => by omega, fun {i k2 o2 e2 a2 ns2 B2} hf => ?_⟩
  obtain ⟨g, r⟩ := hf.zero
  have gr := g.rel
  have gle := g.le
  refine ⟨g.rp, fun {k3 o3 e3 a3} w2 => ?_⟩
  by_cases h2 : e2 = 0
  ·subst h2
   rw [if_pos rfl] at gr
   cases hq : sE ts 0 (k1.toNat, o1) with
   | error x => rw [hq] at r; exact absurd r.1.symm (ai1 hq)
   | ok y =>
    obtain ⟨e, q⟩ := y
    rw [hq] at r
    obtain ⟨⟨_, h3, h4, h5⟩, hn⟩ := r
    have hpg := (acu hq).2.2
    dsimp only at hpg
    have hqq : q = (k2.toNat, o2) := Prod.ext (by dsimp only; omega) (by rw [h5])
    obtain ⟨r3, c3⟩ := apc g.rp (by omega) (ajx hm2 g.rp.k0 w2)
    rcases c3 with ⟨rfl, lv, hk3, ho3, ha3⟩ | ⟨hn3, lv, hk3, ho3⟩
    ·refine ⟨⟨r3, by omega, g.ex, g.sub, by rw [if_pos rfl]; omega⟩, fun _ => ⟨by rw [ha3, h3, ha1], e, ?_, hn⟩, fun h => absurd rfl h⟩
     unfold brM
     rw [en]; dsimp only
     rw [hq]; dsimp only
     rw [hqq, lv]
    ·refine ⟨⟨r3, by omega, g.ex, g.sub, by rw [if_neg hn3]; omega⟩, fun h => absurd h hn3, fun _ => ?_⟩
     unfold brM
     rw [en]; dsimp only
     rw [hq]; dsimp only
     rw [hqq, lv]
  ·rw [if_neg h2] at gr
   obtain ⟨rfl, rfl, rfl, rfl⟩ := ajs h2 w2
   refine ⟨⟨g.rp, by omega, g.ex, g.sub, by rw [if_neg h2]; omega⟩, fun h => absurd h h2, fun _ => ?_⟩
   cases hq : sE ts 0 (k1.toNat, o1) with
   | error x =>
    rw [hq] at r
    unfold brM
    rw [en]; dsimp only
    rw [hq, r.1, r.2]
   | ok y => obtain ⟨e, q⟩ := y; rw [hq] at r; exact absurd r.1.1 h2
 ·refine ⟨r1, fun h => absurd h hne, fun {i k2 o2 e2 a2 ns2 B2} hf => ?_⟩
  obtain ⟨rfl, rfl, rfl, rfl, rfl, rfl⟩ := hf.stay hne
  refine ⟨r1, fun {k3 o3 e3 a3} w2 => ?_⟩
  obtain ⟨rfl, rfl, rfl, rfl⟩ := ajs hne w2
  refine ⟨⟨r1, by omega, ⟨[], by simp⟩, fun _ hp => hp, by rw [if_neg hne]; omega⟩, fun h => absurd h hne, fun _ => ?_⟩
  unfold brM
  rw [en]
end
section
variable {ts : List Tok} {k : Int}
theorem avo (hE : ∀ k2, k < k2 → ∀ l, aic ts k2 0 l) : aw6 ts k 0 := by
 intro pb wa wn ns o ea dv mn B hp
 refine (aou pb wa wn ts ns k o 0 ea dv mn B (KF (sA ts (k.toNat, o)) ts B ns k o 0 ea dv mn) ?_).weak ?_
 ·unfold ah9
  have kk : 0 ≤ k ∧ k < (ts.length : Int) := ⟨hp.k0, hp.k1⟩
  have hn := hp.nn
  rw [if_pos rfl] at hn
  have hlen := hp.len
  have fe : ∀ k1 e1 : Int, (e1 = 0 → k < k1) → aic ts k1 e1 0 := fun k1 e1 h => by
   by_cases h0 : e1 = 0
   ·subst h0; exact hE _ (h rfl) _
   ·exact amy h0 _
  have leaf : ∀ {e : Ex} (d : NdV), sA ts (k.toNat, o) = .ok (e, (k.toNat + 1, o)) → k + 1 < (ts.length : Int) → Nd B (ns ++ [d]) e (ns.length : Int) → KF (sA ts (k.toNat, o)) ts B ns k o 0 ea dv mn (ns.length : Int) (k + 1) o 0 ea dv mn ts (ns ++ [d]) B := fun {e} d hA hl hN =>
   ⟨ac1 (Gr.add hp (hp.at (by omega) hl hp.o0 hp.o1 (by rw [if_pos rfl]; omega)) (by omega) ⟨[], by simp⟩ (fun _ h => h) (by rw [if_pos rfl]; omega) d) (.okE (by rw [hA, show (k + 1).toNat = k.toNat + 1 by omega]) (by omega) hN), rfl, rfl, rfl⟩
  have fl : sA ts (k.toNat, o) = .error (60, (b4 ts k.toNat).2.1) → KF (sA ts (k.toNat, o)) ts B ns k o 0 ea dv mn 0 k o (acy 0 60) (acw ts k 0 ea) dv mn ts ns B := fun hA => by
   rw [aqi, aqq]
   exact ⟨ac1 (Gr.step (hp.fault (by decide)) (Int.le_refl k)) (.err hA), rfl, rfl, rfl⟩
  rw [if_neg (by decide)]
  refine ⟨kk, ?_⟩
  by_cases h2 : (b4 ts k.toNat).1 = 2
  ·rw [if_pos (by rw [decide_eq_true_eq]; exact h2)]
   exact ⟨by unfold I64; omega, hp.small, rfl, leaf (e := .text (b4 ts k.toNat).2.1 (b4 ts k.toNat).2.2) _ (by rw [ady, if_pos h2]) (hp.next (by rw [h2]; decide)) (by rw [Nd]; exact Nd.last)⟩
  rw [if_neg (by rw [decide_eq_true_eq]; exact h2)]
  by_cases h3 : (b4 ts k.toNat).1 = 3
  ·rw [if_pos (by rw [decide_eq_true_eq]; exact h3)]
   exact ⟨by unfold I64; omega, hp.small, rfl, leaf (e := .regex (b4 ts k.toNat).2.1 (b4 ts k.toNat).2.2) _ (by rw [ady, if_neg h2, if_pos h3]) (hp.next (by rw [h3]; decide)) (by rw [Nd]; exact Nd.last)⟩
  rw [if_neg (by rw [decide_eq_true_eq]; exact h3)]
  by_cases h1 : (b4 ts k.toNat).1 = 1
  ·rw [if_pos (by rw [decide_eq_true_eq]; exact h1)]
   have ha := api (b4 ts k.toNat).2.2
   have nM : ∀ m, ¬ isM ts k.toNat m = true := fun m x => by have := (aaa x).1; rw [h1] at this; exact absurd this (by decide)
   by_cases hneg : d6 (b4 ts k.toNat).2.2 < 0
   ·rw [if_pos (by rw [decide_eq_true_eq]; exact hneg)]
    exact ⟨kk, fl (by rw [ady, if_neg h2, if_neg h3, if_neg (fun x => by have := x.2; dsimp only at this; omega), if_neg (fun x => by have := x.2; dsimp only at this; omega), if_neg (nM _), if_neg (nM _)])⟩
   rw [if_neg (by rw [decide_eq_true_eq]; exact hneg)]
   refine ⟨by unfold I64; omega, ?_⟩
   by_cases h0 : d6 (b4 ts k.toNat).2.2 = 0
   ·rw [if_pos (by rw [decide_eq_true_eq]; exact h0)]
    exact ⟨hp.small, rfl, leaf (e := .name (b4 ts k.toNat).2.1 (b4 ts k.toNat).2.2) _ (by rw [ady, if_neg h2, if_neg h3, if_neg (fun x => by have := x.2; dsimp only at this; omega), if_pos ⟨h1, h0⟩]) (hp.next (by rw [h1]; decide)) (by rw [Nd]; exact Nd.last)⟩
   rw [if_neg (by rw [decide_eq_true_eq]; exact h0)]
   have hl := hp.next (by rw [h1]; decide)
   have hsA : sA ts (k.toNat, o) = sC ts (k.toNat, o) := by rw [ady, if_neg h2, if_neg h3, if_pos ⟨h1, by dsimp only; omega⟩]
   have hsC := axh (ts := ts) (q := (k.toNat, o)) (by rw [h1]; decide)
   dsimp only at hsC
   have hp1 : RP ts (k + 1) o 0 ns := hp.at (by omega) hl hp.o0 hp.o1 (by rw [if_pos rfl]; omega)
   refine ⟨⟨⟨by omega, hl⟩, ⟨hp.o0, hp.o1⟩, hlen⟩, fun k1 o1 e1 a1 w1 => ?_⟩
   obtain ⟨r1, c1⟩ := arz hp1 (amn (.inl rfl) (by omega) hp.o1 w1)
   rw [show (k + 1).toNat = k.toNat + 1 by omega] at c1
   have hle1 : k + 1 ≤ k1 := by rcases c1 with c | c <;> omega
   refine ⟨fun j k' o' e' a' ns' B' js => Gr ts B ns (k + 1) k' o' e' ns' B' ∧ j = (js.length : Int) ∧ js.length ≤ 3 ∧
    (e' = 0 → a' = ea ∧ o' = o + 1 ∧ ∃ l, n8 ts (k.toNat + 1, o) [40] = .ok (k.toNat + 2, o + 1) ∧ sR ts (d6 (b4 ts k.toNat).2.2).toNat .nil (k.toNat + 2, o + 1) = sR ts (d6 (b4 ts k.toNat).2.2).toNat l (k'.toNat, o') ∧ NdL B' ns' l js) ∧
    (e' ≠ 0 → sC ts (k.toNat, o) = .error (e', a')), fun j _ _ _ _ _ _ _ => (3 - j).toNat, ⟨Gr.step r1 hle1, rfl, by decide, fun h => ?_, fun h => ?_⟩, ?_⟩
   ·rcases c1 with ⟨_, en, hk1, ho1, ha1⟩ | ⟨hne, _⟩
    ·refine ⟨ha1, ho1, .nil, by rw [en, ho1, show k1.toNat = k.toNat + 2 by omega], by rw [ho1, show k1.toNat = k.toNat + 2 by omega], by rw [NdL]⟩
    ·exact absurd h hne
   ·rcases c1 with ⟨h0, _⟩ | ⟨hne, en, _⟩
    ·exact absurd h0 h
    ·rw [hsC, en]
   rintro j k' o' e' a' ns' B' js ⟨g, rfl, hj3, i1, i2⟩
   have hb := g.rp
   have kk' : 0 ≤ k' ∧ k' < (ts.length : Int) := ⟨hb.k0, hb.k1⟩
   have gle := g.le
   have gr := g.rel
   by_cases hc : (js.length : Int) < d6 (b4 ts k.toNat).2.2 ∧ e' = 0
   ·obtain ⟨hc1, rfl⟩ := hc
    obtain ⟨rfl, rfl, l, en, hR, hL⟩ := i1 rfl
    have hll := hL.len
    rw [if_pos (by rw [Bool.and_eq_true, decide_eq_true_eq, decide_eq_true_eq]; exact ⟨hc1, rfl⟩)]
    have hR2 := aro (ts := ts) (n := (d6 (b4 ts k.toNat).2.2).toNat) (b := l) (q := (k'.toNat, o + 1))
    rw [if_neg (by omega)] at hR2
    rw [en] at hsC
    dsimp only at hsC
    rw [hR] at hsC
    refine ⟨fun p2 q2 e2 a2 => agy (if 0 < l.len then p6 ts (k'.toNat, o + 1) [44] else .ok (k'.toNat, o + 1)) k' (o + 1) a' p2 q2 e2 a2, fun p2 q2 e2 a2 hj => ?_, ?_⟩
    ·have hst : RP ts p2 q2 e2 ns' ∧ k' ≤ p2 ∧ ((e2 = 0 ∧ (if 0 < l.len then p6 ts (k'.toNat, o + 1) [44] else .ok (k'.toNat, o + 1)) = .ok (p2.toNat, q2) ∧ q2 = o + 1 ∧ a2 = a') ∨ (e2 ≠ 0 ∧ (if 0 < l.len then p6 ts (k'.toNat, o + 1) [44] else .ok (k'.toNat, o + 1)) = .error (e2, a2))) := by
      by_cases h0 : 0 < l.len
      ·rw [if_pos h0] at hj ⊢
       obtain ⟨r2, c2⟩ := am6 hb hj
       rcases c2 with ⟨z1, z2, z3, z4, z5⟩ | ⟨z1, z2, z3, z4⟩
       ·exact ⟨r2, by omega, .inl ⟨z1, z2, z4, z5⟩⟩
       ·exact ⟨r2, by omega, .inr ⟨z1, z2⟩⟩
      ·rw [if_neg h0] at hj ⊢
       obtain ⟨z1, z2, z3, z4⟩ := hj
       dsimp only at z3 z4
       have z5 : p2 = k' := by omega
       subst z5; subst z1; subst z4
       exact ⟨hb, Int.le_refl _, .inl ⟨rfl, rfl, rfl, z2⟩⟩
     obtain ⟨r2, l2, c2⟩ := hst
     refine ⟨fe p2 e2 (fun _ => by omega), ⟨r2, by decide, by decide⟩, fun i3 k3 o3 e3 a3 ns3 B3 hf => ⟨⟨by omega, by omega⟩, by unfold I64; omega, ?_, by show (3 - ((js.length : Int) + 1)).toNat < (3 - (js.length : Int)).toNat; omega⟩⟩
     have hf : aad (sE ts 0 (p2.toNat, q2)) ts B' ns' p2 q2 e2 a2 i3 k3 o3 e3 a3 ns3 B3 := hf
     have hjl : ((js ++ [i3]).length : Int) = js.length + 1 := by rw [List.length_append, List.length_singleton]; omega
     rcases c2 with ⟨rfl, z2, rfl, rfl⟩ | ⟨hne, z2⟩
     ·obtain ⟨g3, r3⟩ := hf.zero
      rw [z2] at hR2
      dsimp only at hR2
      obtain ⟨y3, hy3⟩ := g3.ex
      refine ⟨(g.trans (Gr.step r2 l2)).trans g3, by rw [hjl], by omega, fun h => ?_, fun h => ?_⟩
      ·cases hq : sE ts 0 (p2.toNat, o + 1) with
       | error x => rw [hq] at r3; exact absurd (r3.1 ▸ h) (ai1 hq)
       | ok y =>
        obtain ⟨e, q⟩ := y
        rw [hq] at r3 hR2
        obtain ⟨⟨_, h3, h4, h5⟩, hN⟩ := r3
        have hpg := (acu hq).2.2
        dsimp only at hpg
        refine ⟨h3, by omega, l.snoc e, en, ?_, ?_⟩
        ·rw [hR, hR2]; dsimp only; rw [show q = (k3.toNat, o3) from Prod.ext (by dsimp only; omega) (by rw [h5])]
        ·subst hy3
         exact NdL.snoc hN (NdL.more g3.sub _ _ _ _ hL)
      ·cases hq : sE ts 0 (p2.toNat, o + 1) with
       | error x => rw [hq] at r3 hR2; rw [hsC, hR2, r3.1, r3.2]
       | ok y => obtain ⟨e, q⟩ := y; rw [hq] at r3; exact absurd r3.1.1 h
     ·obtain ⟨rfl, rfl, rfl, rfl, rfl, rfl⟩ := hf.stay hne
      rw [z2] at hR2
      exact ⟨g.trans (Gr.step r2 l2), by rw [hjl], by omega, fun h => absurd h hne, fun _ => by rw [hsC, hR2]⟩
    ·by_cases h0 : 0 < l.len
     ·rw [if_pos (by rw [decide_eq_true_eq]; omega)]
      refine ⟨⟨kk', ⟨hb.o0, hb.o1⟩, hlen⟩, fun k4 o4 e4 a4 w4 => ?_⟩
      rw [if_pos h0]
      exact ai0 (by decide) (by decide) hb.k0 w4
     ·rw [if_neg (by rw [decide_eq_true_eq]; omega), if_neg h0]
      exact ⟨rfl, rfl, by dsimp only; omega, rfl⟩
   ·rw [if_neg (by rw [Bool.and_eq_true, decide_eq_true_eq, decide_eq_true_eq]; exact hc)]
    refine ⟨⟨kk', ⟨hb.o0, hb.o1⟩, hlen⟩, fun k4 o4 e4 a4 w4 w R hR => ⟨hb.small, hR.one, ?_⟩⟩
    by_cases he : e' = 0
    ·subst he
     obtain ⟨rfl, rfl, l, en, hRr, hL⟩ := i1 rfl
     have hll := hL.len
     rw [if_pos rfl] at gr
     have hsr : sR ts (d6 (b4 ts k.toNat).2.2).toNat l (k'.toNat, o + 1) = .ok (l, (k'.toNat, o + 1)) := by
      rw [aro, if_pos]
      have : ¬ (js.length : Int) < d6 (b4 ts k.toNat).2.2 := fun x => hc ⟨x, rfl⟩
      omega
     rw [en] at hsC
     dsimp only at hsC
     rw [hRr, hsr] at hsC
     dsimp only at hsC
     have h00 := hp.o0
     obtain ⟨r4, c4⟩ := apc hb (by omega) (ajx (.inl rfl) hb.k0 w4)
     rcases c4 with ⟨rfl, lv, hk4, ho4, ha4⟩ | ⟨hne, lv, hk4, ho4⟩
     ·rw [lv] at hsC
      dsimp only at hsC
      rw [← hsA] at hsC
      have hN : Nd (R ++ B') (ns' ++ [((4, (b4 ts k.toNat).2.1, (b4 ts k.toNat).2.2, w) : NdV)]) (.call (b4 ts k.toNat).2.1 (b4 ts k.toNat).2.2 l) (ns'.length : Int) := by
       rw [Nd]
       exact ⟨w, js, Nd.last, hR.parts, NdL.more (fun p hq => List.mem_append_right _ hq) _ _ _ _ hL⟩
      refine ⟨ac1 (Gr.add hp r4 (by omega) g.ex (fun p hq => List.mem_append_right _ (g.sub p hq)) (by rw [if_pos rfl]; omega) _) ?_, rfl, rfl, rfl⟩
      rw [ha4]
      exact .okE hsC r4.k0 hN
     ·rw [lv] at hsC
      dsimp only at hsC
      rw [← hsA] at hsC
      exact ⟨ac1 (Gr.add hp r4 (by omega) g.ex (fun p hq => List.mem_append_right _ (g.sub p hq)) (by rw [if_neg hne]; omega) _) (.err hsC), rfl, rfl, rfl⟩
    ·obtain ⟨rfl, rfl, rfl, rfl⟩ := ajs he w4
     rw [if_neg he] at gr
     exact ⟨ac1 (Gr.add hp hb (by omega) g.ex (fun p hq => List.mem_append_right _ (g.sub p hq)) (by rw [if_neg he]; omega) _) (.err (x := (e4, a4)) (by rw [hsA]; exact i2 he)), rfl, rfl, rfl⟩
  rw [if_neg (by rw [decide_eq_true_eq]; exact h1)]
  have n1 : ∀ c : Prop, ¬ ((b4 ts k.toNat).1 = 1 ∧ c) := fun c x => h1 x.1
  refine ⟨kk, ?_⟩
  rw [ajl]
  by_cases h5 : isM ts k.toNat [40] = true
  ·rw [if_pos h5]
   have n5 : ¬ isM ts k.toNat [123] = true := fun x => by have := (aaa x).2.1; rw [(aaa h5).2.1] at this; exact absurd this (by decide)
   have hsA : sA ts (k.toNat, o) = brM ts [40] [41] (fun a => a) (k.toNat, o) := by rw [ady, if_neg h2, if_neg h3, if_neg (n1 _), if_neg (n1 _), if_neg n5, if_pos h5]
   refine ⟨⟨kk, ⟨hp.o0, hp.o1⟩, hlen⟩, fun k1 o1 e1 a1 w1 => ?_⟩
   obtain ⟨r1, hk, br⟩ := axg (B := B) (fun a => a) hp (.inl rfl) (.inl rfl) w1
   refine ⟨fe k1 e1 hk, ⟨r1, by decide, by decide⟩, fun i k2 o2 e2 a2 ns2 B2 hf => ?_⟩
   obtain ⟨r2, br2⟩ := br hf
   refine ⟨⟨⟨r2.k0, r2.k1⟩, ⟨r2.o0, r2.o1⟩, hlen⟩, fun k3 o3 e3 a3 w3 => ?_⟩
   obtain ⟨⟨q1, q2, q3, q4, q5⟩, q6, q7⟩ := br2 w3
   rw [← hsA] at q6 q7
   refine ⟨ac1 ⟨q1, q2, q3, q4, by omega⟩ ?_, rfl, rfl, rfl⟩
   by_cases he : e3 = 0
   ·subst he
    obtain ⟨rfl, e', z1, z2⟩ := q6 rfl
    exact .okE z1 q1.k0 z2
   ·exact .err (x := (e3, a3)) (q7 he)
  rw [if_neg h5]
  refine ⟨kk, ?_⟩
  rw [ajl]
  by_cases h6 : isM ts k.toNat [123] = true
  ·rw [if_pos h6]
   have hsA : sA ts (k.toNat, o) = brM ts [123] [125] (.keyed (b4 ts k.toNat).2.1) (k.toNat, o) := by rw [ady, if_neg h2, if_neg h3, if_neg (n1 _), if_neg (n1 _), if_pos h6]
   refine ⟨⟨kk, ⟨hp.o0, hp.o1⟩, hlen⟩, fun k1 o1 e1 a1 w1 => ?_⟩
   obtain ⟨r1, hk, br⟩ := axg (B := B) (.keyed (b4 ts k.toNat).2.1) hp (.inr rfl) (.inr rfl) w1
   refine ⟨fe k1 e1 hk, ⟨r1, by decide, by decide⟩, fun i k2 o2 e2 a2 ns2 B2 hf => ?_⟩
   obtain ⟨r2, br2⟩ := br hf
   refine ⟨⟨⟨r2.k0, r2.k1⟩, ⟨r2.o0, r2.o1⟩, hlen⟩, fun k3 o3 e3 a3 w3 b R hR => ⟨r2.small, rfl, ?_⟩⟩
   obtain ⟨⟨q1, q2, q3, q4, q5⟩, q6, q7⟩ := br2 w3
   rw [← hsA] at q6 q7
   refine ⟨ac1 (Gr.add hp q1 q2 q3 (fun p hq => List.mem_append_right _ (q4 p hq)) q5 _) ?_, rfl, rfl, rfl⟩
   by_cases he : e3 = 0
   ·subst he
    obtain ⟨rfl, e', z1, z2⟩ := q6 rfl
    refine .okE z1 q1.k0 ?_
    rw [Nd]
    exact ⟨_, i, Nd.last, hR.parts, Nd.more (fun p hq => List.mem_append_right _ hq) _ _ _ _ z2⟩
   ·exact .err (x := (e3, a3)) (q7 he)
  rw [if_neg h6]
  exact ⟨kk, fl (by rw [ady, if_neg h2, if_neg h3, if_neg (n1 _), if_neg (n1 _), if_neg h6, if_neg h5])⟩
 ·rintro x (⟨i, k2, o2, er2, ea2, dv2, mn2, ts2, w2, ns2, B2, ⟨hf, rfl, rfl, rfl⟩, rfl⟩ | h)
  ·exact ⟨w2, i, k2, o2, er2, ea2, ns2, B2, hf, rfl⟩
  ·exact h.elim
theorem apv (ts : List Tok) : ∀ (n : Nat) (k : Int), (ts.length : Int) ≤ k + n → ∀ l, aic ts k 0 l := by
 intro n
 induction n with
 | zero =>
  intro k hk l pb wa wn ns o ea dv mn B hp
  have := hp.1.k1
  omega
 | succ n ih =>
  intro k hk l
  have hE : ∀ k2, k < k2 → ∀ l, aic ts k2 0 l := fun k2 h2 => ih k2 (by omega)
  exact avm (auz (avo hE)) hE l
theorem amu (ts : List Tok) (k er l : Int) : aic ts k er l := by
 by_cases h : er = 0
 ·subst h
  exact apv ts ((ts.length : Int) - k).toNat k (by omega) l
 ·exact amy h l
end
end Go.Proofs.YtifajndacnfcbaaDoor
