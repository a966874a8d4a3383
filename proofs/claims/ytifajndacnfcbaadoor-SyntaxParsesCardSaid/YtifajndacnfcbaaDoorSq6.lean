/-
  Merged: SyW, SyB, SyX, TkJs, SyT, SyY, Gwc, SyF.
-/
import Derived.Shelf.Strings.Builder1
import Derived.Test.YtifajndacnfcbaaDoorSq5
set_option maxRecDepth 100000
namespace Go.Proofs.YtifajndacnfcbaaDoor
open Go Go.RowKit
theorem atu : k9 Tryd.prog 66 = true := by kernel_rfl
theorem acn : k9 Tryd.prog 43 = true := by kernel_rfl
theorem aij : k9 Tryd.prog 55 = true := by kernel_rfl
theorem t7 : f6 Tryd.prog 102 1 = some 1 := by kernel_rfl
theorem n3 : f6 Tryd.prog 102 2 = some 2 := by kernel_rfl
theorem aq6 : Program.concrete Tryd.prog 80 = true := by kernel_rfl
theorem at4 : k9 Tryd.prog 76 = true := by kernel_rfl
theorem apt : Program.concrete Tryd.prog 78 = true := by kernel_rfl
theorem aa8 : f6 Tryd.prog 102 0 = some 0 := by kernel_rfl
theorem aqt : Program.concrete Tryd.prog 73 = true := by kernel_rfl
theorem ap0 : Program.concrete Tryd.prog 74 = true := by kernel_rfl
theorem agc : k9 Tryd.prog 40 = true := by kernel_rfl
theorem asd : k9 Tryd.prog 79 = true := by kernel_rfl
theorem ap3 : Program.concrete Tryd.prog 71 = true := by kernel_rfl
theorem aim : k9 Tryd.prog 80 = true := by kernel_rfl
theorem aik : k9 Tryd.prog 81 = true := by kernel_rfl
theorem ap4 : Program.concrete Tryd.prog 76 = true := by kernel_rfl
theorem ahx : ab0 Tryd.prog 83 = some [zI 0, st [], Value.slice none 0 0] := by kernel_rfl
theorem ahw : o8 Tryd.prog 83 3 = true := by kernel_rfl
theorem abt : f6 Tryd.prog 83 2 = some 2 := by kernel_rfl
theorem afa : aal Tryd.prog 81 = true := by kernel_rfl
theorem aeo : slB Tryd.prog 81 37 1 = true := by kernel_rfl
theorem aq0 : ab0 Tryd.prog 37 = some [Value.nilIface] := by kernel_rfl
theorem aq3 : afi Tryd.prog 37 = some ([Value.nilIface], 1, 16) := by kernel_rfl
theorem aqj : o8 Tryd.prog 81 1 = true := by kernel_rfl
theorem amw : RowT Tryd.prog 83 3 := ⟨by kernel_rfl, by kernel_rfl⟩
theorem app : Program.concrete Tryd.prog 83 = true := by kernel_rfl
def ajq (te : TypeId) (fre : Nat × Nat) (ts : List Tok) (k0 : Nat) (op0 : Int) (B0 : List (Nat × Obj)) (lv : Int) (K : Value → Nat → Int → (List Tok) → (List (Nat × Obj)) → Prop) (KP : Value → Nat → Int → (List Tok) → (List (Nat × Obj)) → Prop) : Prop :=
 (if (decide (lv = 5)) = true then
  (PAt te fre ts k0) ∧
  (POK ts k0 op0) ∧
  (∀ (v : Value) (e : Ex) (k : Nat) (op : Int) (B : List (Nat × Obj)), ExR (sP ts (k0, op0)) B0 v e k op B →
   K v k op ts B) ∧
  (∀ (ec : Int) (ep : Int) (k_1' : Nat) (op_1' : Int) (B_1' : List (Nat × Obj)), ExP (sP ts (k0, op0)) ts ec ep k_1' op_1' B_1' →
   KP (Value.iface 26 (Value.agg [zI ec, zI ep, st []].toArray)) k_1' op_1' ts B_1')
 else
  (I64 (lv + 1)) ∧
  (EAt te fre ts k0 (lv + 1)) ∧
  (POK ts k0 op0 ∧ 0 ≤ (lv + 1) ∧ (lv + 1) ≤ 5) ∧
  (∀ (v_1' : Value) (e_1' : Ex) (k_2' : Nat) (op_2' : Int) (B_2' : List (Nat × Obj)), ExR (sE ts (lv + 1).toNat (k0, op0)) B0 v_1' e_1' k_2' op_2' B_2' →
   ∃ (Inv : Value → Nat → Int → (List (Nat × Obj)) → Prop) (mu : Value → Nat → Int → (List (Nat × Obj)) → Nat),
    Inv v_1' k_2' op_2' B_2' ∧ ∀ (a_1' : Value) (p_0_1' : Nat) (p_1_1' : Int) (c_1' : List (Nat × Obj)), Inv a_1' p_0_1' p_1_1' c_1' →
     (p_0_1' < ts.length) ∧
     ((decide ((b4 ts p_0_1').1 = 4)) = true → (p_0_1' < ts.length) ∧ (aeq ((b4 ts p_0_1').2.2))) ∧
     (if ((decide ((b4 ts p_0_1').1 = 4)) && (decide (d8 ((b4 ts p_0_1').2.2) = lv))) = true then
      (p_0_1' < ts.length) ∧
      (I64 (lv + 1)) ∧
      (EAt te fre ts (p_0_1' + 1) (lv + 1)) ∧
      (POK ts (p_0_1' + 1) p_1_1' ∧ 0 ≤ (lv + 1) ∧ (lv + 1) ≤ 5) ∧
      (∀ (v_4' : Value) (e_4' : Ex) (k_8' : Nat) (op_8' : Int) (B_8' : List (Nat × Obj)), ExR (sE ts (lv + 1).toNat (p_0_1' + 1, p_1_1')) c_1' v_4' e_4' k_8' op_8' B_8' →
       (a_1'.oneCell' = true) ∧
       (v_4'.oneCell' = true) ∧
       Inv (Value.iface 80 (Value.agg [zI ((b4 ts p_0_1').2.1), st ((b4 ts p_0_1').2.2), a_1', v_4'].toArray)) k_8' op_8' B_8' ∧ mu (Value.iface 80 (Value.agg [zI ((b4 ts p_0_1').2.1), st ((b4 ts p_0_1').2.2), a_1', v_4'].toArray)) k_8' op_8' B_8' < mu a_1' p_0_1' p_1_1' c_1') ∧
      (∀ (ec_4' : Int) (ep_4' : Int) (k_9' : Nat) (op_9' : Int) (B_9' : List (Nat × Obj)), ExP (sE ts (lv + 1).toNat (p_0_1' + 1, p_1_1')) ts ec_4' ep_4' k_9' op_9' B_9' →
       KP (Value.iface 26 (Value.agg [zI ec_4', zI ep_4', st []].toArray)) k_9' op_9' ts B_9')
     else
      K a_1' p_0_1' p_1_1' ts c_1')) ∧
  (∀ (ec_1' : Int) (ep_1' : Int) (k_3' : Nat) (op_3' : Int) (B_3' : List (Nat × Obj)), ExP (sE ts (lv + 1).toNat (k0, op0)) ts ec_1' ep_1' k_3' op_3' B_3' →
   KP (Value.iface 26 (Value.agg [zI ec_1', zI ep_1', st []].toArray)) k_3' op_3' ts B_3'))
theorem aq9 (pb : Nat) (wa : Value) (te : TypeId) (fre : Nat × Nat) (ts : List Tok) (k0 : Nat) (op0 : Int) (B0 : List (Nat × Obj)) (lv : Int) (K : Value → Nat → Int → (List Tok) → (List (Nat × Obj)) → Prop) (KP : Value → Nat → Int → (List Tok) → (List (Nat × Obj)) → Prop) (h : ajq te fre ts k0 op0 B0 lv K KP) :
  d9 Tryd.prog 43 [zP pb, zI lv] [(0, .cells [st ([124] : List UInt8), st ([38, 45] : List UInt8), st ([62, 62] : List UInt8), st ([126] : List UInt8), st ([46] : List UInt8)].toArray te fre)] [HA.blk pb (.cells [l5 wa 3 k0, zI op0].toArray 55 (0, 0)), HA.row wa 102 3 ts.length (ts.flatMap e6), pool B0] (fun o => (∃ (v_5' : Value) (d_1'_0 : Nat) (d_1'_1 : Int) (d : List Tok) (D : List (Nat × Obj)), K v_5' d_1'_0 d_1'_1 d D ∧ o = .ret (v_5') [HA.blk pb (.cells [l5 wa 3 d_1'_0, zI d_1'_1].toArray 55 (0, 0)), HA.row wa 102 3 d.length (d.flatMap e6), pool D]) ∨ (∃ (pv : Value) (d_1'_0 : Nat) (d_1'_1 : Int) (d : List Tok) (D : List (Nat × Obj)), KP pv d_1'_0 d_1'_1 d D ∧ o = .pan [{ v := pv, recovered := false }] [HA.blk pb (.cells [l5 wa 3 d_1'_0, zI d_1'_1].toArray 55 (0, 0)), HA.row wa 102 3 d.length (d.flatMap e6), pool D])) := by
 unfold ajq at h
 refine c8 (n := 41) (L0 := [(0, zP pb), (1, zI lv)]) Tryd.func43 rfl rfl rfl rfl (fun w0 M Q hE => ?_)
 refine a7 (fun _ hK => ?_)
 refine a6 ?_
 refine wA ?_
 refine WL.nil ?_
 refine kg (hK [(0, zP pb), (1, zI lv)] _ ?_)
 refine a7 (fun _ hK_1' => ?_)
 refine a7 (fun _ hK_2' => ?_)
 refine a6 ?_
 refine wm ?_
 refine wv (OV.eql rfl rfl) ?_
 refine WL.nil ?_
 refine kg (hK_2' [(0, zP pb), (1, zI lv), (8, zB (decide (lv = 5)))] _ ?_)
 refine b5 (b := decide (lv = 5)) rfl (fun hb => ?_) (fun hb => ?_)
 ·replace h := e8 h hb
  refine a7 (fun _ hK_3' => ?_)
  refine a6 ?_
  refine wm ?_
  obtain ⟨o, h⟩ := h
  obtain ⟨o_1', h⟩ := h
  refine WL.callS atu rfl (o pb wa op0 B0 o_1') rfl ⟨.inr (List.mem_of_getElem? (i := 0) rfl), trivial⟩ rfl rfl (fun v H' hS => ?_) (fun c H' hS => ?_)
  ·rcases hS with ⟨_, e, k, op, B, hc, ho⟩ | ⟨ec, ep, k_1', op_1', B_1', hc, ho⟩ <;> cases ho
   replace h := h.1 v e k op B hc
   refine wA ?_
   refine WL.nil ?_
   refine kg (hK_3' [(4, v)] _ ?_)
   refine b8 ?_
   exact hE.ret [0, 1, 2] rfl rfl (.inl ⟨_, _, _, _, _, h, rfl⟩) (d7.of1 rfl (RV.tmp rfl))
  ·rcases hS with ⟨_, e, k, op, B, hc, ho⟩ | ⟨ec, ep, k_1', op_1', B_1', hc, ho⟩ <;> cases ho
   replace h := h.2 ec ep k_1' op_1' B_1' hc
   exact hE.pan [0, 1, 2] rfl rfl (.inr ⟨_, _, _, _, _, h, rfl⟩)
 ·replace h := e9 h hb
  refine b6 ?_
  refine kg (hK_1' [(0, zP pb), (1, zI lv)] _ ?_)
  refine a7 (fun _ hK_4' => ?_)
  refine a6 ?_
  refine wm ?_
  refine wm ?_
  obtain ⟨o_2', h⟩ := h
  refine wv (OV.add rfl rfl o_2') ?_
  obtain ⟨o_3', h⟩ := h
  obtain ⟨o_4', h⟩ := h
  refine WL.callS acn rfl (o_3' pb wa op0 B0 o_4') rfl ⟨.inr (List.mem_of_getElem? (i := 0) rfl), trivial⟩ rfl rfl (fun v_1' H' hS => ?_) (fun c H' hS => ?_)
  ·rcases hS with ⟨_, e_1', k_2', op_2', B_2', hc, ho⟩ | ⟨ec_1', ep_1', k_3', op_3', B_3', hc, ho⟩ <;> cases ho
   replace h := h.1 v_1' e_1' k_2' op_2' B_2' hc
   refine wA ?_
   refine WL.nil ?_
   refine kg (hK_4' [(0, zP pb), (1, zI lv), (5, v_1')] _ ?_)
   refine a7 (fun _ hK_5' => ?_)
   refine b7 ?_
   obtain ⟨Inv, mu, h0, hr⟩ := h
   refine o7 (S := Value × Nat × Int × (List (Nat × Obj))) (fun σ => Inv σ.1 σ.2.1 σ.2.2.1 σ.2.2.2) (fun σ => mu σ.1 σ.2.1 σ.2.2.1 σ.2.2.2) (fun σ => [(0, zP pb), (1, zI lv), (5, σ.1)]) (fun σ => [HA.blk pb (.cells [l5 wa 3 σ.2.1, zI σ.2.2.1].toArray 55 (0, 0)), HA.row wa 102 3 ts.length (ts.flatMap e6), pool σ.2.2.2]) (v_1', k_2', op_2', B_2') h0 ⟨rfl, rfl, rfl, trivial⟩ rfl ?_
   rintro ⟨a_1', p_0_1', p_1_1', c_1'⟩ hi K0_14' hK_14'
   have h := hr a_1' p_0_1' p_1_1' c_1' hi
   show WC _ _ _ _ [(0, zP pb), (1, zI lv), (5, a_1')] [HA.blk pb (.cells [l5 wa 3 p_0_1', zI p_1_1'].toArray 55 (0, 0)), HA.row wa 102 3 ts.length (ts.flatMap e6), pool c_1']
   refine a7 (fun _ hK_15' => ?_)
   refine a7 (fun _ hK_16' => ?_)
   refine a6 ?_
   refine wm ?_
   obtain ⟨o_25', h⟩ := h
   refine WL.call aaz rfl (aaw pb wa ts p_0_1' p_1_1' o_25') rfl trivial rfl rfl ?_
   refine wv (OV.field rfl ad6 a8 rfl) ?_
   refine wv (OV.eql rfl rfl) ?_
   refine wm ?_
   obtain ⟨o_28', h⟩ := h
   refine WL.cut 7 [(0, zP pb), (1, zI lv), (5, a_1'), (26, zB ((decide ((b4 ts p_0_1').1 = 4)) && (decide (d8 ((b4 ts p_0_1').2.2) = lv))))] ?_ (fun K0_17' hK_17' => ?_)
   rotate_left
   ·refine WL.split (decide ((b4 ts p_0_1').1 = 4)) (fun hb => ?_) (fun hb => ?_)
    ·obtain ⟨o_26', o_27'⟩ := o_28' hb
     refine WL.set 19 rfl (congrArg zB hb) ?_
     refine wm ?_
     refine WL.call aaz rfl (aaw pb wa ts p_0_1' p_1_1' o_26') rfl trivial rfl rfl ?_
     refine wv (OV.field rfl afu c7 rfl) ?_
     refine WL.call (A := []) aij rfl (aiq te fre ((b4 ts p_0_1').2.2) o_27') rfl ⟨.inr (List.mem_of_getElem? (i := 0) rfl), trivial⟩ rfl rfl ?_
     refine wm ?_
     refine wv (OV.eql rfl rfl) ?_
     refine wv (OV.pickT rfl rfl) ?_
     refine WL.set 26 rfl (bT (v := decide (d8 ((b4 ts p_0_1').2.2) = lv)) hb) ?_
     exact WL.end_ (kg hK_17')
    ·refine WL.set 19 rfl (congrArg zB hb) ?_
     refine wk ?_
     refine wk ?_
     refine wk ?_
     refine wk ?_
     refine wk ?_
     refine wk ?_
     refine wv (OV.pickF rfl rfl) ?_
     refine WL.set 26 rfl (bF (v := decide (d8 ((b4 ts p_0_1').2.2) = lv)) hb) ?_
     exact WL.end_ (kg hK_17')
   refine WL.nil ?_
   refine kg (hK_16' [(0, zP pb), (1, zI lv), (5, a_1'), (26, zB ((decide ((b4 ts p_0_1').1 = 4)) && (decide (d8 ((b4 ts p_0_1').2.2) = lv))))] _ ?_)
   refine b5 (b := (decide ((b4 ts p_0_1').1 = 4)) && (decide (d8 ((b4 ts p_0_1').2.2) = lv))) rfl (fun hb => ?_) (fun hb => ?_)
   ·replace h := e8 h hb
    refine b6 ?_
    refine kg (hK_15' [(0, zP pb), (1, zI lv), (5, a_1')] _ ?_)
    refine b7 ?_
    refine a7 (fun _ hK_18' => ?_)
    refine a6 ?_
    refine wm ?_
    obtain ⟨o_29', h⟩ := h
    refine WL.call abe rfl (aba pb wa ts p_0_1' p_1_1' o_29') rfl trivial rfl rfl ?_
    refine WL.make (MV.alloc aak) rfl rfl rfl (fun b_2' => ?_)
    refine WL.storeW (vs := [zI ((b4 ts p_0_1').1), zI ((b4 ts p_0_1').2.1), st ((b4 ts p_0_1').2.2)]) 0 rfl rfl rfl rfl rfl aam rfl rfl rfl ?_
    refine WL.nil ?_
    refine kg (hK_18' [(0, zP pb), (1, zI lv), (5, a_1'), (6, zP b_2')] _ ?_)
    refine ah8 8 [0] [HA.blk b_2' (.cells [zI ((b4 ts p_0_1').1), zI ((b4 ts p_0_1').2.1), st ((b4 ts p_0_1').2.2)].toArray 102 (0, 0))] rfl rfl f0 (by kernel_rfl) (fun T_2' hT_2' => ?_)
    refine TW.val (OV.fieldAddr0 rfl t7) rfl rfl rfl ?_
    refine TW.val (OV.load rfl (At.own 0 rfl) rfl a8) rfl rfl rfl ?_
    refine TW.val (OV.fieldAddr0 rfl n3) rfl rfl rfl ?_
    refine TW.val (OV.load rfl (At.own 0 rfl) rfl c7) rfl rfl rfl ?_
    refine TW.val (OV.move rfl) rfl rfl rfl ?_
    refine TW.val (OV.move rfl) rfl rfl rfl ?_
    refine TW.val (OV.move rfl) rfl rfl rfl ?_
    obtain ⟨o_30', h⟩ := h
    refine TW.val (OV.add rfl rfl o_30') rfl rfl rfl ?_
    refine TW.nil (hT_2' _ ?_)
    obtain ⟨o_31', h⟩ := h
    obtain ⟨o_32', h⟩ := h
    refine WLX.pick (H' := [HA.blk pb (.cells [l5 wa 3 (p_0_1' + 1), zI p_1_1'].toArray 55 (0, 0)), HA.row wa 102 3 ts.length (ts.flatMap e6), pool c_1', HA.blk b_2' (.cells [zI ((b4 ts p_0_1').1), zI ((b4 ts p_0_1').2.1), st ((b4 ts p_0_1').2.2)].toArray 102 (0, 0))]) [1, 2, 3, 0] rfl rfl ?_
    refine WLX.callS [0] rfl (EN.fn acn rfl) rfl (o_31' pb wa p_1_1' c_1' o_32') rfl rfl ⟨.inr (List.mem_of_getElem? (i := 0) rfl), trivial⟩ rfl rfl (fun v_4' H' hS => ?_) (fun c H' hS => ?_)
    ·rcases hS with ⟨_, e_4', k_8', op_8', B_8', hc, ho⟩ | ⟨ec_4', ep_4', k_9', op_9', B_9', hc, ho⟩ <;> cases ho
     replace h := h.1 v_4' e_4' k_8' op_8' B_8' hc
     obtain ⟨o_33', h⟩ := h
     obtain ⟨o_34', h⟩ := h
     refine WLX.op [3] rfl rfl (OpK.val (OV.buildC (qs := [(0, [zI ((b4 ts p_0_1').2.1)]), (1, [st ((b4 ts p_0_1').2.2)]), (2, [a_1']), (3, [v_4'])]) (cs := [zI ((b4 ts p_0_1').2.1), st ((b4 ts p_0_1').2.2), a_1', v_4']) rfl ⟨rfl, rfl, ⟨rfl, rfl, ⟨rfl, aaf o_33', ⟨rfl, aaf o_34', trivial⟩⟩⟩⟩ rfl) rfl rfl) rfl ?_
     refine WLX.op [3] rfl rfl (OpK.val (OV.iface rfl aq6) rfl rfl) rfl ?_
     refine WLX.opZ (OpK.val (OV.assign rfl) rfl rfl) rfl ?_
     refine WLX.nil ?_
     exact kh (hK_14' (Value.iface 80 (Value.agg [zI ((b4 ts p_0_1').2.1), st ((b4 ts p_0_1').2.2), a_1', v_4'].toArray), k_8', op_8', B_8') h.1 h.2) [0, 1, 2]
    ·rcases hS with ⟨_, e_4', k_8', op_8', B_8', hc, ho⟩ | ⟨ec_4', ep_4', k_9', op_9', B_9', hc, ho⟩ <;> cases ho
     replace h := h.2 ec_4' ep_4' k_9' op_9' B_9' hc
     refine QX.strong ?_
     exact hE.pan [0, 1, 2] rfl rfl (.inr ⟨_, _, _, _, _, h, rfl⟩)
   ·replace h := e9 h hb
    refine l4 ?_
    refine kg (hK_5' [(5, a_1')] _ ?_)
    refine a7 (fun _ hK_19' => ?_)
    refine a6 ?_
    refine wm ?_
    refine wA ?_
    refine WL.nil ?_
    refine kg (hK_19' [(4, a_1')] _ ?_)
    refine b8 ?_
    exact hE.ret [0, 1, 2] rfl rfl (.inl ⟨_, _, _, _, _, h, rfl⟩) (d7.of1 rfl (RV.tmp rfl))
  ·rcases hS with ⟨_, e_1', k_2', op_2', B_2', hc, ho⟩ | ⟨ec_1', ep_1', k_3', op_3', B_3', hc, ho⟩ <;> cases ho
   replace h := h.2 ec_1' ep_1' k_3' op_3' B_3' hc
   exact hE.pan [0, 1, 2] rfl rfl (.inr ⟨_, _, _, _, _, h, rfl⟩)
def ano (te : TypeId) (fre : Nat × Nat) (ts : List Tok) (k0 : Nat) (op0 : Int) (B0 : List (Nat × Obj)) (K : Value → Nat → Int → (List Tok) → (List (Nat × Obj)) → Prop) (KP : Value → Nat → Int → (List Tok) → (List (Nat × Obj)) → Prop) : Prop :=
 (AAt te fre ts k0) ∧
 (POK ts k0 op0) ∧
 (∀ (v : Value) (e : Ex) (k : Nat) (op : Int) (B : List (Nat × Obj)), ExR (sA ts (k0, op0)) B0 v e k op B →
  ∃ (Inv : Value → Nat → Prop) (mu : Value → Nat → Nat),
   Inv v k ∧ ∀ (a_1' : Value) (p_0_1' : Nat), Inv a_1' p_0_1' →
    (p_0_1' < ts.length) ∧
    ((isM ts p_0_1' ([42] : List UInt8)) = false → (p_0_1' < ts.length)) ∧
    (((isM ts p_0_1' ([42] : List UInt8)) || (isM ts p_0_1' ([43] : List UInt8))) = false → (p_0_1' < ts.length)) ∧
    (if (((isM ts p_0_1' ([42] : List UInt8)) || (isM ts p_0_1' ([43] : List UInt8))) || (isM ts p_0_1' ([63] : List UInt8))) = true then
     (p_0_1' < ts.length) ∧
     (a_1'.oneCell' = true) ∧
     Inv (Value.iface 78 (Value.agg [zI ((b4 ts p_0_1').2.1), st ((b4 ts p_0_1').2.2), a_1'].toArray)) (p_0_1' + 1) ∧ mu (Value.iface 78 (Value.agg [zI ((b4 ts p_0_1').2.1), st ((b4 ts p_0_1').2.2), a_1'].toArray)) (p_0_1' + 1) < mu a_1' p_0_1'
    else
     K a_1' p_0_1' op ts B)) ∧
 (∀ (ec : Int) (ep : Int) (k_1' : Nat) (op_1' : Int) (B_1' : List (Nat × Obj)), ExP (sA ts (k0, op0)) ts ec ep k_1' op_1' B_1' →
  KP (Value.iface 26 (Value.agg [zI ec, zI ep, st []].toArray)) k_1' op_1' ts B_1')
theorem awq (pb : Nat) (wa : Value) (te : TypeId) (fre : Nat × Nat) (ts : List Tok) (k0 : Nat) (op0 : Int) (B0 : List (Nat × Obj)) (K : Value → Nat → Int → (List Tok) → (List (Nat × Obj)) → Prop) (KP : Value → Nat → Int → (List Tok) → (List (Nat × Obj)) → Prop) (h : ano te fre ts k0 op0 B0 K KP) :
  d9 Tryd.prog 66 [zP pb] [(0, .cells [st ([124] : List UInt8), st ([38, 45] : List UInt8), st ([62, 62] : List UInt8), st ([126] : List UInt8), st ([46] : List UInt8)].toArray te fre)] [HA.blk pb (.cells [l5 wa 3 k0, zI op0].toArray 55 (0, 0)), HA.row wa 102 3 ts.length (ts.flatMap e6), pool B0] (fun o => (∃ (v_1' : Value) (d_1'_0 : Nat) (d_1'_1 : Int) (d : List Tok) (D : List (Nat × Obj)), K v_1' d_1'_0 d_1'_1 d D ∧ o = .ret (v_1') [HA.blk pb (.cells [l5 wa 3 d_1'_0, zI d_1'_1].toArray 55 (0, 0)), HA.row wa 102 3 d.length (d.flatMap e6), pool D]) ∨ (∃ (pv : Value) (d_1'_0 : Nat) (d_1'_1 : Int) (d : List Tok) (D : List (Nat × Obj)), KP pv d_1'_0 d_1'_1 d D ∧ o = .pan [{ v := pv, recovered := false }] [HA.blk pb (.cells [l5 wa 3 d_1'_0, zI d_1'_1].toArray 55 (0, 0)), HA.row wa 102 3 d.length (d.flatMap e6), pool D])) := by
 unfold ano at h
 refine c8 (n := 27) (L0 := [(0, zP pb)]) Tryd.func66 rfl rfl rfl rfl (fun w0 M Q hE => ?_)
 refine a7 (fun _ hK => ?_)
 refine a6 ?_
 refine wA ?_
 refine WL.nil ?_
 refine kg (hK [(0, zP pb)] _ ?_)
 refine a7 (fun _ hK_1' => ?_)
 refine a6 ?_
 refine wm ?_
 obtain ⟨o, h⟩ := h
 obtain ⟨o_1', h⟩ := h
 refine WL.callS at4 rfl (o pb wa op0 B0 o_1') rfl ⟨.inr (List.mem_of_getElem? (i := 0) rfl), trivial⟩ rfl rfl (fun v H' hS => ?_) (fun c H' hS => ?_)
 ·rcases hS with ⟨_, e, k, op, B, hc, ho⟩ | ⟨ec, ep, k_1', op_1', B_1', hc, ho⟩ <;> cases ho
  replace h := h.1 v e k op B hc
  refine wA ?_
  refine WL.nil ?_
  refine kg (hK_1' [(0, zP pb), (3, v)] _ ?_)
  refine a7 (fun _ hK_2' => ?_)
  refine b7 ?_
  obtain ⟨Inv, mu, h0, hr⟩ := h
  refine o7 (S := Value × Nat) (fun σ => Inv σ.1 σ.2) (fun σ => mu σ.1 σ.2) (fun σ => [(0, zP pb), (3, σ.1)]) (fun σ => [HA.blk pb (.cells [l5 wa 3 σ.2, zI op].toArray 55 (0, 0)), HA.row wa 102 3 ts.length (ts.flatMap e6), pool B]) (v, k) h0 ⟨rfl, rfl, trivial⟩ rfl ?_
  rintro ⟨a_1', p_0_1'⟩ hi K0_13' hK_13'
  have h := hr a_1' p_0_1' hi
  show WC _ _ _ _ [(0, zP pb), (3, a_1')] [HA.blk pb (.cells [l5 wa 3 p_0_1', zI op].toArray 55 (0, 0)), HA.row wa 102 3 ts.length (ts.flatMap e6), pool B]
  refine a7 (fun _ hK_14' => ?_)
  refine a7 (fun _ hK_15' => ?_)
  refine a6 ?_
  refine wm ?_
  obtain ⟨o_16', h⟩ := h
  refine WL.call ach rfl (ae1 pb wa ts p_0_1' op ([42] : List UInt8) o_16') rfl trivial rfl rfl ?_
  refine wm ?_
  obtain ⟨o_18', h⟩ := h
  refine WL.cut 3 [(0, zP pb), (3, a_1'), (12, zB ((isM ts p_0_1' ([42] : List UInt8)) || (isM ts p_0_1' ([43] : List UInt8))))] ?_ (fun K0_16' hK_16' => ?_)
  rotate_left
  ·refine WL.split (isM ts p_0_1' ([42] : List UInt8)) (fun hb => ?_) (fun hb => ?_)
   ·refine WL.set 9 rfl (congrArg zB hb) ?_
    refine wk ?_
    refine wk ?_
    refine wv (OV.pickT rfl rfl) ?_
    refine WL.set 12 rfl (oT (v := isM ts p_0_1' ([43] : List UInt8)) hb) ?_
    exact WL.end_ (kg hK_16')
   ·have o_17' := o_18' hb
    refine WL.set 9 rfl (congrArg zB hb) ?_
    refine wm ?_
    refine WL.call ach rfl (ae1 pb wa ts p_0_1' op ([43] : List UInt8) o_17') rfl trivial rfl rfl ?_
    refine wv (OV.pickF rfl rfl) ?_
    refine WL.set 12 rfl (oF (v := isM ts p_0_1' ([43] : List UInt8)) hb) ?_
    exact WL.end_ (kg hK_16')
  refine wm ?_
  obtain ⟨o_20', h⟩ := h
  refine WL.cut 3 [(0, zP pb), (3, a_1'), (16, zB (((isM ts p_0_1' ([42] : List UInt8)) || (isM ts p_0_1' ([43] : List UInt8))) || (isM ts p_0_1' ([63] : List UInt8))))] ?_ (fun K0_17' hK_17' => ?_)
  rotate_left
  ·refine WL.split ((isM ts p_0_1' ([42] : List UInt8)) || (isM ts p_0_1' ([43] : List UInt8))) (fun hb => ?_) (fun hb => ?_)
   ·refine WL.set 13 rfl (congrArg zB hb) ?_
    refine wk ?_
    refine wk ?_
    refine wv (OV.pickT rfl rfl) ?_
    refine WL.set 16 rfl (oT (v := isM ts p_0_1' ([63] : List UInt8)) hb) ?_
    exact WL.end_ (kg hK_17')
   ·have o_19' := o_20' hb
    refine WL.set 13 rfl (congrArg zB hb) ?_
    refine wm ?_
    refine WL.call ach rfl (ae1 pb wa ts p_0_1' op ([63] : List UInt8) o_19') rfl trivial rfl rfl ?_
    refine wv (OV.pickF rfl rfl) ?_
    refine WL.set 16 rfl (oF (v := isM ts p_0_1' ([63] : List UInt8)) hb) ?_
    exact WL.end_ (kg hK_17')
  refine WL.nil ?_
  refine kg (hK_15' [(0, zP pb), (3, a_1'), (16, zB (((isM ts p_0_1' ([42] : List UInt8)) || (isM ts p_0_1' ([43] : List UInt8))) || (isM ts p_0_1' ([63] : List UInt8))))] _ ?_)
  refine b5 (b := ((isM ts p_0_1' ([42] : List UInt8)) || (isM ts p_0_1' ([43] : List UInt8))) || (isM ts p_0_1' ([63] : List UInt8))) rfl (fun hb => ?_) (fun hb => ?_)
  ·replace h := e8 h hb
   refine b6 ?_
   refine kg (hK_14' [(0, zP pb), (3, a_1')] _ ?_)
   refine b7 ?_
   refine a7 (fun _ hK_18' => ?_)
   refine a6 ?_
   refine wm ?_
   obtain ⟨o_21', h⟩ := h
   refine WL.call abe rfl (aba pb wa ts p_0_1' op o_21') rfl trivial rfl rfl ?_
   refine WL.make (MV.alloc aak) rfl rfl rfl (fun b_2' => ?_)
   refine WL.storeW (vs := [zI ((b4 ts p_0_1').1), zI ((b4 ts p_0_1').2.1), st ((b4 ts p_0_1').2.2)]) 0 rfl rfl rfl rfl rfl aam rfl rfl rfl ?_
   refine WL.nil ?_
   refine kg (hK_18' [(0, zP pb), (3, a_1'), (4, zP b_2')] _ ?_)
   refine a6 ?_
   refine wv (OV.fieldAddr0 rfl t7) ?_
   refine wv (OV.load rfl (At.own 0 rfl) rfl a8) ?_
   refine wv (OV.fieldAddr0 rfl n3) ?_
   refine wv (OV.load rfl (At.own 0 rfl) rfl c7) ?_
   refine wm ?_
   obtain ⟨o_22', h⟩ := h
   refine wv (OV.buildC (qs := [(0, [zI ((b4 ts p_0_1').2.1)]), (1, [st ((b4 ts p_0_1').2.2)]), (2, [a_1'])]) (cs := [zI ((b4 ts p_0_1').2.1), st ((b4 ts p_0_1').2.2), a_1']) rfl ⟨rfl, rfl, ⟨rfl, rfl, ⟨rfl, aaf o_22', trivial⟩⟩⟩ rfl) ?_
   refine wv (OV.iface rfl apt) ?_
   refine wA ?_
   refine WL.nil ?_
   exact kh (hK_13' (Value.iface 78 (Value.agg [zI ((b4 ts p_0_1').2.1), st ((b4 ts p_0_1').2.2), a_1'].toArray), p_0_1' + 1) h.1 h.2) [1, 2, 3]
  ·replace h := e9 h hb
   refine l4 ?_
   refine kg (hK_2' [(3, a_1')] _ ?_)
   refine a7 (fun _ hK_19' => ?_)
   refine a6 ?_
   refine wm ?_
   refine wA ?_
   refine WL.nil ?_
   refine kg (hK_19' [(2, a_1')] _ ?_)
   refine b8 ?_
   exact hE.ret [0, 1, 2] rfl rfl (.inl ⟨_, _, _, _, _, h, rfl⟩) (d7.of1 rfl (RV.tmp rfl))
 ·rcases hS with ⟨_, e, k, op, B, hc, ho⟩ | ⟨ec, ep, k_1', op_1', B_1', hc, ho⟩ <;> cases ho
  replace h := h.2 ec ep k_1' op_1' B_1' hc
  exact hE.pan [0, 1, 2] rfl rfl (.inr ⟨_, _, _, _, _, h, rfl⟩)
def an0 (te : TypeId) (fre : Nat × Nat) (ts : List Tok) (k0 : Nat) (op0 : Int) (B0 : List (Nat × Obj)) (K : Value → Nat → Int → (List Tok) → (List (Nat × Obj)) → Prop) (KP : Value → Nat → Int → (List Tok) → (List (Nat × Obj)) → Prop) : Prop :=
 (k0 < ts.length) ∧
 (if (decide ((b4 ts k0).1 = 2)) = true then
  (k0 < ts.length) ∧
  K (Value.iface 73 (Value.agg [zI ((b4 ts k0).2.1), st ((b4 ts k0).2.2)].toArray)) (k0 + 1) op0 ts B0
 else
  (if (decide ((b4 ts k0).1 = 3)) = true then
   (k0 < ts.length) ∧
   K (Value.iface 74 (Value.agg [zI ((b4 ts k0).2.1), st ((b4 ts k0).2.2)].toArray)) (k0 + 1) op0 ts B0
  else
   (if ((decide ((b4 ts k0).1 = 1)) && (decide (0 < d6 ((b4 ts k0).2.2)))) = true then
    (CAt te fre ts k0) ∧
    (POK ts k0 op0 ∧ (b4 ts k0).1 = 1 ∧ 0 < d6 (b4 ts k0).2.2) ∧
    (∀ (v : Value) (e : Ex) (k : Nat) (op : Int) (B : List (Nat × Obj)), ExR (sC ts (k0, op0)) B0 v e k op B →
     K v k op ts B) ∧
    (∀ (ec : Int) (ep : Int) (k_1' : Nat) (op_1' : Int) (B_1' : List (Nat × Obj)), ExP (sC ts (k0, op0)) ts ec ep k_1' op_1' B_1' →
     KP (Value.iface 26 (Value.agg [zI ec, zI ep, st []].toArray)) k_1' op_1' ts B_1')
   else
    (if ((decide ((b4 ts k0).1 = 1)) && (decide (d6 ((b4 ts k0).2.2) = 0))) = true then
     (k0 < ts.length) ∧
     K (Value.iface 71 (Value.agg [zI ((b4 ts k0).2.1), st ((b4 ts k0).2.2)].toArray)) (k0 + 1) op0 ts B0
    else
     (k0 < ts.length) ∧
     (if (isM ts k0 ([123] : List UInt8)) = true then
      (POK ts k0 op0 ∧ ([123] : List UInt8) ≠ []) ∧
      (∀ (k_2' : Nat) (op_2' : Int), n8 ts (k0, op0) ([123] : List UInt8) = .ok (k_2', op_2') →
       (EAt te fre ts k_2' 0) ∧
       (POK ts k_2' op_2' ∧ 0 ≤ (0 : Int) ∧ (0 : Int) ≤ 5) ∧
       (∀ (v_1' : Value) (e_1' : Ex) (k_3' : Nat) (op_3' : Int) (B_2' : List (Nat × Obj)), ExR (sE ts 0 (k_2', op_2')) B0 v_1' e_1' k_3' op_3' B_2' →
        (POK ts k_3' op_3' ∧ ([125] : List UInt8) ≠ []) ∧
        (∀ (k_5' : Nat) (op_5' : Int), s5 ts (k_3', op_3') ([125] : List UInt8) = .ok (k_5', op_5') →
         (v_1'.oneCell' = true) ∧
         K (Value.iface 76 (Value.agg [zI ((b4 ts k0).2.1), v_1'].toArray)) k_5' op_5' ts B_2') ∧
        (∀ (ec_3' : Int) (ep_3' : Int), s5 ts (k_3', op_3') ([125] : List UInt8) = .error (ec_3', ep_3') →
         KP (Value.iface 26 (Value.agg [zI ec_3', zI ep_3', st []].toArray)) k_3' op_3' ts B_2')) ∧
       (∀ (ec_2' : Int) (ep_2' : Int) (k_4' : Nat) (op_4' : Int) (B_3' : List (Nat × Obj)), ExP (sE ts 0 (k_2', op_2')) ts ec_2' ep_2' k_4' op_4' B_3' →
        KP (Value.iface 26 (Value.agg [zI ec_2', zI ep_2', st []].toArray)) k_4' op_4' ts B_3')) ∧
      (∀ (ec_1' : Int) (ep_1' : Int), n8 ts (k0, op0) ([123] : List UInt8) = .error (ec_1', ep_1') →
       KP (Value.iface 26 (Value.agg [zI ec_1', zI ep_1', st []].toArray)) k0 op0 ts B0)
     else
      (k0 < ts.length) ∧
      (if (isM ts k0 ([40] : List UInt8)) = true then
       (POK ts k0 op0 ∧ ([40] : List UInt8) ≠ []) ∧
       (∀ (k_6' : Nat) (op_6' : Int), n8 ts (k0, op0) ([40] : List UInt8) = .ok (k_6', op_6') →
        (EAt te fre ts k_6' 0) ∧
        (POK ts k_6' op_6' ∧ 0 ≤ (0 : Int) ∧ (0 : Int) ≤ 5) ∧
        (∀ (v_2' : Value) (e_2' : Ex) (k_7' : Nat) (op_7' : Int) (B_4' : List (Nat × Obj)), ExR (sE ts 0 (k_6', op_6')) B0 v_2' e_2' k_7' op_7' B_4' →
         (POK ts k_7' op_7' ∧ ([41] : List UInt8) ≠ []) ∧
         (∀ (k_9' : Nat) (op_9' : Int), s5 ts (k_7', op_7') ([41] : List UInt8) = .ok (k_9', op_9') →
          K v_2' k_9' op_9' ts B_4') ∧
         (∀ (ec_6' : Int) (ep_6' : Int), s5 ts (k_7', op_7') ([41] : List UInt8) = .error (ec_6', ep_6') →
          KP (Value.iface 26 (Value.agg [zI ec_6', zI ep_6', st []].toArray)) k_7' op_7' ts B_4')) ∧
        (∀ (ec_5' : Int) (ep_5' : Int) (k_8' : Nat) (op_8' : Int) (B_5' : List (Nat × Obj)), ExP (sE ts 0 (k_6', op_6')) ts ec_5' ep_5' k_8' op_8' B_5' →
         KP (Value.iface 26 (Value.agg [zI ec_5', zI ep_5', st []].toArray)) k_8' op_8' ts B_5')) ∧
       (∀ (ec_4' : Int) (ep_4' : Int), n8 ts (k0, op0) ([40] : List UInt8) = .error (ec_4', ep_4') →
        KP (Value.iface 26 (Value.agg [zI ec_4', zI ep_4', st []].toArray)) k0 op0 ts B0)
      else
       (k0 < ts.length) ∧
       KP (Value.iface 26 (Value.agg [zI 60, zI ((b4 ts k0).2.1), st []].toArray)) k0 op0 ts B0))))))
theorem aw3 (pb : Nat) (wa : Value) (te : TypeId) (fre : Nat × Nat) (ts : List Tok) (k0 : Nat) (op0 : Int) (B0 : List (Nat × Obj)) (K : Value → Nat → Int → (List Tok) → (List (Nat × Obj)) → Prop) (KP : Value → Nat → Int → (List Tok) → (List (Nat × Obj)) → Prop) (h : an0 te fre ts k0 op0 B0 K KP) :
  d9 Tryd.prog 76 [zP pb] [(0, .cells [st ([124] : List UInt8), st ([38, 45] : List UInt8), st ([62, 62] : List UInt8), st ([126] : List UInt8), st ([46] : List UInt8)].toArray te fre)] [HA.blk pb (.cells [l5 wa 3 k0, zI op0].toArray 55 (0, 0)), HA.row wa 102 3 ts.length (ts.flatMap e6), pool B0] (fun o => (∃ (v_3' : Value) (d_1'_0 : Nat) (d_1'_1 : Int) (d : List Tok) (D : List (Nat × Obj)), K v_3' d_1'_0 d_1'_1 d D ∧ o = .ret (v_3') [HA.blk pb (.cells [l5 wa 3 d_1'_0, zI d_1'_1].toArray 55 (0, 0)), HA.row wa 102 3 d.length (d.flatMap e6), pool D]) ∨ (∃ (pv : Value) (d_1'_0 : Nat) (d_1'_1 : Int) (d : List Tok) (D : List (Nat × Obj)), KP pv d_1'_0 d_1'_1 d D ∧ o = .pan [{ v := pv, recovered := false }] [HA.blk pb (.cells [l5 wa 3 d_1'_0, zI d_1'_1].toArray 55 (0, 0)), HA.row wa 102 3 d.length (d.flatMap e6), pool D])) := by
 unfold an0 at h
 refine c8 (n := 88) (L0 := [(0, zP pb)]) Tryd.func76 rfl rfl rfl rfl (fun w0 M Q hE => ?_)
 refine a7 (fun _ hK => ?_)
 refine a6 ?_
 refine wA ?_
 refine WL.nil ?_
 refine kg (hK [(0, zP pb)] _ ?_)
 refine a7 (fun _ hK_1' => ?_)
 refine a6 ?_
 refine wm ?_
 obtain ⟨o, h⟩ := h
 refine WL.call aaz rfl (aaw pb wa ts k0 op0 o) rfl trivial rfl rfl ?_
 refine WL.make (MV.alloc aak) rfl rfl rfl (fun b => ?_)
 refine WL.storeW (vs := [zI ((b4 ts k0).1), zI ((b4 ts k0).2.1), st ((b4 ts k0).2.2)]) 0 rfl rfl rfl rfl rfl aam rfl rfl rfl ?_
 refine WL.nil ?_
 refine kg (hK_1' [(0, zP pb), (3, zP b)] _ ?_)
 refine a7 (fun _ hK_2' => ?_)
 refine b7 ?_
 refine a7 (fun _ hK_3' => ?_)
 refine a6 ?_
 refine wv (OV.fieldAddr0 rfl aa8) ?_
 refine wv (OV.load rfl (At.own 0 rfl) rfl a8) ?_
 refine wv (OV.eql rfl rfl) ?_
 refine wA ?_
 refine WL.nil ?_
 refine kg (hK_3' [(0, zP pb), (3, zP b), (8, zB (decide ((b4 ts k0).1 = 2)))] _ ?_)
 refine b5 (b := decide ((b4 ts k0).1 = 2)) rfl (fun hb => ?_) (fun hb => ?_)
 ·replace h := e8 h hb
  refine a7 (fun _ hK_4' => ?_)
  refine a6 ?_
  refine wm ?_
  obtain ⟨o_1', h⟩ := h
  refine WL.pick (H' := [HA.blk pb (.cells [l5 wa 3 k0, zI op0].toArray 55 (0, 0)), HA.row wa 102 3 ts.length (ts.flatMap e6), HA.blk b (.cells [zI ((b4 ts k0).1), zI ((b4 ts k0).2.1), st ((b4 ts k0).2.2)].toArray 102 (0, 0)), pool B0]) [1, 2, 0, 3] rfl rfl ?_
  refine WL.call abe rfl (aba pb wa ts k0 op0 o_1') rfl trivial rfl rfl ?_
  refine WL.nil ?_
  refine kg (hK_4' [(3, zP b)] _ ?_)
  refine a7 (fun _ hK_5' => ?_)
  refine a6 ?_
  refine wv (OV.fieldAddr0 rfl t7) ?_
  refine wv (OV.load rfl (At.own 2 rfl) rfl a8) ?_
  refine wv (OV.fieldAddr0 rfl n3) ?_
  refine wv (OV.load rfl (At.own 2 rfl) rfl c7) ?_
  refine wv (OV.build rfl (cs := [zI ((b4 ts k0).2.1), st ((b4 ts k0).2.2)]) rfl) ?_
  refine wv (OV.iface rfl aqt) ?_
  refine wA ?_
  refine WL.nil ?_
  refine kg (hK_5' [(2, Value.iface 73 (Value.agg [zI ((b4 ts k0).2.1), st ((b4 ts k0).2.2)].toArray))] _ ?_)
  refine b8 ?_
  exact hE.ret [0, 1, 3] rfl rfl (.inl ⟨_, _, _, _, _, h, rfl⟩) (d7.of1 rfl (RV.tmp rfl))
 ·replace h := e9 h hb
  refine a7 (fun _ hK_6' => ?_)
  refine a6 ?_
  refine wv (OV.fieldAddr0 rfl aa8) ?_
  refine wv (OV.load rfl (At.own 0 rfl) rfl a8) ?_
  refine wv (OV.eql rfl rfl) ?_
  refine wA ?_
  refine WL.nil ?_
  refine kg (hK_6' [(0, zP pb), (3, zP b), (20, zB (decide ((b4 ts k0).1 = 3)))] _ ?_)
  refine b5 (b := decide ((b4 ts k0).1 = 3)) rfl (fun hb => ?_) (fun hb => ?_)
  ·replace h := e8 h hb
   refine a7 (fun _ hK_7' => ?_)
   refine a6 ?_
   refine wm ?_
   obtain ⟨o_2', h⟩ := h
   refine WL.pick (H' := [HA.blk pb (.cells [l5 wa 3 k0, zI op0].toArray 55 (0, 0)), HA.row wa 102 3 ts.length (ts.flatMap e6), HA.blk b (.cells [zI ((b4 ts k0).1), zI ((b4 ts k0).2.1), st ((b4 ts k0).2.2)].toArray 102 (0, 0)), pool B0]) [1, 2, 0, 3] rfl rfl ?_
   refine WL.call abe rfl (aba pb wa ts k0 op0 o_2') rfl trivial rfl rfl ?_
   refine WL.nil ?_
   refine kg (hK_7' [(3, zP b)] _ ?_)
   refine a7 (fun _ hK_8' => ?_)
   refine a6 ?_
   refine wv (OV.fieldAddr0 rfl t7) ?_
   refine wv (OV.load rfl (At.own 2 rfl) rfl a8) ?_
   refine wv (OV.fieldAddr0 rfl n3) ?_
   refine wv (OV.load rfl (At.own 2 rfl) rfl c7) ?_
   refine wv (OV.build rfl (cs := [zI ((b4 ts k0).2.1), st ((b4 ts k0).2.2)]) rfl) ?_
   refine wv (OV.iface rfl ap0) ?_
   refine wA ?_
   refine WL.nil ?_
   refine kg (hK_8' [(2, Value.iface 74 (Value.agg [zI ((b4 ts k0).2.1), st ((b4 ts k0).2.2)].toArray))] _ ?_)
   refine b8 ?_
   exact hE.ret [0, 1, 3] rfl rfl (.inl ⟨_, _, _, _, _, h, rfl⟩) (d7.of1 rfl (RV.tmp rfl))
  ·replace h := e9 h hb
   refine a7 (fun _ hK_9' => ?_)
   refine a6 ?_
   refine wv (OV.fieldAddr0 rfl aa8) ?_
   refine wv (OV.load rfl (At.own 0 rfl) rfl a8) ?_
   refine wv (OV.eql rfl rfl) ?_
   refine wm ?_
   refine WL.cut 5 [(0, zP pb), (3, zP b), (41, zB ((decide ((b4 ts k0).1 = 1)) && (decide (0 < d6 ((b4 ts k0).2.2)))))] ?_ (fun K0_10' hK_10' => ?_)
   rotate_left
   ·refine WL.split (decide ((b4 ts k0).1 = 1)) (fun hb => ?_) (fun hb => ?_)
    ·refine WL.set 36 rfl (congrArg zB hb) ?_
     refine wv (OV.fieldAddr0 rfl n3) ?_
     refine wv (OV.load rfl (At.own 0 rfl) rfl c7) ?_
     refine WL.call (A := []) agc rfl (aez ((b4 ts k0).2.2)) rfl trivial rfl rfl ?_
     refine wv (OV.gtr rfl rfl) ?_
     refine wv (OV.pickT rfl rfl) ?_
     refine WL.set 41 rfl (bT (v := decide (0 < d6 ((b4 ts k0).2.2))) hb) ?_
     exact WL.end_ (kg hK_10')
    ·refine WL.set 36 rfl (congrArg zB hb) ?_
     refine wk ?_
     refine wk ?_
     refine wk ?_
     refine wk ?_
     refine wv (OV.pickF rfl rfl) ?_
     refine WL.set 41 rfl (bF (v := decide (0 < d6 ((b4 ts k0).2.2))) hb) ?_
     exact WL.end_ (kg hK_10')
   refine wA ?_
   refine WL.nil ?_
   refine kg (hK_9' [(0, zP pb), (3, zP b), (32, zB ((decide ((b4 ts k0).1 = 1)) && (decide (0 < d6 ((b4 ts k0).2.2)))))] _ ?_)
   refine b5 (b := (decide ((b4 ts k0).1 = 1)) && (decide (0 < d6 ((b4 ts k0).2.2)))) rfl (fun hb => ?_) (fun hb => ?_)
   ·replace h := e8 h hb
    refine a7 (fun _ hK_11' => ?_)
    refine a6 ?_
    refine wm ?_
    obtain ⟨o_4', h⟩ := h
    obtain ⟨o_5', h⟩ := h
    refine WL.pick (H' := [HA.blk pb (.cells [l5 wa 3 k0, zI op0].toArray 55 (0, 0)), HA.row wa 102 3 ts.length (ts.flatMap e6), pool B0, HA.blk b (.cells [zI ((b4 ts k0).1), zI ((b4 ts k0).2.1), st ((b4 ts k0).2.2)].toArray 102 (0, 0))]) [1, 2, 3, 0] rfl rfl ?_
    refine WL.callS asd rfl (o_4' pb wa op0 B0 o_5') rfl ⟨.inr (List.mem_of_getElem? (i := 0) rfl), trivial⟩ rfl rfl (fun v H' hS => ?_) (fun c H' hS => ?_)
    ·rcases hS with ⟨_, e, k, op, B, hc, ho⟩ | ⟨ec, ep, k_1', op_1', B_1', hc, ho⟩ <;> cases ho
     replace h := h.1 v e k op B hc
     refine wA ?_
     refine WL.nil ?_
     refine kg (hK_11' [(2, v)] _ ?_)
     refine b8 ?_
     exact hE.ret [0, 1, 2] rfl rfl (.inl ⟨_, _, _, _, _, h, rfl⟩) (d7.of1 rfl (RV.tmp rfl))
    ·rcases hS with ⟨_, e, k, op, B, hc, ho⟩ | ⟨ec, ep, k_1', op_1', B_1', hc, ho⟩ <;> cases ho
     replace h := h.2 ec ep k_1' op_1' B_1' hc
     exact hE.pan [0, 1, 2] rfl rfl (.inr ⟨_, _, _, _, _, h, rfl⟩)
   ·replace h := e9 h hb
    refine a7 (fun _ hK_12' => ?_)
    refine a6 ?_
    refine wv (OV.fieldAddr0 rfl aa8) ?_
    refine wv (OV.load rfl (At.own 0 rfl) rfl a8) ?_
    refine wv (OV.eql rfl rfl) ?_
    refine wm ?_
    refine WL.cut 5 [(0, zP pb), (3, zP b), (53, zB ((decide ((b4 ts k0).1 = 1)) && (decide (d6 ((b4 ts k0).2.2) = 0))))] ?_ (fun K0_13' hK_13' => ?_)
    rotate_left
    ·refine WL.split (decide ((b4 ts k0).1 = 1)) (fun hb => ?_) (fun hb => ?_)
     ·refine WL.set 48 rfl (congrArg zB hb) ?_
      refine wv (OV.fieldAddr0 rfl n3) ?_
      refine wv (OV.load rfl (At.own 0 rfl) rfl c7) ?_
      refine WL.call (A := []) agc rfl (aez ((b4 ts k0).2.2)) rfl trivial rfl rfl ?_
      refine wv (OV.eql rfl rfl) ?_
      refine wv (OV.pickT rfl rfl) ?_
      refine WL.set 53 rfl (bT (v := decide (d6 ((b4 ts k0).2.2) = 0)) hb) ?_
      exact WL.end_ (kg hK_13')
     ·refine WL.set 48 rfl (congrArg zB hb) ?_
      refine wk ?_
      refine wk ?_
      refine wk ?_
      refine wk ?_
      refine wv (OV.pickF rfl rfl) ?_
      refine WL.set 53 rfl (bF (v := decide (d6 ((b4 ts k0).2.2) = 0)) hb) ?_
      exact WL.end_ (kg hK_13')
    refine wA ?_
    refine WL.nil ?_
    refine kg (hK_12' [(0, zP pb), (3, zP b), (44, zB ((decide ((b4 ts k0).1 = 1)) && (decide (d6 ((b4 ts k0).2.2) = 0))))] _ ?_)
    refine b5 (b := (decide ((b4 ts k0).1 = 1)) && (decide (d6 ((b4 ts k0).2.2) = 0))) rfl (fun hb => ?_) (fun hb => ?_)
    ·replace h := e8 h hb
     refine a7 (fun _ hK_14' => ?_)
     refine a6 ?_
     refine wm ?_
     obtain ⟨o_7', h⟩ := h
     refine WL.pick (H' := [HA.blk pb (.cells [l5 wa 3 k0, zI op0].toArray 55 (0, 0)), HA.row wa 102 3 ts.length (ts.flatMap e6), HA.blk b (.cells [zI ((b4 ts k0).1), zI ((b4 ts k0).2.1), st ((b4 ts k0).2.2)].toArray 102 (0, 0)), pool B0]) [1, 2, 0, 3] rfl rfl ?_
     refine WL.call abe rfl (aba pb wa ts k0 op0 o_7') rfl trivial rfl rfl ?_
     refine WL.nil ?_
     refine kg (hK_14' [(3, zP b)] _ ?_)
     refine a7 (fun _ hK_15' => ?_)
     refine a6 ?_
     refine wv (OV.fieldAddr0 rfl t7) ?_
     refine wv (OV.load rfl (At.own 2 rfl) rfl a8) ?_
     refine wv (OV.fieldAddr0 rfl n3) ?_
     refine wv (OV.load rfl (At.own 2 rfl) rfl c7) ?_
     refine wv (OV.build rfl (cs := [zI ((b4 ts k0).2.1), st ((b4 ts k0).2.2)]) rfl) ?_
     refine wv (OV.iface rfl ap3) ?_
     refine wA ?_
     refine WL.nil ?_
     refine kg (hK_15' [(2, Value.iface 71 (Value.agg [zI ((b4 ts k0).2.1), st ((b4 ts k0).2.2)].toArray))] _ ?_)
     refine b8 ?_
     exact hE.ret [0, 1, 3] rfl rfl (.inl ⟨_, _, _, _, _, h, rfl⟩) (d7.of1 rfl (RV.tmp rfl))
    ·replace h := e9 h hb
     refine a7 (fun _ hK_16' => ?_)
     refine a6 ?_
     refine wm ?_
     obtain ⟨o_8', h⟩ := h
     refine WL.pick (H' := [HA.blk pb (.cells [l5 wa 3 k0, zI op0].toArray 55 (0, 0)), HA.row wa 102 3 ts.length (ts.flatMap e6), HA.blk b (.cells [zI ((b4 ts k0).1), zI ((b4 ts k0).2.1), st ((b4 ts k0).2.2)].toArray 102 (0, 0)), pool B0]) [1, 2, 0, 3] rfl rfl ?_
     refine WL.call ach rfl (ae1 pb wa ts k0 op0 ([123] : List UInt8) o_8') rfl trivial rfl rfl ?_
     refine wA ?_
     refine WL.nil ?_
     refine kg (hK_16' [(0, zP pb), (3, zP b), (62, zB (isM ts k0 ([123] : List UInt8)))] _ ?_)
     refine b5 (b := isM ts k0 ([123] : List UInt8)) rfl (fun hb => ?_) (fun hb => ?_)
     ·replace h := e8 h hb
      refine a7 (fun _ hK_17' => ?_)
      refine a6 ?_
      refine wm ?_
      obtain ⟨o_9', h⟩ := h
      refine WL.callS aim rfl (ahk pb wa ts k0 op0 ([123] : List UInt8) o_9') rfl trivial rfl rfl (fun r H' hS => ?_) (fun c H' hS => ?_)
      ·rcases hS with ⟨k_2', op_2', hc, ho⟩ | ⟨ec_1', ep_1', hc, ho⟩ <;> cases ho
       replace h := h.1 k_2' op_2' hc
       refine WL.nil ?_
       refine kg (hK_17' [(0, zP pb), (3, zP b)] _ ?_)
       refine a7 (fun _ hK_18' => ?_)
       refine a6 ?_
       refine wm ?_
       obtain ⟨o_10', h⟩ := h
       obtain ⟨o_11', h⟩ := h
       refine WL.pick (H' := [HA.blk pb (.cells [l5 wa 3 k_2', zI op_2'].toArray 55 (0, 0)), HA.row wa 102 3 ts.length (ts.flatMap e6), pool B0, HA.blk b (.cells [zI ((b4 ts k0).1), zI ((b4 ts k0).2.1), st ((b4 ts k0).2.2)].toArray 102 (0, 0))]) [0, 1, 3, 2] rfl rfl ?_
       refine WL.callS acn rfl (o_10' pb wa op_2' B0 o_11') rfl ⟨.inr (List.mem_of_getElem? (i := 0) rfl), trivial⟩ rfl rfl (fun v_1' H' hS => ?_) (fun c H' hS => ?_)
       ·rcases hS with ⟨_, e_1', k_3', op_3', B_2', hc, ho⟩ | ⟨ec_2', ep_2', k_4', op_4', B_3', hc, ho⟩ <;> cases ho
        replace h := h.1 v_1' e_1' k_3' op_3' B_2' hc
        refine wA ?_
        refine WL.nil ?_
        refine kg (hK_18' [(0, zP pb), (3, zP b), (4, v_1')] _ ?_)
        refine a7 (fun _ hK_19' => ?_)
        refine a6 ?_
        refine wm ?_
        obtain ⟨o_12', h⟩ := h
        refine WL.callS aik rfl (ahd pb wa ts k_3' op_3' ([125] : List UInt8) o_12') rfl trivial rfl rfl (fun r H' hS => ?_) (fun c H' hS => ?_)
        ·rcases hS with ⟨k_5', op_5', hc, ho⟩ | ⟨ec_3', ep_3', hc, ho⟩ <;> cases ho
         replace h := h.1 k_5' op_5' hc
         refine WL.nil ?_
         refine kg (hK_19' [(3, zP b), (4, v_1')] _ ?_)
         refine a7 (fun _ hK_20' => ?_)
         refine a6 ?_
         refine wv (OV.fieldAddr0 rfl t7) ?_
         refine wv (OV.load rfl (At.own 3 rfl) rfl a8) ?_
         refine wm ?_
         obtain ⟨o_13', h⟩ := h
         refine wv (OV.buildC (qs := [(0, [zI ((b4 ts k0).2.1)]), (1, [v_1'])]) (cs := [zI ((b4 ts k0).2.1), v_1']) rfl ⟨rfl, rfl, ⟨rfl, aaf o_13', trivial⟩⟩ rfl) ?_
         refine wv (OV.iface rfl ap4) ?_
         refine wA ?_
         refine WL.nil ?_
         refine kg (hK_20' [(2, Value.iface 76 (Value.agg [zI ((b4 ts k0).2.1), v_1'].toArray))] _ ?_)
         refine b8 ?_
         exact hE.ret [0, 1, 2] rfl rfl (.inl ⟨_, _, _, _, _, h, rfl⟩) (d7.of1 rfl (RV.tmp rfl))
        ·rcases hS with ⟨k_5', op_5', hc, ho⟩ | ⟨ec_3', ep_3', hc, ho⟩ <;> cases ho
         replace h := h.2 ec_3' ep_3' hc
         exact hE.pan [0, 1, 2] rfl rfl (.inr ⟨_, _, _, _, _, h, rfl⟩)
       ·rcases hS with ⟨_, e_1', k_3', op_3', B_2', hc, ho⟩ | ⟨ec_2', ep_2', k_4', op_4', B_3', hc, ho⟩ <;> cases ho
        replace h := h.2 ec_2' ep_2' k_4' op_4' B_3' hc
        exact hE.pan [0, 1, 2] rfl rfl (.inr ⟨_, _, _, _, _, h, rfl⟩)
      ·rcases hS with ⟨k_2', op_2', hc, ho⟩ | ⟨ec_1', ep_1', hc, ho⟩ <;> cases ho
       replace h := h.2 ec_1' ep_1' hc
       exact hE.pan [0, 1, 3] rfl rfl (.inr ⟨_, _, _, _, _, h, rfl⟩)
     ·replace h := e9 h hb
      refine a7 (fun _ hK_21' => ?_)
      refine a6 ?_
      refine wm ?_
      obtain ⟨o_14', h⟩ := h
      refine WL.call ach rfl (ae1 pb wa ts k0 op0 ([40] : List UInt8) o_14') rfl trivial rfl rfl ?_
      refine wA ?_
      refine WL.nil ?_
      refine kg (hK_21' [(0, zP pb), (76, zB (isM ts k0 ([40] : List UInt8)))] _ ?_)
      refine b5 (b := isM ts k0 ([40] : List UInt8)) rfl (fun hb => ?_) (fun hb => ?_)
      ·replace h := e8 h hb
       refine a7 (fun _ hK_22' => ?_)
       refine a6 ?_
       refine wm ?_
       obtain ⟨o_15', h⟩ := h
       refine WL.callS aim rfl (ahk pb wa ts k0 op0 ([40] : List UInt8) o_15') rfl trivial rfl rfl (fun r H' hS => ?_) (fun c H' hS => ?_)
       ·rcases hS with ⟨k_6', op_6', hc, ho⟩ | ⟨ec_4', ep_4', hc, ho⟩ <;> cases ho
        replace h := h.1 k_6' op_6' hc
        refine WL.nil ?_
        refine kg (hK_22' [(0, zP pb)] _ ?_)
        refine a7 (fun _ hK_23' => ?_)
        refine a6 ?_
        refine wm ?_
        obtain ⟨o_16', h⟩ := h
        obtain ⟨o_17', h⟩ := h
        refine WL.pick (H' := [HA.blk pb (.cells [l5 wa 3 k_6', zI op_6'].toArray 55 (0, 0)), HA.row wa 102 3 ts.length (ts.flatMap e6), pool B0, HA.blk b (.cells [zI ((b4 ts k0).1), zI ((b4 ts k0).2.1), st ((b4 ts k0).2.2)].toArray 102 (0, 0))]) [0, 1, 3, 2] rfl rfl ?_
        refine WL.callS acn rfl (o_16' pb wa op_6' B0 o_17') rfl ⟨.inr (List.mem_of_getElem? (i := 0) rfl), trivial⟩ rfl rfl (fun v_2' H' hS => ?_) (fun c H' hS => ?_)
        ·rcases hS with ⟨_, e_2', k_7', op_7', B_4', hc, ho⟩ | ⟨ec_5', ep_5', k_8', op_8', B_5', hc, ho⟩ <;> cases ho
         replace h := h.1 v_2' e_2' k_7' op_7' B_4' hc
         refine wA ?_
         refine WL.nil ?_
         refine kg (hK_23' [(0, zP pb), (5, v_2')] _ ?_)
         refine a7 (fun _ hK_24' => ?_)
         refine a6 ?_
         refine wm ?_
         obtain ⟨o_18', h⟩ := h
         refine WL.callS aik rfl (ahd pb wa ts k_7' op_7' ([41] : List UInt8) o_18') rfl trivial rfl rfl (fun r H' hS => ?_) (fun c H' hS => ?_)
         ·rcases hS with ⟨k_9', op_9', hc, ho⟩ | ⟨ec_6', ep_6', hc, ho⟩ <;> cases ho
          replace h := h.1 k_9' op_9' hc
          refine WL.nil ?_
          refine kg (hK_24' [(5, v_2')] _ ?_)
          refine a7 (fun _ hK_25' => ?_)
          refine a6 ?_
          refine wm ?_
          refine wA ?_
          refine WL.nil ?_
          refine kg (hK_25' [(2, v_2')] _ ?_)
          refine b8 ?_
          exact hE.ret [0, 1, 2] rfl rfl (.inl ⟨_, _, _, _, _, h, rfl⟩) (d7.of1 rfl (RV.tmp rfl))
         ·rcases hS with ⟨k_9', op_9', hc, ho⟩ | ⟨ec_6', ep_6', hc, ho⟩ <;> cases ho
          replace h := h.2 ec_6' ep_6' hc
          exact hE.pan [0, 1, 2] rfl rfl (.inr ⟨_, _, _, _, _, h, rfl⟩)
        ·rcases hS with ⟨_, e_2', k_7', op_7', B_4', hc, ho⟩ | ⟨ec_5', ep_5', k_8', op_8', B_5', hc, ho⟩ <;> cases ho
         replace h := h.2 ec_5' ep_5' k_8' op_8' B_5' hc
         exact hE.pan [0, 1, 2] rfl rfl (.inr ⟨_, _, _, _, _, h, rfl⟩)
       ·rcases hS with ⟨k_6', op_6', hc, ho⟩ | ⟨ec_4', ep_4', hc, ho⟩ <;> cases ho
        replace h := h.2 ec_4' ep_4' hc
        exact hE.pan [0, 1, 3] rfl rfl (.inr ⟨_, _, _, _, _, h, rfl⟩)
      ·replace h := e9 h hb
       refine b6 ?_
       refine kg (hK_2' [(0, zP pb)] _ ?_)
       refine a7 (fun _ hK_26' => ?_)
       refine a6 ?_
       refine wm ?_
       obtain ⟨o_19', h⟩ := h
       refine WL.callS aeu rfl (acv pb wa ts k0 op0 60 o_19') rfl trivial rfl rfl (fun r H' hS => by cases hS) (fun c H' hS => ?_)
       cases hS
       exact hE.pan [0, 1, 3] rfl rfl (.inr ⟨_, _, _, _, _, h, rfl⟩)
def anj (te : TypeId) (fre : Nat × Nat) (ts : List Tok) (k0 : Nat) (op0 : Int) (B0 : List (Nat × Obj)) (K : Value → Nat → Int → (List Tok) → (List (Nat × Obj)) → Prop) (KP : Value → Nat → Int → (List Tok) → (List (Nat × Obj)) → Prop) : Prop :=
 (k0 < ts.length) ∧
 (POK ts (k0 + 1) op0 ∧ ([40] : List UInt8) ≠ []) ∧
 (∀ (k : Nat) (op : Int), n8 ts (k0 + 1, op0) ([40] : List UInt8) = .ok (k, op) →
  ∃ (Inv : Int → Nat → Int → (List Value) → (List (Nat × Obj)) → Prop) (mu : Int → Nat → Int → (List Value) → (List (Nat × Obj)) → Nat),
   Inv 0 k op [] B0 ∧ ∀ (t18_1' : Int) (p_0_2' : Nat) (p_1_2' : Int) (l_1' : List Value) (c_1' : List (Nat × Obj)), Inv t18_1' p_0_2' p_1_2' l_1' c_1' →
    (if (decide (t18_1' < d6 ((b4 ts k0).2.2))) = true then
     ∃ (J0_2' : Nat → Int → Prop),
      (∀ (p_0_3' : Nat) (p_1_3' : Int), J0_2' p_0_3' p_1_3' →
       (EAt te fre ts p_0_3' 0) ∧
       (POK ts p_0_3' p_1_3' ∧ 0 ≤ (0 : Int) ∧ (0 : Int) ≤ 5) ∧
       (∀ (v_2' : Value) (e_2' : Ex) (k_8' : Nat) (op_8' : Int) (B_4' : List (Nat × Obj)), ExR (sE ts 0 (p_0_3', p_1_3')) c_1' v_2' e_2' k_8' op_8' B_4' →
        (v_2'.oneCell' = true) ∧
        (v_2'.oneCell' = true) ∧
        (((l_1'.length + 1) + (l_1'.length + 1) / 4 + 192) * 16 ≤ 281474976710656 ∧ l_1'.length + 1 ≤ 9223372036854775807) ∧
        (I64 (t18_1' + 1)) ∧
        Inv (t18_1' + 1) k_8' op_8' (l_1' ++ [v_2']) B_4' ∧ mu (t18_1' + 1) k_8' op_8' (l_1' ++ [v_2']) B_4' < mu t18_1' p_0_2' p_1_2' l_1' c_1') ∧
       (∀ (ec_6' : Int) (ep_6' : Int) (k_9' : Nat) (op_9' : Int) (B_5' : List (Nat × Obj)), ExP (sE ts 0 (p_0_3', p_1_3')) ts ec_6' ep_6' k_9' op_9' B_5' →
        KP (Value.iface 26 (Value.agg [zI ec_6', zI ep_6', st []].toArray)) k_9' op_9' ts B_5')) ∧
      (if (decide (0 < t18_1')) = true then
       (POK ts p_0_2' p_1_2' ∧ ([44] : List UInt8) ≠ []) ∧
       (∀ (k_10' : Nat) (op_10' : Int), p6 ts (p_0_2', p_1_2') ([44] : List UInt8) = .ok (k_10', op_10') →
        J0_2' k_10' op_10') ∧
       (∀ (ec_7' : Int) (ep_7' : Int), p6 ts (p_0_2', p_1_2') ([44] : List UInt8) = .error (ec_7', ep_7') →
        KP (Value.iface 26 (Value.agg [zI ec_7', zI ep_7', st []].toArray)) p_0_2' p_1_2' ts c_1')
      else
       J0_2' p_0_2' p_1_2')
    else
     (POK ts p_0_2' p_1_2' ∧ ([41] : List UInt8) ≠ []) ∧
     (∀ (k_11' : Nat) (op_11' : Int), s5 ts (p_0_2', p_1_2') ([41] : List UInt8) = .ok (k_11', op_11') →
      (0 < l_1'.length) ∧
      ∀ (w_3' : Value) (b_5' : Nat) (cs : List Value), ad8 w_3' 37 1 l_1'.length (l_1'.flatMap acz) b_5' cs → K (Value.iface 83 (Value.agg [zI ((b4 ts k0).2.1), st ((b4 ts k0).2.2), w_3'].toArray)) k_11' op_11' ts ((b_5', .cells cs.toArray 37 (0, 0)) :: c_1')) ∧
     (∀ (ec_8' : Int) (ep_8' : Int), s5 ts (p_0_2', p_1_2') ([41] : List UInt8) = .error (ec_8', ep_8') →
      KP (Value.iface 26 (Value.agg [zI ec_8', zI ep_8', st []].toArray)) p_0_2' p_1_2' ts c_1'))) ∧
 (∀ (ec : Int) (ep : Int), n8 ts (k0 + 1, op0) ([40] : List UInt8) = .error (ec, ep) →
  KP (Value.iface 26 (Value.agg [zI ec, zI ep, st []].toArray)) (k0 + 1) op0 ts B0)
theorem awh (pb : Nat) (wa : Value) (te : TypeId) (fre : Nat × Nat) (ts : List Tok) (k0 : Nat) (op0 : Int) (B0 : List (Nat × Obj)) (K : Value → Nat → Int → (List Tok) → (List (Nat × Obj)) → Prop) (KP : Value → Nat → Int → (List Tok) → (List (Nat × Obj)) → Prop) (h : anj te fre ts k0 op0 B0 K KP) :
  d9 Tryd.prog 79 [zP pb] [(0, .cells [st ([124] : List UInt8), st ([38, 45] : List UInt8), st ([62, 62] : List UInt8), st ([126] : List UInt8), st ([46] : List UInt8)].toArray te fre)] [HA.blk pb (.cells [l5 wa 3 k0, zI op0].toArray 55 (0, 0)), HA.row wa 102 3 ts.length (ts.flatMap e6), pool B0] (fun o => (∃ (v_3' : Value) (d_1'_0 : Nat) (d_1'_1 : Int) (d : List Tok) (D : List (Nat × Obj)), K v_3' d_1'_0 d_1'_1 d D ∧ o = .ret (v_3') [HA.blk pb (.cells [l5 wa 3 d_1'_0, zI d_1'_1].toArray 55 (0, 0)), HA.row wa 102 3 d.length (d.flatMap e6), pool D]) ∨ (∃ (pv : Value) (d_1'_0 : Nat) (d_1'_1 : Int) (d : List Tok) (D : List (Nat × Obj)), KP pv d_1'_0 d_1'_1 d D ∧ o = .pan [{ v := pv, recovered := false }] [HA.blk pb (.cells [l5 wa 3 d_1'_0, zI d_1'_1].toArray 55 (0, 0)), HA.row wa 102 3 d.length (d.flatMap e6), pool D])) := by
 unfold anj at h
 refine c8 (n := 37) (L0 := [(0, zP pb)]) Tryd.func79 rfl rfl rfl rfl (fun w0 M Q hE => ?_)
 refine a7 (fun _ hK => ?_)
 refine a6 ?_
 refine wA ?_
 refine WL.nil ?_
 refine kg (hK [(0, zP pb)] _ ?_)
 refine a7 (fun _ hK_1' => ?_)
 refine a6 ?_
 refine wm ?_
 obtain ⟨o, h⟩ := h
 refine WL.call abe rfl (aba pb wa ts k0 op0 o) rfl trivial rfl rfl ?_
 refine WL.make (MV.alloc aak) rfl rfl rfl (fun b => ?_)
 refine WL.storeW (vs := [zI ((b4 ts k0).1), zI ((b4 ts k0).2.1), st ((b4 ts k0).2.2)]) 0 rfl rfl rfl rfl rfl aam rfl rfl rfl ?_
 refine WL.nil ?_
 refine kg (hK_1' [(0, zP pb), (3, zP b)] _ ?_)
 refine a7 (fun _ hK_2' => ?_)
 refine a6 ?_
 refine wv (OV.fieldAddr0 rfl t7) ?_
 refine wv (OV.load rfl (At.own 0 rfl) rfl a8) ?_
 refine wv (OV.fieldAddr0 rfl n3) ?_
 refine wv (OV.load rfl (At.own 0 rfl) rfl c7) ?_
 refine wv (OV.build rfl (cs := [zI ((b4 ts k0).2.1), st ((b4 ts k0).2.2), Value.slice none 0 0]) rfl) ?_
 refine WL.make (MV.alloc ahx) rfl rfl rfl (fun b_1' => ?_)
 refine WL.nilRow 37 1 acz ?_
 refine WL.storeW (vs := [zI ((b4 ts k0).2.1), st ((b4 ts k0).2.2), Value.slice none 0 0]) 1 rfl rfl rfl rfl rfl ahw rfl rfl rfl ?_
 refine WL.nilRow 37 1 acz ?_
 refine WL.nil ?_
 refine kg (hK_2' [(0, zP pb), (3, zP b), (4, zP b_1')] _ ?_)
 refine a7 (fun _ hK_3' => ?_)
 refine a6 ?_
 refine wm ?_
 obtain ⟨o_1', h⟩ := h
 refine WL.pick (H' := [HA.blk pb (.cells [l5 wa 3 (k0 + 1), zI op0].toArray 55 (0, 0)), HA.row wa 102 3 ts.length (ts.flatMap e6), HA.row (Value.slice none 0 0) 37 1 ([] : List Value).length (([] : List Value).flatMap acz), HA.row (Value.slice none 0 0) 37 1 ([] : List Value).length (([] : List Value).flatMap acz), HA.blk b_1' (.cells [zI ((b4 ts k0).2.1), st ((b4 ts k0).2.2), Value.slice none 0 0].toArray 83 (0, 0)), HA.blk b (.cells [zI ((b4 ts k0).1), zI ((b4 ts k0).2.1), st ((b4 ts k0).2.2)].toArray 102 (0, 0)), pool B0]) [4, 5, 0, 1, 2, 3, 6] rfl rfl ?_
 refine WL.callS aim rfl (ahk pb wa ts (k0 + 1) op0 ([40] : List UInt8) o_1') rfl trivial rfl rfl (fun r H' hS => ?_) (fun c H' hS => ?_)
 ·rcases hS with ⟨k, op, hc, ho⟩ | ⟨ec, ep, hc, ho⟩ <;> cases ho
  replace h := h.1 k op hc
  refine WL.nil ?_
  refine kg (hK_3' [(0, zP pb), (3, zP b), (4, zP b_1')] _ ?_)
  refine a7 (fun _ hK_4' => ?_)
  refine a7 (fun _ hK_5' => ?_)
  refine a6 ?_
  refine wv (OV.fieldAddr0 rfl n3) ?_
  refine wv (OV.load rfl (At.own 5 rfl) rfl c7) ?_
  refine WL.call (A := []) agc rfl (aez ((b4 ts k0).2.2)) rfl trivial rfl rfl ?_
  refine wm ?_
  refine WL.nil ?_
  refine kg (hK_5' [(0, zP pb), (4, zP b_1'), (17, zI (d6 ((b4 ts k0).2.2))), (18, zI 0)] _ ?_)
  refine b7 ?_
  refine WC.pick (H' := [HA.blk pb (.cells [l5 wa 3 k, zI op].toArray 55 (0, 0)), HA.row wa 102 3 ts.length (ts.flatMap e6), HA.row (Value.slice none 0 0) 37 1 ([] : List Value).length (([] : List Value).flatMap acz), HA.blk b_1' (.cells [zI ((b4 ts k0).2.1), st ((b4 ts k0).2.2), Value.slice none 0 0].toArray 83 (0, 0)), pool B0]) [0, 1, 2, 4, 6] rfl rfl ?_
  obtain ⟨Inv, mu, h0, hr⟩ := h
  refine o7 (S := Int × Nat × Int × Value × (List Value) × (List (Nat × Obj))) (fun σ => Inv σ.1 σ.2.1 σ.2.2.1 σ.2.2.2.2.1 σ.2.2.2.2.2) (fun σ => mu σ.1 σ.2.1 σ.2.2.1 σ.2.2.2.2.1 σ.2.2.2.2.2) (fun σ => [(0, zP pb), (4, zP b_1'), (17, zI (d6 ((b4 ts k0).2.2))), (18, zI σ.1)]) (fun σ => [HA.blk pb (.cells [l5 wa 3 σ.2.1, zI σ.2.2.1].toArray 55 (0, 0)), HA.row wa 102 3 ts.length (ts.flatMap e6), HA.row σ.2.2.2.1 37 1 σ.2.2.2.2.1.length (σ.2.2.2.2.1.flatMap acz), HA.blk b_1' (.cells [zI ((b4 ts k0).2.1), st ((b4 ts k0).2.2), σ.2.2.2.1].toArray 83 (0, 0)), pool σ.2.2.2.2.2]) (0, k, op, Value.slice none 0 0, [], B0) h0 ⟨rfl, rfl, rfl, rfl, trivial⟩ rfl ?_
  rintro ⟨t18_1', p_0_2', p_1_2', w_3', l_1', c_1'⟩ hi K0_20' hK_20'
  have h := hr t18_1' p_0_2' p_1_2' l_1' c_1' hi
  show WC _ _ _ _ [(0, zP pb), (4, zP b_1'), (17, zI (d6 ((b4 ts k0).2.2))), (18, zI t18_1')] [HA.blk pb (.cells [l5 wa 3 p_0_2', zI p_1_2'].toArray 55 (0, 0)), HA.row wa 102 3 ts.length (ts.flatMap e6), HA.row w_3' 37 1 l_1'.length (l_1'.flatMap acz), HA.blk b_1' (.cells [zI ((b4 ts k0).2.1), st ((b4 ts k0).2.2), w_3'].toArray 83 (0, 0)), pool c_1']
  refine a7 (fun _ hK_21' => ?_)
  refine a6 ?_
  refine wv (OV.lss rfl rfl) ?_
  refine WL.nil ?_
  refine kg (hK_21' [(0, zP pb), (4, zP b_1'), (17, zI (d6 ((b4 ts k0).2.2))), (18, zI t18_1'), (19, zB (decide (t18_1' < d6 ((b4 ts k0).2.2))))] _ ?_)
  refine a7 (fun _ hK_22' => ?_)
  refine b5 (b := decide (t18_1' < d6 ((b4 ts k0).2.2))) rfl (fun hb => ?_) (fun hb => ?_)
  ·replace h := e8 h hb
   refine b6 ?_
   refine kg (hK_22' [(0, zP pb), (4, zP b_1'), (17, zI (d6 ((b4 ts k0).2.2))), (18, zI t18_1')] _ ?_)
   refine a7 (fun _ hK_23' => ?_)
   refine b7 ?_
   refine a7 (fun _ hK_24' => ?_)
   refine a6 ?_
   refine wm ?_
   refine wA ?_
   refine WL.nil ?_
   refine kg (hK_24' [(0, zP pb), (4, zP b_1'), (5, zI t18_1'), (17, zI (d6 ((b4 ts k0).2.2))), (18, zI t18_1')] _ ?_)
   obtain ⟨J0_2', hJ_2', h⟩ := h
   refine m5 (X := Nat × Int) (fun σ => J0_2' σ.1 σ.2) (fun σ => [(0, zP pb), (4, zP b_1'), (17, zI (d6 ((b4 ts k0).2.2))), (18, zI t18_1')]) (fun σ => [HA.blk pb (.cells [l5 wa 3 σ.1, zI σ.2].toArray 55 (0, 0)), HA.row wa 102 3 ts.length (ts.flatMap e6), HA.row w_3' 37 1 l_1'.length (l_1'.flatMap acz), HA.blk b_1' (.cells [zI ((b4 ts k0).2.1), st ((b4 ts k0).2.2), w_3'].toArray 83 (0, 0)), pool c_1']) ?_ (fun K0_26' hK_26' => ?_)
   ·rintro ⟨p_0_3', p_1_3'⟩ hj
    replace h := hJ_2' p_0_3' p_1_3' hj
    show WC _ _ _ _ [(0, zP pb), (4, zP b_1'), (17, zI (d6 ((b4 ts k0).2.2))), (18, zI t18_1')] [HA.blk pb (.cells [l5 wa 3 p_0_3', zI p_1_3'].toArray 55 (0, 0)), HA.row wa 102 3 ts.length (ts.flatMap e6), HA.row w_3' 37 1 l_1'.length (l_1'.flatMap acz), HA.blk b_1' (.cells [zI ((b4 ts k0).2.1), st ((b4 ts k0).2.2), w_3'].toArray 83 (0, 0)), pool c_1']
    refine ah8 3 [3] [HA.blk b_1' (.cells [zI ((b4 ts k0).2.1), st ((b4 ts k0).2.2), w_3'].toArray 83 (0, 0))] rfl rfl f0 (by kernel_rfl) (fun T_2' hT_2' => ?_)
    refine TW.val (OV.fieldAddr0 rfl abt) rfl rfl rfl ?_
    refine TW.val (OV.load rfl (At.own 0 rfl) rfl afa) rfl rfl rfl ?_
    refine TW.val (OV.move rfl) rfl rfl rfl ?_
    refine TW.nil (hT_2' _ ?_)
    obtain ⟨o_16', h⟩ := h
    obtain ⟨o_17', h⟩ := h
    refine WLX.pick (H' := [HA.blk pb (.cells [l5 wa 3 p_0_3', zI p_1_3'].toArray 55 (0, 0)), HA.row wa 102 3 ts.length (ts.flatMap e6), pool c_1', HA.row w_3' 37 1 l_1'.length (l_1'.flatMap acz), HA.blk b_1' (.cells [zI ((b4 ts k0).2.1), st ((b4 ts k0).2.2), w_3'].toArray 83 (0, 0))]) [0, 1, 4, 2, 3] rfl rfl ?_
    refine WLX.callS [1] rfl (EN.fn acn rfl) rfl (o_16' pb wa p_1_3' c_1' o_17') rfl rfl ⟨.inr (List.mem_of_getElem? (i := 0) rfl), trivial⟩ rfl rfl (fun v_2' H' hS => ?_) (fun c H' hS => ?_)
    ·rcases hS with ⟨_, e_2', k_8', op_8', B_4', hc, ho⟩ | ⟨ec_6', ep_6', k_9', op_9', B_5', hc, ho⟩ <;> cases ho
     replace h := h.1 v_2' e_2' k_8' op_8' B_4' hc
     obtain ⟨o_18', h⟩ := h
     refine WLX.make (MV.buildSlice1 (cs := [v_2']) rfl (aaf o_18') aeo aq0 rfl rfl) [5] rfl (fun _ => rfl) rfl rfl rfl (fun b_4' => ?_)
     obtain ⟨o_19', h⟩ := h
     obtain ⟨o_20', h⟩ := h
     refine WLX.valX (afy (f := acz) (ms := [v_2']) 4 0 rfl rfl rfl rfl rfl rfl af9 (by decide) (avj o_19') aeo aq3 rfl o_20') [5] rfl (fun _ _ e => by cases e; rfl) rfl rfl rfl (fun w_4' _ e => ?_)
     cases e
     refine WLX.op [5] rfl rfl (OpK.val (OV.fieldAddr0 rfl abt) rfl rfl) rfl ?_
     refine WLX.opZ (OpK.storeSl (cs' := [zI ((b4 ts k0).2.1), st ((b4 ts k0).2.2), w_4']) 5 4 rfl rfl rfl rfl aqj (Nat.le_of_ble_eq_true rfl) rfl) rfl ?_
     refine WLX.nil ?_
     refine kg (hK_23' [(0, zP pb), (4, zP b_1'), (17, zI (d6 ((b4 ts k0).2.2))), (18, zI t18_1')] _ ?_)
     refine a6 ?_
     obtain ⟨o_21', h⟩ := h
     refine wv (OV.add rfl rfl o_21') ?_
     refine wm ?_
     refine WL.nil ?_
     exact kh (hK_20' (t18_1' + 1, k_8', op_8', w_4', l_1' ++ [v_2'], B_4') h.1 h.2) [1, 2, 4, 5, 3]
    ·rcases hS with ⟨_, e_2', k_8', op_8', B_4', hc, ho⟩ | ⟨ec_6', ep_6', k_9', op_9', B_5', hc, ho⟩ <;> cases ho
     replace h := h.2 ec_6' ep_6' k_9' op_9' B_5' hc
     refine QX.strong ?_
     exact hE.pan [0, 1, 2] rfl rfl (.inr ⟨_, _, _, _, _, h, rfl⟩)
   ·skip
    refine a7 (fun _ hK_27' => ?_)
    refine a6 ?_
    refine wm ?_
    refine wv (OV.gtr rfl rfl) ?_
    refine WL.nil ?_
    refine kg (hK_27' [(0, zP pb), (4, zP b_1'), (17, zI (d6 ((b4 ts k0).2.2))), (18, zI t18_1'), (22, zB (decide (0 < t18_1')))] _ ?_)
    refine b5 (b := decide (0 < t18_1')) rfl (fun hb => ?_) (fun hb => ?_)
    ·replace h := e8 h hb
     refine a6 ?_
     refine wm ?_
     obtain ⟨o_22', h⟩ := h
     refine WL.callS aev rfl (aen pb wa ts p_0_2' p_1_2' ([44] : List UInt8) o_22') rfl trivial rfl rfl (fun r H' hS => ?_) (fun c H' hS => ?_)
     ·rcases hS with ⟨k_10', op_10', hc, ho⟩ | ⟨ec_7', ep_7', hc, ho⟩ <;> cases ho
      replace h := h.1 k_10' op_10' hc
      refine WL.nil ?_
      exact kh (hK_26' (k_10', op_10') h) [0, 1, 2, 3, 4]
     ·rcases hS with ⟨k_10', op_10', hc, ho⟩ | ⟨ec_7', ep_7', hc, ho⟩ <;> cases ho
      replace h := h.2 ec_7' ep_7' hc
      exact hE.pan [0, 1, 4] rfl rfl (.inr ⟨_, _, _, _, _, h, rfl⟩)
    ·replace h := e9 h hb
     refine b6 ?_
     exact kh (hK_26' (p_0_2', p_1_2') h) [0, 1, 2, 3, 4]
  ·replace h := e9 h hb
   refine l4 ?_
   refine kg (hK_4' [(0, zP pb), (4, zP b_1')] _ ?_)
   refine a7 (fun _ hK_28' => ?_)
   refine a6 ?_
   refine wm ?_
   obtain ⟨o_23', h⟩ := h
   refine WL.callS aik rfl (ahd pb wa ts p_0_2' p_1_2' ([41] : List UInt8) o_23') rfl trivial rfl rfl (fun r H' hS => ?_) (fun c H' hS => ?_)
   ·rcases hS with ⟨k_11', op_11', hc, ho⟩ | ⟨ec_8', ep_8', hc, ho⟩ <;> cases ho
    replace h := h.1 k_11' op_11' hc
    refine WL.nil ?_
    refine kg (hK_28' [(4, zP b_1')] _ ?_)
    refine a7 (fun _ hK_29' => ?_)
    refine a6 ?_
    refine wv (OV.loadR rfl (At.own 3 rfl) amw) ?_
    refine wv (OV.iface rfl app) ?_
    refine wA ?_
    refine WL.nil ?_
    refine kg (hK_29' [(2, Value.iface 83 (Value.agg [zI ((b4 ts k0).2.1), st ((b4 ts k0).2.2), w_3'].toArray))] _ ?_)
    refine b8 ?_
    obtain ⟨o_24', h⟩ := h
    refine QX.pick (H' := [HA.row w_3' 37 1 l_1'.length (l_1'.flatMap acz), pool c_1', HA.blk pb (.cells [l5 wa 3 k_11', zI op_11'].toArray 55 (0, 0)), HA.row wa 102 3 ts.length (ts.flatMap e6), HA.blk b_1' (.cells [zI ((b4 ts k0).2.1), st ((b4 ts k0).2.2), w_3'].toArray 83 (0, 0))]) [2, 4, 0, 1, 3] rfl rfl ?_
    refine QX.absorbRow o_24' (fun b_5' cs hl => ?_)
    exact hE.ret [1, 2, 0] rfl rfl (.inl ⟨_, _, _, _, _, (h w_3' b_5' cs hl), rfl⟩) (d7.of1 rfl (RV.tmp rfl))
   ·rcases hS with ⟨k_11', op_11', hc, ho⟩ | ⟨ec_8', ep_8', hc, ho⟩ <;> cases ho
    replace h := h.2 ec_8' ep_8' hc
    exact hE.pan [0, 1, 4] rfl rfl (.inr ⟨_, _, _, _, _, h, rfl⟩)
 ·rcases hS with ⟨k, op, hc, ho⟩ | ⟨ec, ep, hc, ho⟩ <;> cases ho
  replace h := h.2 ec ep hc
  exact hE.pan [0, 1, 6] rfl rfl (.inr ⟨_, _, _, _, _, h, rfl⟩)
section
variable {te : TypeId} {fre : Nat × Nat} {ts : List Tok} {k : Nat}
abbrev KR (r : RsX Ex) (ts : List Tok) (B : List (Nat × Obj)) : Value → Nat → Int → List Tok → List (Nat × Obj) → Prop := fun v k o ts2 B2 => (∃ e, ExR r B v e k o B2) ∧ ts2 = ts
abbrev KE (r : RsX Ex) (ts : List Tok) : Value → Nat → Int → List Tok → List (Nat × Obj) → Prop := fun v _ _ ts2 _ => (∃ c p, r = .error (c, p) ∧ v = acj c p) ∧ ts2 = ts
theorem awb (h : AAt te fre ts k) : PAt te fre ts k := by
 intro pb wa o B hp
 refine (awq pb wa te fre ts k o B (KR (sP ts (k, o)) ts B) (KE (sP ts (k, o)) ts) ?_).weak ?_
 ·unfold ano
  refine ⟨h, hp, fun v e k2 o2 B2 hr => ?_, fun c p k2 o2 B2 hr => ?_⟩
  ·obtain ⟨h1, h2, h3⟩ := hr
   have h4 : k2 < ts.length := ayc hp.2.2.1 h1
   refine ⟨fun v k' => ∃ e', sP ts (k, o) = sS ts e' (k', o2) ∧ TV B2 e' v ∧ k' < ts.length, fun _ k' => ts.length - k', ⟨e, by rw [arb, h1], h2, h4⟩, fun v' k' hi => ?_⟩
   obtain ⟨e', i1, i2, i3⟩ := hi
   refine ⟨i3, fun _ => i3, fun _ => i3, ?_⟩
   by_cases hm : isM ts k' [42] = true ∨ isM ts k' [43] = true ∨ isM ts k' [63] = true
   ·rw [if_pos (by rw [Bool.or_eq_true, Bool.or_eq_true, or_assoc]; exact hm)]
    have hk : (b4 ts k').1 ≠ 0 := by rcases hm with hm | hm | hm <;> rw [(aaa hm).1] <;> decide
    have hl : k' + 1 < ts.length := (hp.at i3).next hk
    refine ⟨i3, i2.one, ⟨.unary (b4 ts k').2.1 (b4 ts k').2.2 e', ?_, ⟨_, i2, rfl⟩, hl⟩, by show ts.length - (k' + 1) < ts.length - k'; omega⟩
    rw [i1, ar0, if_pos hm]
   ·rw [if_neg (by rw [Bool.or_eq_true, Bool.or_eq_true, or_assoc]; exact hm)]
    exact ⟨⟨e', by rw [i1, ar0, if_neg hm], i2, h3⟩, rfl⟩
  ·exact ⟨⟨c, p, by rw [arb, show sA ts (k, o) = _ from hr], rfl⟩, rfl⟩
 ·rintro x (⟨v, k2, o2, ts2, B2, ⟨⟨e, he⟩, rfl⟩, rfl⟩ | ⟨v, k2, o2, ts2, B2, ⟨⟨c, p, he, rfl⟩, rfl⟩, rfl⟩)
  ·exact .inl ⟨_, e, k2, o2, B2, he, rfl⟩
  ·exact .inr ⟨c, p, k2, o2, B2, he, rfl⟩
theorem awu (h : PAt te fre ts k) (hE : ∀ k2, k < k2 → ∀ l, EAt te fre ts k2 l) : ∀ (j : Nat) (l : Int), l = 5 - j → EAt te fre ts k l := by
 intro j
 induction j with
 | zero =>
  intro l hl pb wa o B hp
  obtain rfl : l = 5 := by omega
  have hs : sE ts (5 : Int).toNat (k, o) = sP ts (k, o) := by rw [ao8, if_pos (by decide)]
  refine (aq9 pb wa te fre ts k o B 5 (KR (sE ts (5 : Int).toNat (k, o)) ts B) (KE (sE ts (5 : Int).toNat (k, o)) ts) ?_).weak ?_
  ·unfold ajq
   rw [if_pos (decide_eq_true rfl), hs]
   exact ⟨h, hp.1, fun v e k2 o2 B2 hr => ⟨⟨e, hr⟩, rfl⟩, fun c p k2 o2 B2 hr => ⟨⟨c, p, hr, rfl⟩, rfl⟩⟩
  ·rintro x (⟨v, k2, o2, ts2, B2, ⟨⟨e, he⟩, rfl⟩, rfl⟩ | ⟨v, k2, o2, ts2, B2, ⟨⟨c, p, he, rfl⟩, rfl⟩, rfl⟩)
   ·exact .inl ⟨_, e, k2, o2, B2, he, rfl⟩
   ·exact .inr ⟨c, p, k2, o2, B2, he, rfl⟩
 | succ j ih =>
  intro l hl pb wa o B hp
  obtain ⟨hp, h0, h5⟩ := hp
  have hn5 : l ≠ 5 := by omega
  have hn : (l + 1).toNat = l.toNat + 1 := by omega
  have hi64 : I64 (l + 1) := by unfold I64; omega
  refine (aq9 pb wa te fre ts k o B l (KR (sE ts l.toNat (k, o)) ts B) (KE (sE ts l.toNat (k, o)) ts) ?_).weak ?_
  ·unfold ajq
   rw [if_neg (by rw [decide_eq_true_eq]; exact hn5)]
   refine ⟨hi64, ih (l + 1) (by omega), ⟨hp, by omega, by omega⟩, fun v e k2 o2 B2 hr => ?_, fun c p k2 o2 B2 hr => ?_⟩
   ·rw [hn] at hr
    obtain ⟨h1, h2, h3⟩ := hr
    have h4 : k2 < ts.length := aj4 hp.2.2.1 h1
    obtain ⟨h6, _, h7⟩ := acu h1
    dsimp only at h6 h7
    refine ⟨fun v k' o' c' => ∃ e', sE ts l.toNat (k, o) = sL ts l.toNat e' (k', o') ∧ TV c' e' v ∧ k < k' ∧ k' < ts.length ∧ o' = o ∧ ∀ p ∈ B, p ∈ c', fun _ k' _ _ => ts.length - k', ⟨e, by rw [ao8, if_neg (by omega), h1], h2, h6, h4, h7, h3⟩, fun v' k' o' c' hi => ?_⟩
    obtain ⟨e', i1, i2, i3, i4, rfl, i6⟩ := hi
    refine ⟨i4, fun ht => ⟨i4, hp.2.2.2.1 k' (of_decide_eq_true ht)⟩, ?_⟩
    by_cases hm : (b4 ts k').1 = 4 ∧ d8 (b4 ts k').2.2 = (l.toNat : Int)
    ·have hm2 : d8 (b4 ts k').2.2 = l := by rw [hm.2]; omega
     rw [if_pos (by rw [Bool.and_eq_true, decide_eq_true_eq, decide_eq_true_eq]; exact ⟨hm.1, hm2⟩)]
     have hl : k' + 1 < ts.length := (hp.at i4).next (by rw [hm.1]; decide)
     refine ⟨i4, hi64, hE _ (by omega) _, ⟨hp.at hl, by omega, by omega⟩, fun v2 e2 k3 o3 B3 hr2 => ?_, fun c p k3 o3 B3 hr2 => ?_⟩
     ·rw [hn] at hr2
      obtain ⟨g1, g2, g3⟩ := hr2
      have g4 : k3 < ts.length := aj4 hp.2.2.1 g1
      obtain ⟨g6, _, g7⟩ := acu g1
      dsimp only at g6 g7
      refine ⟨i2.one, g2.one, ⟨.binary (b4 ts k').2.1 (b4 ts k').2.2 e' e2, ?_, ⟨_, _, TV.more g3 _ _ i2, g2, rfl⟩, by omega, g4, g7, fun p hp => g3 p (i6 p hp)⟩, by show ts.length - k3 < ts.length - k'; omega⟩
      rw [i1, al6, if_pos hm, g1]
     ·rw [hn] at hr2
      exact ⟨⟨c, p, by rw [i1, al6, if_pos hm, show sE ts (l.toNat + 1) (k' + 1, o') = _ from hr2], rfl⟩, rfl⟩
    ·rw [if_neg (by rw [Bool.and_eq_true, decide_eq_true_eq, decide_eq_true_eq]; rintro ⟨m1, m2⟩; exact hm ⟨m1, by omega⟩)]
     exact ⟨⟨e', by rw [i1, al6, if_neg hm], i2, i6⟩, rfl⟩
   ·rw [hn] at hr
    exact ⟨⟨c, p, by rw [ao8, if_neg (by omega), show sE ts (l.toNat + 1) (k, o) = _ from hr], rfl⟩, rfl⟩
  ·rintro x (⟨v, k2, o2, ts2, B2, ⟨⟨e, he⟩, rfl⟩, rfl⟩ | ⟨v, k2, o2, ts2, B2, ⟨⟨c, p, he, rfl⟩, rfl⟩, rfl⟩)
   ·exact .inl ⟨_, e, k2, o2, B2, he, rfl⟩
   ·exact .inr ⟨c, p, k2, o2, B2, he, rfl⟩
theorem api (w : Bs) : -1 ≤ d6 w ∧ d6 w ≤ 3 := by
 unfold d6
 (repeat' split) <;> omega
theorem aw9 (hC : CAt te fre ts k) (hE : ∀ k2, k < k2 → ∀ l, EAt te fre ts k2 l) : AAt te fre ts k := by
 intro pb wa o B hp
 refine (aw3 pb wa te fre ts k o B (KR (sA ts (k, o)) ts B) (KE (sA ts (k, o)) ts) ?_).weak ?_
 ·unfold an0
  have hk := hp.1
  have same : ∀ p ∈ B, p ∈ B := fun p h => h
  refine ⟨hk, ?_⟩
  by_cases h2 : (b4 ts k).1 = 2
  ·rw [if_pos (decide_eq_true h2)]
   exact ⟨hk, ⟨.text (b4 ts k).2.1 (b4 ts k).2.2, by rw [ady, if_pos h2], rfl, same⟩, rfl⟩
  rw [if_neg (by rw [decide_eq_true_eq]; exact h2)]
  by_cases h3 : (b4 ts k).1 = 3
  ·rw [if_pos (decide_eq_true h3)]
   exact ⟨hk, ⟨.regex (b4 ts k).2.1 (b4 ts k).2.2, by rw [ady, if_neg h2, if_pos h3], rfl, same⟩, rfl⟩
  rw [if_neg (by rw [decide_eq_true_eq]; exact h3)]
  by_cases h4 : (b4 ts k).1 = 1 ∧ 0 < d6 (b4 ts k).2.2
  ·rw [if_pos (by rw [Bool.and_eq_true, decide_eq_true_eq, decide_eq_true_eq]; exact h4)]
   have he : sA ts (k, o) = sC ts (k, o) := by rw [ady, if_neg h2, if_neg h3, if_pos h4]
   rw [he]
   exact ⟨hC, ⟨hp, h4⟩, fun v e k2 o2 B2 hr => ⟨⟨e, hr⟩, rfl⟩, fun c p k2 o2 B2 hr => ⟨⟨c, p, hr, rfl⟩, rfl⟩⟩
  rw [if_neg (by rw [Bool.and_eq_true, decide_eq_true_eq, decide_eq_true_eq]; exact h4)]
  by_cases h5 : (b4 ts k).1 = 1 ∧ d6 (b4 ts k).2.2 = 0
  ·rw [if_pos (by rw [Bool.and_eq_true, decide_eq_true_eq, decide_eq_true_eq]; exact h5)]
   exact ⟨hk, ⟨.name (b4 ts k).2.1 (b4 ts k).2.2, by rw [ady, if_neg h2, if_neg h3, if_neg h4, if_pos h5], rfl, same⟩, rfl⟩
  rw [if_neg (by rw [Bool.and_eq_true, decide_eq_true_eq, decide_eq_true_eq]; exact h5)]
  refine ⟨hk, ?_⟩
  by_cases h6 : isM ts k [123] = true
  ·rw [if_pos h6]
   have he : sA ts (k, o) = brM ts [123] [125] (.keyed (b4 ts k).2.1) (k, o) := by rw [ady, if_neg h2, if_neg h3, if_neg h4, if_neg h5, if_pos h6]
   rw [he]
   unfold brM
   refine ⟨⟨hp, by decide⟩, fun k2 o2 hr => ?_, fun c p hr => ⟨⟨c, p, by rw [hr], rfl⟩, rfl⟩⟩
   obtain ⟨m1, m2, m3⟩ := aar hr
   cases m3
   dsimp only at m2
   have hl : k + 1 < ts.length := hp.next (by rw [(aaa m1).1]; decide)
   have ho := hp.2.1
   refine ⟨hE _ (by omega) _, ⟨hp.with hl ⟨by omega, by omega⟩, by decide, by decide⟩, fun v e k3 o3 B3 hr2 => ?_, fun c p k3 o3 B3 hr2 => ⟨⟨c, p, by rw [hr]; dsimp only; rw [show sE ts 0 (k + 1, o + 1) = _ from hr2], rfl⟩, rfl⟩⟩
   obtain ⟨g1, g2, g3⟩ := hr2
   obtain ⟨g6, _, g7⟩ := acu g1
   dsimp only at g6 g7
   refine ⟨⟨hp.with (aj4 hp.2.2.1 g1) ⟨by omega, by omega⟩, by decide⟩, fun k4 o4 hr3 => ⟨g2.one, ⟨.keyed (b4 ts k).2.1 e, ?_, ⟨_, g2, rfl⟩, g3⟩, rfl⟩, fun c p hr3 => ⟨⟨c, p, ?_, rfl⟩, rfl⟩⟩
   ·rw [hr]; dsimp only; rw [g1]; dsimp only; rw [hr3]
   ·rw [hr]; dsimp only; rw [g1]; dsimp only; rw [hr3]
  rw [if_neg h6]
  refine ⟨hk, ?_⟩
  by_cases h7 : isM ts k [40] = true
  ·rw [if_pos h7]
   have he : sA ts (k, o) = brM ts [40] [41] (fun a => a) (k, o) := by rw [ady, if_neg h2, if_neg h3, if_neg h4, if_neg h5, if_neg h6, if_pos h7]
   rw [he]
   unfold brM
   refine ⟨⟨hp, by decide⟩, fun k2 o2 hr => ?_, fun c p hr => ⟨⟨c, p, by rw [hr], rfl⟩, rfl⟩⟩
   obtain ⟨m1, m2, m3⟩ := aar hr
   cases m3
   dsimp only at m2
   have hl : k + 1 < ts.length := hp.next (by rw [(aaa m1).1]; decide)
   have ho := hp.2.1
   refine ⟨hE _ (by omega) _, ⟨hp.with hl ⟨by omega, by omega⟩, by decide, by decide⟩, fun v e k3 o3 B3 hr2 => ?_, fun c p k3 o3 B3 hr2 => ⟨⟨c, p, by rw [hr]; dsimp only; rw [show sE ts 0 (k + 1, o + 1) = _ from hr2], rfl⟩, rfl⟩⟩
   obtain ⟨g1, g2, g3⟩ := hr2
   obtain ⟨g6, _, g7⟩ := acu g1
   dsimp only at g6 g7
   refine ⟨⟨hp.with (aj4 hp.2.2.1 g1) ⟨by omega, by omega⟩, by decide⟩, fun k4 o4 hr3 => ⟨⟨e, ?_, g2, g3⟩, rfl⟩, fun c p hr3 => ⟨⟨c, p, ?_, rfl⟩, rfl⟩⟩
   ·rw [hr]; dsimp only; rw [g1]; dsimp only; rw [hr3]
   ·rw [hr]; dsimp only; rw [g1]; dsimp only; rw [hr3]
  rw [if_neg h7]
  exact ⟨hk, ⟨60, (b4 ts k).2.1, by rw [ady, if_neg h2, if_neg h3, if_neg h4, if_neg h5, if_neg h6, if_neg h7], rfl⟩, rfl⟩
 ·rintro x (⟨v, k2, o2, ts2, B2, ⟨⟨e, he⟩, rfl⟩, rfl⟩ | ⟨v, k2, o2, ts2, B2, ⟨⟨c, p, he, rfl⟩, rfl⟩, rfl⟩)
  ·exact .inl ⟨_, e, k2, o2, B2, he, rfl⟩
  ·exact .inr ⟨c, p, k2, o2, B2, he, rfl⟩
theorem avy (hE : ∀ k2, k < k2 → ∀ l, EAt te fre ts k2 l) : CAt te fre ts k := by
 intro pb wa o B hp
 obtain ⟨hp, hk1, ha⟩ := hp
 refine (awh pb wa te fre ts k o B (KR (sC ts (k, o)) ts B) (KE (sC ts (k, o)) ts) ?_).weak ?_
 ·have hk0 : (b4 ts k).1 ≠ 0 := by rw [hk1]; decide
  have hk := hp.next hk0
  have ha3 := (api (b4 ts k).2.2).2
  have ho := hp.2.1
  have hsC := axh (ts := ts) (q := (k, o)) hk0
  dsimp only at hsC
  unfold anj
  refine ⟨hp.1, ⟨hp.at hk, by decide⟩, fun k2 o2 hr => ?_, fun c p hr => ⟨⟨c, p, by rw [hsC, hr], rfl⟩, rfl⟩⟩
  obtain ⟨m1, m2, m3⟩ := aar hr
  cases m3
  dsimp only at m2
  rw [hr] at hsC
  dsimp only at hsC
  have hl : k + 1 + 1 < ts.length := (hp.at hk).next (by rw [(aaa m1).1]; decide)
  refine ⟨fun i k' o' us c' => ∃ l : ExL, sR ts (d6 (b4 ts k).2.2).toNat .nil (k + 1 + 1, o + 1) = sR ts (d6 (b4 ts k).2.2).toNat l (k', o') ∧ TVL c' l us ∧ i = (us.length : Int) ∧ k < k' ∧ k' < ts.length ∧ o' = o + 1 ∧ (∀ p ∈ B, p ∈ c') ∧ us.length ≤ 3, fun i _ _ _ _ => (3 - i).toNat, ⟨.nil, rfl, rfl, rfl, by omega, hl, rfl, fun p h => h, by decide⟩, fun i k' o' us c' hi => ?_⟩
  obtain ⟨l, i1, i2, rfl, i4, i5, rfl, i7, i8⟩ := hi
  have i9 := i2.len
  rw [i1] at hsC
  by_cases hlt : ((us.length : Nat) : Int) < d6 (b4 ts k).2.2
  ·rw [if_pos (decide_eq_true hlt)]
   have hR := aro (ts := ts) (n := (d6 (b4 ts k).2.2).toNat) (b := l) (q := (k', o + 1))
   rw [if_neg (by omega)] at hR
   refine ⟨fun p2 o2 => (if 0 < l.len then p6 ts (k', o + 1) [44] else .ok (k', o + 1)) = .ok (p2, o2), fun p2 o2 hj => ?_, ?_⟩
   ·have hj2 : k' ≤ p2 ∧ p2 < ts.length ∧ o2 = o + 1 := by
     split at hj
     ·obtain ⟨w1, w2⟩ := aco hj
      cases w2
      exact ⟨by dsimp only; omega, (hp.at i5).next (by rw [(aaa w1).1]; decide), rfl⟩
     ·cases hj; exact ⟨Nat.le_refl _, i5, rfl⟩
    obtain ⟨j1, j2, rfl⟩ := hj2
    rw [hj] at hR
    dsimp only at hR
    refine ⟨hE _ (by omega) _, ⟨hp.with j2 ⟨by omega, by omega⟩, by decide, by decide⟩, fun v2 e2 k3 o3 B3 hr2 => ?_, fun c p k3 o3 B3 hr2 => ⟨⟨c, p, by rw [hsC, hR, show sE ts 0 (p2, o + 1) = _ from hr2], rfl⟩, rfl⟩⟩
    obtain ⟨g1, g2, g3⟩ := hr2
    obtain ⟨g6, _, g7⟩ := acu g1
    dsimp only at g6 g7
    refine ⟨g2.one, g2.one, ⟨by omega, by omega⟩, by unfold I64; omega, ⟨l.snoc e2, ?_, TVL.snoc g2 (TVL.more g3 _ _ i2), by rw [List.length_append, List.length_singleton]; omega, by omega, aj4 hp.2.2.1 g1, g7, fun p hp => g3 p (i7 p hp), by rw [List.length_append, List.length_singleton]; omega⟩, by show (3 - ((us.length : Int) + 1)).toNat < (3 - (us.length : Int)).toNat; omega⟩
    rw [i1, hR, g1]
   ·by_cases h0 : 0 < l.len
    ·rw [if_pos (decide_eq_true (by omega))]
     rw [if_pos h0] at hR
     refine ⟨⟨hp.with i5 ⟨by omega, by omega⟩, by decide⟩, fun k3 o3 hr2 => by rw [if_pos h0]; exact hr2, fun c p hr2 => ⟨⟨c, p, by rw [hsC, hR, hr2], rfl⟩, rfl⟩⟩
    ·rw [if_neg (by rw [decide_eq_true_eq]; omega), if_neg h0]
  ·rw [if_neg (by rw [decide_eq_true_eq]; exact hlt)]
   rw [aro, if_pos (by omega)] at hsC
   dsimp only at hsC
   refine ⟨⟨hp.with i5 ⟨by omega, by omega⟩, by decide⟩, fun k3 o3 hr2 => ⟨by omega, fun w b cs hw => ⟨⟨.call (b4 ts k).2.1 (b4 ts k).2.2 l, by rw [hsC, hr2], ⟨us, w, b, cs, TVL.more (fun p h => List.mem_cons_of_mem _ h) _ _ i2, hw, List.mem_cons_self, rfl⟩, fun p hp => List.mem_cons_of_mem _ (i7 p hp)⟩, rfl⟩⟩, fun c p hr2 => ⟨⟨c, p, by rw [hsC, hr2], rfl⟩, rfl⟩⟩
 ·rintro x (⟨v, k2, o2, ts2, B2, ⟨⟨e, he⟩, rfl⟩, rfl⟩ | ⟨v, k2, o2, ts2, B2, ⟨⟨c, p, he, rfl⟩, rfl⟩, rfl⟩)
  ·exact .inl ⟨_, e, k2, o2, B2, he, rfl⟩
  ·exact .inr ⟨c, p, k2, o2, B2, he, rfl⟩
theorem auh (te : TypeId) (fre : Nat × Nat) (ts : List Tok) : ∀ (n k : Nat), ts.length ≤ k + n → ∀ l, EAt te fre ts k l := by
 intro n
 induction n with
 | zero =>
  intro k hk l pb wa o B hp
  have := hp.1.1
  omega
 | succ n ih =>
  intro k hk
  have hE : ∀ k2, k < k2 → ∀ l, EAt te fre ts k2 l := fun k2 h2 => ih k2 (by omega)
  have hP := awb (aw9 (avy hE) hE)
  intro l
  by_cases hl : l ≤ 5
  ·exact awu hP hE (5 - l).toNat l (by omega)
  ·intro pb wa o B hp
   exact absurd hp.2.2 hl
end
end Go.Proofs.YtifajndacnfcbaaDoor
namespace Go.Proofs.YtifajndacnfcbaaDoor
open Go Go.RowKit
def q8 (v : Value) (T sz n : Nat) (xs : List Value) (B1 : List (Nat × Obj)) : Prop := (v = .slice none 0 0 ∧ n = 0 ∧ B1 = []) ∨ ∃ b cs, ad8 v T sz n xs b cs ∧ B1 = [(b, .cells cs.toArray T (0, 0))]
theorem q8.inSl {v : Value} {T sz n : Nat} {xs : List Value} {B1 : List (Nat × Obj)} (h : q8 v T sz n xs B1) (hl : xs.length = n * sz) : aqu v B1 n xs := by
 rcases h with ⟨rfl, rfl, rfl⟩ | ⟨b, cs, h, rfl⟩
 ·refine .inl ⟨rfl, ?_⟩
  first | exact ⟨rfl, by simpa using hl⟩ | exact ⟨rfl, rfl, by simpa using hl⟩ | simpa using hl
 ·exact h.inSl hl
section
variable {P : Program} {ops : Array Oper} {Q : Exit → Act → World → Prop} {C : Cx} {L : Sl} {H : List HA} {w : World}
theorem Own.absorbRow0 {v : Value} {T sz n : Nat} {xs : List Value} {B : List (Nat × Obj)} {A : List HA} {F : List Nat} (h : Own w (.row v T sz n xs :: pool B :: A) F) :
  ∃ B1, q8 v T sz n xs B1 ∧ Own w (pool (B1 ++ B) :: A) F := by
 rcases Nat.eq_zero_or_pos n with rfl | hn
 ·obtain ⟨F1, F2, rfl, ⟨rfl, hl, hr⟩, h2⟩ := h
  rcases hr with ⟨rfl, h0⟩ | ⟨b, cap, cur, rfl, _, hb, hn2, hcm, hcs, htk⟩
  ·exact ⟨[], .inl ⟨rfl, rfl, rfl⟩, h2⟩
  ·have hblk : Own w (.blk b (.cells cur.toList.toArray T (0, 0)) :: pool B :: A) ([b] ++ F2) := ⟨[b], F2, rfl, ⟨rfl, by rw [Array.toArray_toList]; exact hb⟩, h2⟩
   have h1 : 0 * sz ≤ cap * sz := Nat.mul_le_mul_right _ hn2
   exact ⟨[(b, .cells cur.toList.toArray T (0, 0))], .inr ⟨b, cur.toList, ⟨cap, rfl, hn2, by simpa using hcs, htk, by rw [Array.length_toList, hcs]; exact h1, by omega⟩, rfl⟩, hblk.absorb⟩
 ·obtain ⟨b, cs, h1, h2⟩ := h.absorbRow hn
  exact ⟨[(b, .cells cs.toArray T (0, 0))], .inr ⟨b, cs, h1, rfl⟩, h2⟩
theorem QX.absorbRow0 {e : Exit} {v : Value} {T sz n : Nat} {xs : List Value} {B : List (Nat × Obj)} (h : ∀ B1, q8 v T sz n xs B1 → QX Q e C L (pool (B1 ++ B) :: H)) : QX Q e C L (.row v T sz n xs :: pool B :: H) := fun a w hf hp => by
 obtain ⟨F, h1, h2⟩ := hp.own
 obtain ⟨B1, h3, h4⟩ := h1.absorbRow0
 exact h B1 h3 a w hf ⟨hp.os, hp.tape, hp.output, hp.size, hp.keep, hp.ro, F, h4, h2⟩
end
abbrev ac7 := Int × Bs × Value
def aca (d : ac7) : List Value := [.int .i64 d.1, st d.2.1, d.2.2]
theorem aem (d : ac7) : (aca d).length = 3 := rfl
theorem auv {v : Value} {a : Int} {s : Bs} (h : v.oneCell' = true) : ([Value.int .i64 a, st s, v].all (·.oneCell')) = true := by simp [h]; exact ⟨rfl, rfl⟩
def TDs (B : List (Nat × Obj)) : List t8 → List ac7 → Prop
 | [], [] => True
 | d :: r, x :: s => (x.1 = d.1 ∧ x.2.1 = d.2.1 ∧ TV B d.2.2 x.2.2) ∧ TDs B r s
 | _, _ => False
theorem TDs.more {B B2 : List (Nat × Obj)} (h : ∀ p ∈ B, p ∈ B2) : ∀ {l : List t8} {ds : List ac7}, TDs B l ds → TDs B2 l ds
 | [], [], _ => trivial
 | _ :: _, _ :: _, ⟨⟨h1, h2, h3⟩, h4⟩ => ⟨⟨h1, h2, TV.more h _ _ h3⟩, h4.more h⟩
 | [], _ :: _, h4 => h4.elim
 | _ :: _, [], h4 => h4.elim
theorem TDs.snoc {B : List (Nat × Obj)} {d : t8} {v : Value} (hv : TV B d.2.2 v) : ∀ {l : List t8} {ds : List ac7}, TDs B l ds → TDs B (l ++ [d]) (ds ++ [(d.1, d.2.1, v)])
 | [], [], _ => ⟨⟨rfl, rfl, hv⟩, trivial⟩
 | _ :: _, _ :: _, ⟨h1, h4⟩ => ⟨h1, h4.snoc hv⟩
 | [], _ :: _, h4 => h4.elim
 | _ :: _, [], h4 => h4.elim
theorem TDs.len {B : List (Nat × Obj)} : ∀ {l : List t8} {ds : List ac7}, TDs B l ds → ds.length = l.length
 | [], [], _ => rfl
 | _ :: _, _ :: _, ⟨_, h4⟩ => by rw [List.length_cons, List.length_cons, h4.len]
 | [], _ :: _, h4 => h4.elim
 | _ :: _, [], h4 => h4.elim
def ag0 (B : List (Nat × Obj)) (b : Nat) (w m : Value) (ds : List ac7) (B1 : List (Nat × Obj)) (l : List t8) (a : Ex) : Prop :=
 TDs B l ds ∧ TV B a m ∧ q8 w 41 3 ds.length (ds.flatMap aca) B1 ∧ (∀ p ∈ B1, p ∈ B) ∧ (b, Obj.cells [w, m].toArray 39 (0, 0)) ∈ B
def aru (B : List (Nat × Obj)) (v : Value) (l : List t8) (a : Ex) : Prop := ∃ b w m ds B1, v = .pointer (some ⟨b, 0, none⟩) ∧ ag0 B b w m ds B1 l a
def apg (ts : List Tok) (r : Except (Int × Int) (List t8 × PSx)) : Except (Int × Int) (List t8 × Ex) := match r with
 | .error e => .error e
 | .ok (l, q) => match sE ts 0 q with
  | .error e => .error e
  | .ok (a, q1) => if (b4 ts q1.1).1 = 0 then .ok (l, a) else .error (60, (b4 ts q1.1).2.1)
theorem ae0 (ts : List Tok) : z8 ts = apg ts (pD ts (BIG ts) (BIG ts) [] (0, 0)) := rfl
theorem ar2 {ts : List Tok} {f : Nat} {l : List t8} {q : PSx} : pD ts (BIG ts) (f + 1) l q = if (b4 ts q.1).1 = 1 ∧ (b4 ts q.1).2.2 = [108, 101, 116] then
   if (b4 ts (q.1 + 1)).1 ≠ 1 ∨ d6 (b4 ts (q.1 + 1)).2.2 ≠ 0 then .error (60, (b4 ts (q.1 + 1)).2.1)
   else match p6 ts (q.1 + 2, q.2) [61] with
    | .error e => .error e
    | .ok q1 => match sE ts 0 q1 with
     | .error e => .error e
     | .ok (b, q2) => match p6 ts q2 [59] with
      | .error e => .error e
      | .ok q3 => pD ts (BIG ts) f (l ++ [((b4 ts (q.1 + 1)).2.1, (b4 ts (q.1 + 1)).2.2, b)]) q3
  else .ok (l, q) := rfl
end Go.Proofs.YtifajndacnfcbaaDoor
set_option maxRecDepth 100000
namespace Go.Proofs.YtifajndacnfcbaaDoor
open Go Go.RowKit
theorem aac : f6 Tryd.prog 39 0 = some 0 := by kernel_rfl
theorem ace : aal Tryd.prog 35 = true := by kernel_rfl
theorem acx : slB Tryd.prog 35 41 3 = true := by kernel_rfl
theorem ap2 : afi Tryd.prog 41 = some ([zI 0, st [], Value.nilIface], 3, 40) := by kernel_rfl
theorem apz : o8 Tryd.prog 35 1 = true := by kernel_rfl
theorem abr : f6 Tryd.prog 39 1 = some 1 := by kernel_rfl
theorem ap9 : o8 Tryd.prog 37 1 = true := by kernel_rfl
def ahq (te : TypeId) (fre : Nat × Nat) (ts : List Tok) (k0 : Nat) (op0 : Int) (B0 : List (Nat × Obj)) (K : Value → Nat → Int → (List Tok) → (List (Nat × Obj)) → Prop) (KP : Value → Nat → Int → (List Tok) → (List (Nat × Obj)) → Prop) : Prop :=
 ∃ (Inv : (List ac7) → Nat → Int → (List (Nat × Obj)) → Prop) (mu : (List ac7) → Nat → Int → (List (Nat × Obj)) → Nat),
  Inv [] k0 op0 B0 ∧ ∀ (l_1' : List ac7) (p_0_1' : Nat) (p_1_1' : Int) (c_1' : List (Nat × Obj)), Inv l_1' p_0_1' p_1_1' c_1' →
   (p_0_1' < ts.length) ∧
   ((decide ((b4 ts p_0_1').1 = 1)) = true → (p_0_1' < ts.length)) ∧
   (if ((decide ((b4 ts p_0_1').1 = 1)) && (decide ((b4 ts p_0_1').2.2 = ([108, 101, 116] : List UInt8)))) = true then
    (p_0_1' < ts.length) ∧
    (p_0_1' + 1 < ts.length) ∧
    (if ((!decide ((b4 ts (p_0_1' + 1)).1 = 1)) || (!decide (d6 ((b4 ts (p_0_1' + 1)).2.2) = 0))) = true then
     (p_0_1' + 1 < ts.length) ∧
     KP (Value.iface 26 (Value.agg [zI 60, zI ((b4 ts (p_0_1' + 1)).2.1), st []].toArray)) (p_0_1' + 1) p_1_1' ts c_1'
    else
     (p_0_1' + 1 < ts.length) ∧
     (POK ts (p_0_1' + 1 + 1) p_1_1' ∧ ([61] : List UInt8) ≠ []) ∧
     (∀ (k_8' : Nat) (op_8' : Int), p6 ts (p_0_1' + 1 + 1, p_1_1') ([61] : List UInt8) = .ok (k_8', op_8') →
      (EAt te fre ts k_8' 0) ∧
      (POK ts k_8' op_8' ∧ 0 ≤ (0 : Int) ∧ (0 : Int) ≤ 5) ∧
      (∀ (v_2' : Value) (e_2' : Ex) (k_9' : Nat) (op_9' : Int) (B_4' : List (Nat × Obj)), ExR (sE ts 0 (k_8', op_8')) c_1' v_2' e_2' k_9' op_9' B_4' →
       (v_2'.oneCell' = true) ∧
       (v_2'.oneCell' = true) ∧
       (((l_1'.length + 1) + (l_1'.length + 1) / 4 + 192) * 40 ≤ 281474976710656 ∧ l_1'.length + 1 ≤ 9223372036854775807) ∧
       (POK ts k_9' op_9' ∧ ([59] : List UInt8) ≠ []) ∧
       (∀ (k_11' : Nat) (op_11' : Int), p6 ts (k_9', op_9') ([59] : List UInt8) = .ok (k_11', op_11') →
        Inv (l_1' ++ [((((b4 ts (p_0_1' + 1)).2.1), (b4 ts (p_0_1' + 1)).2.2, v_2') : ac7)]) k_11' op_11' B_4' ∧ mu (l_1' ++ [((((b4 ts (p_0_1' + 1)).2.1), (b4 ts (p_0_1' + 1)).2.2, v_2') : ac7)]) k_11' op_11' B_4' < mu l_1' p_0_1' p_1_1' c_1') ∧
       (∀ (ec_8' : Int) (ep_8' : Int), p6 ts (k_9', op_9') ([59] : List UInt8) = .error (ec_8', ep_8') →
        KP (Value.iface 26 (Value.agg [zI ec_8', zI ep_8', st []].toArray)) k_9' op_9' ts B_4')) ∧
      (∀ (ec_7' : Int) (ep_7' : Int) (k_10' : Nat) (op_10' : Int) (B_5' : List (Nat × Obj)), ExP (sE ts 0 (k_8', op_8')) ts ec_7' ep_7' k_10' op_10' B_5' →
       KP (Value.iface 26 (Value.agg [zI ec_7', zI ep_7', st []].toArray)) k_10' op_10' ts B_5')) ∧
     (∀ (ec_6' : Int) (ep_6' : Int), p6 ts (p_0_1' + 1 + 1, p_1_1') ([61] : List UInt8) = .error (ec_6', ep_6') →
      KP (Value.iface 26 (Value.agg [zI ec_6', zI ep_6', st []].toArray)) (p_0_1' + 1 + 1) p_1_1' ts c_1'))
   else
    (EAt te fre ts p_0_1' 0) ∧
    (POK ts p_0_1' p_1_1' ∧ 0 ≤ (0 : Int) ∧ (0 : Int) ≤ 5) ∧
    (∀ (v_3' : Value) (e_3' : Ex) (k_12' : Nat) (op_12' : Int) (B_6' : List (Nat × Obj)), ExR (sE ts 0 (p_0_1', p_1_1')) c_1' v_3' e_3' k_12' op_12' B_6' →
     (v_3'.oneCell' = true) ∧
     (k_12' < ts.length) ∧
     (if (!decide ((b4 ts k_12').1 = 0)) = true then
      (k_12' < ts.length) ∧
      KP (Value.iface 26 (Value.agg [zI 60, zI ((b4 ts k_12').2.1), st []].toArray)) k_12' op_12' ts B_6'
     else
      ∀ (b : Nat), ∀ (w_3' : Value) (R : List (Nat × Obj)), q8 w_3' 41 3 l_1'.length (l_1'.flatMap aca) R → K (zP b) k_12' op_12' ts ((b, .cells [w_3', v_3'].toArray 39 (0, 0)) :: (R ++ B_6')))) ∧
    (∀ (ec_9' : Int) (ep_9' : Int) (k_13' : Nat) (op_13' : Int) (B_7' : List (Nat × Obj)), ExP (sE ts 0 (p_0_1', p_1_1')) ts ec_9' ep_9' k_13' op_13' B_7' →
     KP (Value.iface 26 (Value.agg [zI ec_9', zI ep_9', st []].toArray)) k_13' op_13' ts B_7'))
theorem aqk (pb : Nat) (wa : Value) (te : TypeId) (fre : Nat × Nat) (ts : List Tok) (k0 : Nat) (op0 : Int) (B0 : List (Nat × Obj)) (K : Value → Nat → Int → (List Tok) → (List (Nat × Obj)) → Prop) (KP : Value → Nat → Int → (List Tok) → (List (Nat × Obj)) → Prop) (h : ahq te fre ts k0 op0 B0 K KP) :
  d9 Tryd.prog 17 [zP pb] [(0, .cells [st ([124] : List UInt8), st ([38, 45] : List UInt8), st ([62, 62] : List UInt8), st ([126] : List UInt8), st ([46] : List UInt8)].toArray te fre)] [HA.blk pb (.cells [l5 wa 3 k0, zI op0].toArray 55 (0, 0)), HA.row wa 102 3 ts.length (ts.flatMap e6), pool B0] (fun o => (∃ (v_4' : Value) (d_1'_0 : Nat) (d_1'_1 : Int) (d : List Tok) (D : List (Nat × Obj)), K v_4' d_1'_0 d_1'_1 d D ∧ o = .ret (v_4') [HA.blk pb (.cells [l5 wa 3 d_1'_0, zI d_1'_1].toArray 55 (0, 0)), HA.row wa 102 3 d.length (d.flatMap e6), pool D]) ∨ (∃ (pv : Value) (d_1'_0 : Nat) (d_1'_1 : Int) (d : List Tok) (D : List (Nat × Obj)), KP pv d_1'_0 d_1'_1 d D ∧ o = .pan [{ v := pv, recovered := false }] [HA.blk pb (.cells [l5 wa 3 d_1'_0, zI d_1'_1].toArray 55 (0, 0)), HA.row wa 102 3 d.length (d.flatMap e6), pool D])) := by
 unfold ahq at h
 refine c8 (n := 66) (L0 := [(0, zP pb)]) Tryd.func17 rfl rfl rfl rfl (fun w0 M Q hE => ?_)
 refine a7 (fun _ hK => ?_)
 refine a6 ?_
 refine wA ?_
 refine WL.nil ?_
 refine kg (hK [(0, zP pb)] _ ?_)
 refine a7 (fun _ hK_1' => ?_)
 refine a6 ?_
 refine wv (OV.build rfl (cs := [Value.slice none 0 0, Value.nilIface]) rfl) ?_
 refine WL.make (MV.box (cs := [Value.slice none 0 0, Value.nilIface]) rfl rfl) rfl rfl rfl (fun b => ?_)
 refine WL.nilRow 41 3 aca ?_
 refine wA ?_
 refine WL.nil ?_
 refine kg (hK_1' [(0, zP pb), (3, zP b)] _ ?_)
 refine a7 (fun _ hK_2' => ?_)
 refine b7 ?_
 obtain ⟨Inv, mu, h0, hr⟩ := h
 refine o7 (S := Value × (List ac7) × Nat × Int × (List (Nat × Obj))) (fun σ => Inv σ.2.1 σ.2.2.1 σ.2.2.2.1 σ.2.2.2.2) (fun σ => mu σ.2.1 σ.2.2.1 σ.2.2.2.1 σ.2.2.2.2) (fun σ => [(0, zP pb), (3, zP b)]) (fun σ => [HA.row σ.1 41 3 σ.2.1.length (σ.2.1.flatMap aca), HA.blk b (.cells [σ.1, Value.nilIface].toArray 39 (0, 0)), HA.blk pb (.cells [l5 wa 3 σ.2.2.1, zI σ.2.2.2.1].toArray 55 (0, 0)), HA.row wa 102 3 ts.length (ts.flatMap e6), pool σ.2.2.2.2]) (Value.slice none 0 0, [], k0, op0, B0) h0 ⟨rfl, rfl, trivial⟩ rfl ?_
 rintro ⟨w_3', l_1', p_0_1', p_1_1', c_1'⟩ hi K0_25' hK_25'
 have h := hr l_1' p_0_1' p_1_1' c_1' hi
 show WC _ _ _ _ [(0, zP pb), (3, zP b)] [HA.row w_3' 41 3 l_1'.length (l_1'.flatMap aca), HA.blk b (.cells [w_3', Value.nilIface].toArray 39 (0, 0)), HA.blk pb (.cells [l5 wa 3 p_0_1', zI p_1_1'].toArray 55 (0, 0)), HA.row wa 102 3 ts.length (ts.flatMap e6), pool c_1']
 refine a7 (fun _ hK_26' => ?_)
 refine a7 (fun _ hK_27' => ?_)
 refine a6 ?_
 refine wm ?_
 obtain ⟨o_30', h⟩ := h
 refine WL.pick (H' := [HA.blk pb (.cells [l5 wa 3 p_0_1', zI p_1_1'].toArray 55 (0, 0)), HA.row wa 102 3 ts.length (ts.flatMap e6), HA.row w_3' 41 3 l_1'.length (l_1'.flatMap aca), HA.blk b (.cells [w_3', Value.nilIface].toArray 39 (0, 0)), pool c_1']) [2, 3, 0, 1, 4] rfl rfl ?_
 refine WL.call aaz rfl (aaw pb wa ts p_0_1' p_1_1' o_30') rfl trivial rfl rfl ?_
 refine wv (OV.field rfl ad6 a8 rfl) ?_
 refine wv (OV.eql rfl rfl) ?_
 refine wm ?_
 obtain ⟨o_32', h⟩ := h
 refine WL.cut 5 [(0, zP pb), (3, zP b), (16, zB ((decide ((b4 ts p_0_1').1 = 1)) && (decide ((b4 ts p_0_1').2.2 = ([108, 101, 116] : List UInt8)))))] ?_ (fun K0_28' hK_28' => ?_)
 rotate_left
 ·refine WL.split (decide ((b4 ts p_0_1').1 = 1)) (fun hb => ?_) (fun hb => ?_)
  ·have o_31' := o_32' hb
   refine WL.set 11 rfl (congrArg zB hb) ?_
   refine wm ?_
   refine WL.call aaz rfl (aaw pb wa ts p_0_1' p_1_1' o_31') rfl trivial rfl rfl ?_
   refine wv (OV.field rfl afu c7 rfl) ?_
   refine wv (OV.eqlS rfl rfl) ?_
   refine wv (OV.pickT rfl rfl) ?_
   refine WL.set 16 rfl (bT (v := decide ((b4 ts p_0_1').2.2 = ([108, 101, 116] : List UInt8))) hb) ?_
   exact WL.end_ (kg hK_28')
  ·refine WL.set 11 rfl (congrArg zB hb) ?_
   refine wk ?_
   refine wk ?_
   refine wk ?_
   refine wk ?_
   refine wv (OV.pickF rfl rfl) ?_
   refine WL.set 16 rfl (bF (v := decide ((b4 ts p_0_1').2.2 = ([108, 101, 116] : List UInt8))) hb) ?_
   exact WL.end_ (kg hK_28')
 refine WL.nil ?_
 refine kg (hK_27' [(0, zP pb), (3, zP b), (16, zB ((decide ((b4 ts p_0_1').1 = 1)) && (decide ((b4 ts p_0_1').2.2 = ([108, 101, 116] : List UInt8)))))] _ ?_)
 refine b5 (b := (decide ((b4 ts p_0_1').1 = 1)) && (decide ((b4 ts p_0_1').2.2 = ([108, 101, 116] : List UInt8)))) rfl (fun hb => ?_) (fun hb => ?_)
 ·replace h := e8 h hb
  refine b6 ?_
  refine kg (hK_26' [(0, zP pb), (3, zP b)] _ ?_)
  refine b7 ?_
  refine a7 (fun _ hK_29' => ?_)
  refine a6 ?_
  refine wm ?_
  obtain ⟨o_33', h⟩ := h
  refine WL.call abe rfl (aba pb wa ts p_0_1' p_1_1' o_33') rfl trivial rfl rfl ?_
  refine WL.nil ?_
  refine kg (hK_29' [(0, zP pb), (3, zP b)] _ ?_)
  refine a7 (fun _ hK_30' => ?_)
  refine a6 ?_
  refine wm ?_
  obtain ⟨o_34', h⟩ := h
  refine WL.call aaz rfl (aaw pb wa ts (p_0_1' + 1) p_1_1' o_34') rfl trivial rfl rfl ?_
  refine WL.make (MV.alloc aak) rfl rfl rfl (fun b_5' => ?_)
  refine WL.storeW (vs := [zI ((b4 ts (p_0_1' + 1)).1), zI ((b4 ts (p_0_1' + 1)).2.1), st ((b4 ts (p_0_1' + 1)).2.2)]) 0 rfl rfl rfl rfl rfl aam rfl rfl rfl ?_
  refine WL.nil ?_
  refine kg (hK_30' [(0, zP pb), (3, zP b), (4, zP b_5')] _ ?_)
  refine a7 (fun _ hK_31' => ?_)
  refine a7 (fun _ hK_32' => ?_)
  refine a6 ?_
  refine wv (OV.fieldAddr0 rfl aa8) ?_
  refine wv (OV.load rfl (At.own 0 rfl) rfl a8) ?_
  refine wv (OV.neq rfl rfl) ?_
  refine wm ?_
  refine WL.cut 5 [(0, zP pb), (3, zP b), (4, zP b_5'), (29, zB ((!decide ((b4 ts (p_0_1' + 1)).1 = 1)) || (!decide (d6 ((b4 ts (p_0_1' + 1)).2.2) = 0))))] ?_ (fun K0_33' hK_33' => ?_)
  rotate_left
  ·refine WL.split (!decide ((b4 ts (p_0_1' + 1)).1 = 1)) (fun hb => ?_) (fun hb => ?_)
   ·refine WL.set 24 rfl (congrArg zB hb) ?_
    refine wk ?_
    refine wk ?_
    refine wk ?_
    refine wk ?_
    refine wv (OV.pickT rfl rfl) ?_
    refine WL.set 29 rfl (oT (v := !decide (d6 ((b4 ts (p_0_1' + 1)).2.2) = 0)) hb) ?_
    exact WL.end_ (kg hK_33')
   ·refine WL.set 24 rfl (congrArg zB hb) ?_
    refine wv (OV.fieldAddr0 rfl n3) ?_
    refine wv (OV.load rfl (At.own 0 rfl) rfl c7) ?_
    refine WL.call (A := []) agc rfl (aez ((b4 ts (p_0_1' + 1)).2.2)) rfl trivial rfl rfl ?_
    refine wv (OV.neq rfl rfl) ?_
    refine wv (OV.pickF rfl rfl) ?_
    refine WL.set 29 rfl (oF (v := !decide (d6 ((b4 ts (p_0_1' + 1)).2.2) = 0)) hb) ?_
    exact WL.end_ (kg hK_33')
  refine WL.nil ?_
  refine kg (hK_32' [(0, zP pb), (3, zP b), (4, zP b_5'), (29, zB ((!decide ((b4 ts (p_0_1' + 1)).1 = 1)) || (!decide (d6 ((b4 ts (p_0_1' + 1)).2.2) = 0))))] _ ?_)
  refine b5 (b := (!decide ((b4 ts (p_0_1' + 1)).1 = 1)) || (!decide (d6 ((b4 ts (p_0_1' + 1)).2.2) = 0))) rfl (fun hb => ?_) (fun hb => ?_)
  ·replace h := e8 h hb
   refine a6 ?_
   refine wm ?_
   obtain ⟨o_36', h⟩ := h
   refine WL.pick (H' := [HA.blk pb (.cells [l5 wa 3 (p_0_1' + 1), zI p_1_1'].toArray 55 (0, 0)), HA.row wa 102 3 ts.length (ts.flatMap e6), HA.blk b_5' (.cells [zI ((b4 ts (p_0_1' + 1)).1), zI ((b4 ts (p_0_1' + 1)).2.1), st ((b4 ts (p_0_1' + 1)).2.2)].toArray 102 (0, 0)), HA.row w_3' 41 3 l_1'.length (l_1'.flatMap aca), HA.blk b (.cells [w_3', Value.nilIface].toArray 39 (0, 0)), pool c_1']) [1, 2, 0, 3, 4, 5] rfl rfl ?_
   refine WL.callS aeu rfl (acv pb wa ts (p_0_1' + 1) p_1_1' 60 o_36') rfl trivial rfl rfl (fun r H' hS => by cases hS) (fun c H' hS => ?_)
   cases hS
   exact hE.pan [0, 1, 5] rfl rfl (.inr ⟨_, _, _, _, _, h, rfl⟩)
  ·replace h := e9 h hb
   refine b6 ?_
   refine kg (hK_31' [(0, zP pb), (3, zP b), (4, zP b_5')] _ ?_)
   refine a7 (fun _ hK_34' => ?_)
   refine a6 ?_
   refine wm ?_
   obtain ⟨o_37', h⟩ := h
   refine WL.pick (H' := [HA.blk pb (.cells [l5 wa 3 (p_0_1' + 1), zI p_1_1'].toArray 55 (0, 0)), HA.row wa 102 3 ts.length (ts.flatMap e6), HA.blk b_5' (.cells [zI ((b4 ts (p_0_1' + 1)).1), zI ((b4 ts (p_0_1' + 1)).2.1), st ((b4 ts (p_0_1' + 1)).2.2)].toArray 102 (0, 0)), HA.row w_3' 41 3 l_1'.length (l_1'.flatMap aca), HA.blk b (.cells [w_3', Value.nilIface].toArray 39 (0, 0)), pool c_1']) [1, 2, 0, 3, 4, 5] rfl rfl ?_
   refine WL.call abe rfl (aba pb wa ts (p_0_1' + 1) p_1_1' o_37') rfl trivial rfl rfl ?_
   refine WL.nil ?_
   refine kg (hK_34' [(0, zP pb), (3, zP b), (4, zP b_5')] _ ?_)
   refine a7 (fun _ hK_35' => ?_)
   refine a6 ?_
   refine wm ?_
   obtain ⟨o_38', h⟩ := h
   refine WL.callS aev rfl (aen pb wa ts (p_0_1' + 1 + 1) p_1_1' ([61] : List UInt8) o_38') rfl trivial rfl rfl (fun r H' hS => ?_) (fun c H' hS => ?_)
   ·rcases hS with ⟨k_8', op_8', hc, ho⟩ | ⟨ec_6', ep_6', hc, ho⟩ <;> cases ho
    replace h := h.1 k_8' op_8' hc
    refine WL.nil ?_
    refine kg (hK_35' [(0, zP pb), (3, zP b), (4, zP b_5')] _ ?_)
    refine a7 (fun _ hK_36' => ?_)
    refine ah8 10 [2, 4] [HA.blk b_5' (.cells [zI ((b4 ts (p_0_1' + 1)).1), zI ((b4 ts (p_0_1' + 1)).2.1), st ((b4 ts (p_0_1' + 1)).2.2)].toArray 102 (0, 0)), HA.blk b (.cells [w_3', Value.nilIface].toArray 39 (0, 0))] rfl rfl f0 (by kernel_rfl) (fun T_2' hT_2' => ?_)
    refine TW.val (OV.move rfl) rfl rfl rfl ?_
    refine TW.val (OV.move rfl) rfl rfl rfl ?_
    refine TW.val (OV.nilCheck rfl) rfl rfl rfl ?_
    refine TW.val (OV.fieldAddr0 rfl aac) rfl rfl rfl ?_
    refine TW.val (OV.load rfl (At.own 1 rfl) rfl ace) rfl rfl rfl ?_
    refine TW.val (OV.fieldAddr0 rfl t7) rfl rfl rfl ?_
    refine TW.val (OV.load rfl (At.own 0 rfl) rfl a8) rfl rfl rfl ?_
    refine TW.val (OV.fieldAddr0 rfl n3) rfl rfl rfl ?_
    refine TW.val (OV.load rfl (At.own 0 rfl) rfl c7) rfl rfl rfl ?_
    refine TW.val (OV.move rfl) rfl rfl rfl ?_
    refine TW.nil (hT_2' _ ?_)
    obtain ⟨o_39', h⟩ := h
    obtain ⟨o_40', h⟩ := h
    refine WLX.pick (H' := [HA.blk pb (.cells [l5 wa 3 k_8', zI op_8'].toArray 55 (0, 0)), HA.row wa 102 3 ts.length (ts.flatMap e6), pool c_1', HA.blk b_5' (.cells [zI ((b4 ts (p_0_1' + 1)).1), zI ((b4 ts (p_0_1' + 1)).2.1), st ((b4 ts (p_0_1' + 1)).2.2)].toArray 102 (0, 0)), HA.row w_3' 41 3 l_1'.length (l_1'.flatMap aca), HA.blk b (.cells [w_3', Value.nilIface].toArray 39 (0, 0))]) [0, 1, 5, 2, 3, 4] rfl rfl ?_
    refine WLX.callS [0, 2] rfl (EN.fn acn rfl) rfl (o_39' pb wa op_8' c_1' o_40') rfl rfl ⟨.inr (List.mem_of_getElem? (i := 0) rfl), trivial⟩ rfl rfl (fun v_2' H' hS => ?_) (fun c H' hS => ?_)
    ·rcases hS with ⟨_, e_2', k_9', op_9', B_4', hc, ho⟩ | ⟨ec_7', ep_7', k_10', op_10', B_5', hc, ho⟩ <;> cases ho
     replace h := h.1 v_2' e_2' k_9' op_9' B_4' hc
     obtain ⟨o_41', h⟩ := h
     refine WLX.op [3, 5] rfl rfl (OpK.val (OV.buildC (qs := [(0, [zI ((b4 ts (p_0_1' + 1)).2.1)]), (1, [st ((b4 ts (p_0_1' + 1)).2.2)]), (2, [v_2'])]) (cs := [zI ((b4 ts (p_0_1' + 1)).2.1), st ((b4 ts (p_0_1' + 1)).2.2), v_2']) rfl ⟨rfl, rfl, ⟨rfl, rfl, ⟨rfl, aaf o_41', trivial⟩⟩⟩ rfl) rfl rfl) rfl ?_
     refine WLX.make (MV.buildSlice (cs := [zI ((b4 ts (p_0_1' + 1)).2.1), st ((b4 ts (p_0_1' + 1)).2.2), v_2']) rfl acx (by kernel_rfl)) [4, 6] rfl (fun _ => rfl) rfl rfl rfl (fun b_6' => ?_)
     obtain ⟨o_42', h⟩ := h
     obtain ⟨o_43', h⟩ := h
     refine WLX.valX (afy (f := aca) (ms := [((((b4 ts (p_0_1' + 1)).2.1), (b4 ts (p_0_1' + 1)).2.2, v_2') : ac7)]) 5 0 rfl rfl rfl rfl rfl rfl aem (by decide) (auv o_42') acx ap2 rfl o_43') [4, 6] rfl (fun _ _ e => by cases e; rfl) rfl rfl rfl (fun w_4' _ e => ?_)
     cases e
     refine WLX.op [4, 6] rfl rfl (OpK.val (OV.nilCheck rfl) rfl rfl) rfl ?_
     refine WLX.op [4, 6] rfl rfl (OpK.val (OV.fieldAddr0 rfl aac) rfl rfl) rfl ?_
     refine WLX.opZ (OpK.storeSl (cs' := [w_4', Value.nilIface]) 6 5 rfl rfl rfl rfl apz (Nat.le_of_ble_eq_true rfl) rfl) rfl ?_
     refine WLX.nil ?_
     refine kg (hK_36' [(0, zP pb), (3, zP b)] _ ?_)
     refine a6 ?_
     refine wm ?_
     obtain ⟨o_44', h⟩ := h
     refine WL.pick (H' := [HA.blk pb (.cells [l5 wa 3 k_9', zI op_9'].toArray 55 (0, 0)), HA.row wa 102 3 ts.length (ts.flatMap e6), HA.blk b_6' (.cells [zI ((b4 ts (p_0_1' + 1)).2.1), st ((b4 ts (p_0_1' + 1)).2.2), v_2'].toArray 41 (0, 0)), pool B_4', HA.blk b_5' (.cells [zI ((b4 ts (p_0_1' + 1)).1), zI ((b4 ts (p_0_1' + 1)).2.1), st ((b4 ts (p_0_1' + 1)).2.2)].toArray 102 (0, 0)), HA.row w_4' 41 3 (l_1' ++ [((((b4 ts (p_0_1' + 1)).2.1), (b4 ts (p_0_1' + 1)).2.2, v_2') : ac7)]).length ((l_1' ++ [((((b4 ts (p_0_1' + 1)).2.1), (b4 ts (p_0_1' + 1)).2.2, v_2') : ac7)]).flatMap aca), HA.blk b (.cells [w_4', Value.nilIface].toArray 39 (0, 0))]) [1, 2, 0, 3, 4, 5, 6] rfl rfl ?_
     refine WL.callS aev rfl (aen pb wa ts k_9' op_9' ([59] : List UInt8) o_44') rfl trivial rfl rfl (fun r H' hS => ?_) (fun c H' hS => ?_)
     ·rcases hS with ⟨k_11', op_11', hc, ho⟩ | ⟨ec_8', ep_8', hc, ho⟩ <;> cases ho
      replace h := h.1 k_11' op_11' hc
      refine WL.nil ?_
      exact kh (hK_25' (w_4', l_1' ++ [((((b4 ts (p_0_1' + 1)).2.1), (b4 ts (p_0_1' + 1)).2.2, v_2') : ac7)], k_11', op_11', B_4') h.1 h.2) [5, 6, 0, 1, 3]
     ·rcases hS with ⟨k_11', op_11', hc, ho⟩ | ⟨ec_8', ep_8', hc, ho⟩ <;> cases ho
      replace h := h.2 ec_8' ep_8' hc
      exact hE.pan [0, 1, 3] rfl rfl (.inr ⟨_, _, _, _, _, h, rfl⟩)
    ·rcases hS with ⟨_, e_2', k_9', op_9', B_4', hc, ho⟩ | ⟨ec_7', ep_7', k_10', op_10', B_5', hc, ho⟩ <;> cases ho
     replace h := h.2 ec_7' ep_7' k_10' op_10' B_5' hc
     refine QX.strong ?_
     exact hE.pan [0, 1, 2] rfl rfl (.inr ⟨_, _, _, _, _, h, rfl⟩)
   ·rcases hS with ⟨k_8', op_8', hc, ho⟩ | ⟨ec_6', ep_6', hc, ho⟩ <;> cases ho
    replace h := h.2 ec_6' ep_6' hc
    exact hE.pan [0, 1, 5] rfl rfl (.inr ⟨_, _, _, _, _, h, rfl⟩)
 ·replace h := e9 h hb
  refine l4 ?_
  refine kg (hK_2' [(0, zP pb), (3, zP b)] _ ?_)
  refine a7 (fun _ hK_37' => ?_)
  refine a6 ?_
  refine wm ?_
  refine wm ?_
  obtain ⟨o_45', h⟩ := h
  obtain ⟨o_46', h⟩ := h
  refine WL.pick (H' := [HA.blk pb (.cells [l5 wa 3 p_0_1', zI p_1_1'].toArray 55 (0, 0)), HA.row wa 102 3 ts.length (ts.flatMap e6), pool c_1', HA.row w_3' 41 3 l_1'.length (l_1'.flatMap aca), HA.blk b (.cells [w_3', Value.nilIface].toArray 39 (0, 0))]) [0, 1, 4, 2, 3] rfl rfl ?_
  refine WL.callS acn rfl (o_45' pb wa p_1_1' c_1' o_46') rfl ⟨.inr (List.mem_of_getElem? (i := 0) rfl), trivial⟩ rfl rfl (fun v_3' H' hS => ?_) (fun c H' hS => ?_)
  ·rcases hS with ⟨_, e_3', k_12', op_12', B_6', hc, ho⟩ | ⟨ec_9', ep_9', k_13', op_13', B_7', hc, ho⟩ <;> cases ho
   replace h := h.1 v_3' e_3' k_12' op_12' B_6' hc
   refine wv (OV.nilCheck rfl) ?_
   refine wv (OV.fieldAddr0 rfl abr) ?_
   obtain ⟨o_47', h⟩ := h
   refine WL.store (vs := [v_3']) (cs' := [w_3', v_3']) 4 rfl rfl rfl (aaf o_47') ap9 (Nat.le_of_ble_eq_true rfl) (d4 o_47' o6) rfl rfl ?_
   refine WL.nil ?_
   refine kg (hK_37' [(0, zP pb), (3, zP b)] _ ?_)
   refine a7 (fun _ hK_38' => ?_)
   refine a7 (fun _ hK_39' => ?_)
   refine a6 ?_
   refine wm ?_
   obtain ⟨o_48', h⟩ := h
   refine WL.call aaz rfl (aaw pb wa ts k_12' op_12' o_48') rfl trivial rfl rfl ?_
   refine wv (OV.field rfl ad6 a8 rfl) ?_
   refine wv (OV.neq rfl rfl) ?_
   refine WL.nil ?_
   refine kg (hK_39' [(0, zP pb), (3, zP b), (62, zB (!decide ((b4 ts k_12').1 = 0)))] _ ?_)
   refine b5 (b := !decide ((b4 ts k_12').1 = 0)) rfl (fun hb => ?_) (fun hb => ?_)
   ·replace h := e8 h hb
    refine a6 ?_
    refine wm ?_
    obtain ⟨o_49', h⟩ := h
    refine WL.callS aeu rfl (acv pb wa ts k_12' op_12' 60 o_49') rfl trivial rfl rfl (fun r H' hS => by cases hS) (fun c H' hS => ?_)
    cases hS
    exact hE.pan [0, 1, 2] rfl rfl (.inr ⟨_, _, _, _, _, h, rfl⟩)
   ·replace h := e9 h hb
    refine b6 ?_
    refine kg (hK_38' [(3, zP b)] _ ?_)
    refine a7 (fun _ hK_40' => ?_)
    refine a6 ?_
    refine wm ?_
    refine wA ?_
    refine WL.nil ?_
    refine kg (hK_40' [(2, zP b)] _ ?_)
    refine b8 ?_
    refine QX.pick (H' := [HA.row w_3' 41 3 l_1'.length (l_1'.flatMap aca), pool B_6', HA.blk pb (.cells [l5 wa 3 k_12', zI op_12'].toArray 55 (0, 0)), HA.row wa 102 3 ts.length (ts.flatMap e6), HA.blk b (.cells [w_3', v_3'].toArray 39 (0, 0))]) [3, 2, 0, 1, 4] rfl rfl ?_
    refine QX.absorbRow0 (fun R hl => ?_)
    refine QX.pick (H' := [HA.blk b (.cells [w_3', v_3'].toArray 39 (0, 0)), pool (R ++ B_6'), HA.blk pb (.cells [l5 wa 3 k_12', zI op_12'].toArray 55 (0, 0)), HA.row wa 102 3 ts.length (ts.flatMap e6)]) [3, 0, 1, 2] rfl rfl ?_
    refine QX.absorb ?_
    exact hE.ret [1, 2, 0] rfl rfl (.inl ⟨_, _, _, _, _, (h b w_3' R hl), rfl⟩) (d7.of1 rfl (RV.tmp rfl))
  ·rcases hS with ⟨_, e_3', k_12', op_12', B_6', hc, ho⟩ | ⟨ec_9', ep_9', k_13', op_13', B_7', hc, ho⟩ <;> cases ho
   replace h := h.2 ec_9' ep_9' k_13' op_13' B_7' hc
   exact hE.pan [0, 1, 2] rfl rfl (.inr ⟨_, _, _, _, _, h, rfl⟩)
section
abbrev PgS (pb : Nat) (wa : Value) (ts : List Tok) (B : List (Nat × Obj)) : Out → Prop := fun out =>
 (∃ v l a k o B2, (z8 ts = .ok (l, a) ∧ aru B2 v l a ∧ ∀ p ∈ B, p ∈ B2) ∧ out = .ret v (syH pb wa ts k o ++ [pool B2])) ∨ (∃ c p k o B2, z8 ts = .error (c, p) ∧ out = .pan [{ v := acj c p, recovered := false }] (syH pb wa ts k o ++ [pool B2]))
theorem am3 (te : TypeId) (fre : Nat × Nat) (pb : Nat) (wa : Value) (ts : List Tok) (B : List (Nat × Obj)) (hp : POK ts 0 0) :
  d9 Tryd.prog 17 [.pointer (some ⟨pb, 0, none⟩)] (ad4 te fre) (syH pb wa ts 0 0 ++ [pool B]) (PgS pb wa ts B) := by
 have hE : ∀ k l, EAt te fre ts k l := fun k => auh te fre ts ts.length k (by omega)
 refine (aqk pb wa te fre ts 0 0 B (fun v _ _ ts2 B2 => (∃ l a, z8 ts = .ok (l, a) ∧ aru B2 v l a ∧ ∀ p ∈ B, p ∈ B2) ∧ ts2 = ts) (fun v _ _ ts2 _ => (∃ c p, z8 ts = .error (c, p) ∧ v = acj c p) ∧ ts2 = ts) ?_).weak ?_
 ·unfold ahq
  refine ⟨fun ds k' o' c' => ∃ f l, z8 ts = apg ts (pD ts (BIG ts) f l (k', o')) ∧ TDs c' l ds ∧ k' < ts.length ∧ ts.length < f + k' ∧ o' = 0 ∧ ds.length ≤ k' ∧ ∀ p ∈ B, p ∈ c', fun _ k' _ _ => ts.length - k', ⟨BIG ts, [], ae0 ts, trivial, hp.1, by unfold BIG; omega, rfl, Nat.le_refl _, fun p h => h⟩, fun ds k' o' c' hi => ?_⟩
  obtain ⟨f, l, i1, i2, i3, i4, rfl, i5, i6⟩ := hi
  obtain ⟨f, rfl⟩ : ∃ g, f = g + 1 := ⟨f - 1, by omega⟩
  rw [ar2] at i1
  dsimp only at i1
  have hlen := hp.2.2.2.2
  refine ⟨i3, fun _ => i3, ?_⟩
  by_cases h1 : (b4 ts k').1 = 1 ∧ (b4 ts k').2.2 = [108, 101, 116]
  ·rw [if_pos (by rw [Bool.and_eq_true, decide_eq_true_eq, decide_eq_true_eq]; exact h1)]
   rw [if_pos h1] at i1
   have g1 : k' + 1 < ts.length := (hp.at i3).next (by rw [h1.1]; decide)
   refine ⟨i3, g1, ?_⟩
   by_cases h2 : (b4 ts (k' + 1)).1 ≠ 1 ∨ d6 (b4 ts (k' + 1)).2.2 ≠ 0
   ·rw [if_pos (by simpa using h2)]
    rw [if_pos h2] at i1
    exact ⟨g1, ⟨60, _, i1, rfl⟩, rfl⟩
   ·rw [if_neg (by simpa using h2)]
    rw [if_neg h2] at i1
    have h3 : (b4 ts (k' + 1)).1 = 1 := by
     by_cases h : (b4 ts (k' + 1)).1 = 1
     ·exact h
     ·exact absurd (.inl h) h2
    have g2 : k' + 1 + 1 < ts.length := (hp.at g1).next (by rw [h3]; decide)
    refine ⟨g1, ⟨hp.at g2, by decide⟩, fun k2 o2 hw => ?_, fun c p hw => ⟨⟨c, p, by rw [i1, hw]; rfl, rfl⟩, rfl⟩⟩
    rw [hw] at i1
    obtain ⟨w1, w2⟩ := aco hw
    cases w2
    dsimp only at i1
    have g3 : k' + 1 + 1 + 1 < ts.length := (hp.at g2).next (by rw [(aaa w1).1]; decide)
    refine ⟨hE _ _, ⟨hp.at g3, by decide, by decide⟩, fun v e k3 o3 B3 hr => ?_, fun c p k3 o3 B3 hr => ⟨⟨c, p, by rw [i1, show sE ts 0 (k' + 1 + 1 + 1, 0) = _ from hr]; rfl, rfl⟩, rfl⟩⟩
    obtain ⟨r1, r2, r3⟩ := hr
    obtain ⟨r6, _, r7⟩ := acu r1
    dsimp only at r6 r7
    subst r7
    rw [r1] at i1
    dsimp only at i1
    have g4 : k3 < ts.length := aj4 hp.2.2.1 r1
    refine ⟨r2.one, r2.one, ⟨by omega, by omega⟩, ⟨hp.at g4, by decide⟩, fun k4 o4 hw2 => ?_, fun c p hw2 => ⟨⟨c, p, by rw [i1, hw2]; rfl, rfl⟩, rfl⟩⟩
    rw [hw2] at i1
    obtain ⟨w3, w4⟩ := aco hw2
    cases w4
    dsimp only at i1
    have g5 : k3 + 1 < ts.length := (hp.at g4).next (by rw [(aaa w3).1]; decide)
    exact ⟨⟨f, _, i1, TDs.snoc (d := ((b4 ts (k' + 1)).2.1, (b4 ts (k' + 1)).2.2, e)) r2 (i2.more r3), g5, by dsimp only; omega, rfl, by rw [List.length_append, List.length_singleton]; dsimp only; omega, fun p hp => r3 p (i6 p hp)⟩, by show ts.length - (k3 + 1) < ts.length - k'; omega⟩
  ·rw [if_neg (by rw [Bool.and_eq_true, decide_eq_true_eq, decide_eq_true_eq]; exact h1)]
   rw [if_neg h1] at i1
   unfold apg at i1
   dsimp only at i1
   refine ⟨hE _ _, ⟨hp.at i3, by decide, by decide⟩, fun v e k3 o3 B3 hr => ?_, fun c p k3 o3 B3 hr => ⟨⟨c, p, by rw [i1, show sE ts 0 (k', 0) = _ from hr], rfl⟩, rfl⟩⟩
   obtain ⟨r1, r2, r3⟩ := hr
   rw [r1] at i1
   dsimp only at i1
   have g4 : k3 < ts.length := aj4 hp.2.2.1 r1
   refine ⟨r2.one, g4, ?_⟩
   by_cases h0 : (b4 ts k3).1 = 0
   ·rw [if_neg (by simpa using h0)]
    rw [if_pos h0] at i1
    intro b w B1 hw
    refine ⟨⟨l, e, i1, ⟨b, w, v, ds, B1, rfl, i2.more fun p hp => List.mem_cons_of_mem _ (List.mem_append.2 (.inr (r3 p hp))), TV.more (fun p hp => List.mem_cons_of_mem _ (List.mem_append.2 (.inr hp))) _ _ r2, hw, fun p hp => List.mem_cons_of_mem _ (List.mem_append.2 (.inl hp)), List.mem_cons_self⟩, fun p hp => List.mem_cons_of_mem _ (List.mem_append.2 (.inr (r3 p (i6 p hp))))⟩, rfl⟩
   ·rw [if_pos (by simpa using h0)]
    rw [if_neg h0] at i1
    exact ⟨g4, ⟨60, _, i1, rfl⟩, rfl⟩
 ·rintro x (⟨v, k2, o2, ts2, B2, ⟨⟨l, a, h1, h2, h3⟩, rfl⟩, rfl⟩ | ⟨v, k2, o2, ts2, B2, ⟨⟨c, p, he, rfl⟩, rfl⟩, rfl⟩)
  ·exact .inl ⟨_, l, a, k2, o2, B2, ⟨h1, h2, h3⟩, rfl⟩
  ·exact .inr ⟨c, p, k2, o2, B2, he, rfl⟩
end
end Go.Proofs.YtifajndacnfcbaaDoor
namespace Go.Proofs.YtifajndacnfcbaaDoor
open Go Go.RowKit
section ahead
variable {s t : List UInt8}
end ahead
section behind
variable {p t : List UInt8}
end behind
theorem avi {t : List UInt8} {a : Int} {e : Int × Int} (h : ab8 t a = .error e) : e.1 ≠ 0 := by
 unfold ab8 at h
 split at h
 ·split at h
  ·simp only [Except.error.injEq] at h; subst h; simp
  ·cases h
 ·split at h
  ·unfold y5 at h
   split at h
   ·cases h
   ·rename_i e' he
    simp only [Except.error.injEq] at h
    subst h
    exact afp (e := e'.1) (p := e'.2) he
  ·split at h
   ·unfold aa6 at h
    split at h
    ·cases h
    ·rename_i e' he
     simp only [Except.error.injEq] at h
     subst h
     exact ahi (e := e'.1) (p := e'.2) he
   ·split at h
    ·cases h
    ·split at h
     ·cases h
     ·simp only [Except.error.injEq] at h; subst h; simp
theorem amg {t : List UInt8} : ∀ {n : Nat} {l : List Tok} {a : Int} {e : Int × Int}, 0 ≤ a → a ≤ t.length → (t.length - a).toNat < n → aa3 t n l a = .error e → e.1 ≠ 0
 | 0, _, _, _, _, _, h, _ => by omega
 | n + 1, l, a, e, h0, h1, hn, h => by
  rw [aa3] at h
  split at h
  ·rename_i ha
   split at h
   ·rename_i k q ho
    have hq := afc ⟨h0, ha⟩ ho
    have hg := aa4 (t := t) (a := q) ⟨by omega, hq.2⟩
    exact amg (by omega) hg.2 (by omega) h
   ·rename_i e' ho
    simp only [Except.error.injEq] at h
    subst h
    exact avi ho
  ·cases h
theorem ak3 {t : List UInt8} (h1 : (b9 t).2.1 = 0) (h3 : t.length ≤ 4096) : aa3 t (t.length + 1) [] (aaj t 0) = .ok (b9 t).1 := by
 unfold b9 at h1 ⊢
 rw [if_neg (by omega)] at h1 ⊢
 cases hq : aa3 t (t.length + 1) [] (aaj t 0) with
 | ok l => rfl
 | error e =>
  rw [hq] at h1
  exact absurd h1 (amg (aa4 ⟨by omega, by omega⟩).1 (aa4 ⟨by omega, by omega⟩).2 (by have := (aa4 (t := t) (a := 0) ⟨by omega, by omega⟩).1; omega) hq)
end Go.Proofs.YtifajndacnfcbaaDoor
namespace Go.Proofs.YtifajndacnfcbaaDoor
open Go Go.RowKit
theorem ame {t : List UInt8} : ∀ {n : Nat} {l l' : List Tok} {a : Int}, 0 ≤ a → l.length ≤ a → a ≤ t.length → aa3 t n l a = .ok l' → l'.length ≤ t.length + 1
 | 0, _, _, _, _, _, _, h => by cases h
 | n + 1, l, l', a, h0, h1, h2, h => by
  rw [aa3] at h
  split at h
  ·rename_i ha
   split at h
   ·rename_i k q ho
    have hq := afc ⟨h0, ha⟩ ho
    have hg := aa4 (t := t) (a := q) ⟨by omega, hq.2⟩
    exact ame (by omega) (by simp; omega) hg.2 h
   ·cases h
  ·simp only [Except.ok.injEq] at h
   subst h
   simp; omega
theorem amb (t : List UInt8) : (b9 t).1.length ≤ 4097 := by
 unfold b9
 split
 ·simp
 ·rename_i h
  have hg0 := aa4 (t := t) (a := 0) ⟨by omega, by omega⟩
  split
  ·rename_i l hl
   have := ame (t := t) hg0.1 (by simp; exact hg0.1) hg0.2 hl
   show l.length ≤ _
   omega
  ·simp
theorem aw1 {t : List UInt8} {a : Int} (h : 0 ≤ a ∧ a < t.length) : ∃ c, cut t a (a + 1) = [c] := by
 unfold cut
 have h1 : (a + 1).toNat - a.toNat = 1 := by omega
 have h2 : a.toNat < t.length := by omega
 rw [h1, List.drop_eq_getElem_cons h2]
 exact ⟨_, rfl⟩
theorem ata {t : List UInt8} {a : Int} {k : Tok} {q : Int} (hb : 0 ≤ a ∧ a < t.length) (h : ab8 t a = .ok (k, q)) : k.1 ≠ 0 ∧ (k.1 = 4 → aeq k.2.2) := by
 unfold ab8 at h
 split at h
 ·split at h
  ·cases h
  ·simp only [Except.ok.injEq, Prod.mk.injEq] at h; rw [← h.1]; exact ⟨by show (1 : Int) ≠ 0; decide, fun g => absurd g (by show ¬ (1 : Int) = 4; decide)⟩
 ·split at h
  ·unfold y5 at h
   split at h
   ·simp only [Except.ok.injEq, Prod.mk.injEq] at h; rw [← h.1]; exact ⟨by show (2 : Int) ≠ 0; decide, fun g => absurd g (by show ¬ (2 : Int) = 4; decide)⟩
   ·cases h
  ·split at h
   ·unfold aa6 at h
    split at h
    ·simp only [Except.ok.injEq, Prod.mk.injEq] at h; rw [← h.1]; exact ⟨by show (3 : Int) ≠ 0; decide, fun g => absurd g (by show ¬ (3 : Int) = 4; decide)⟩
    ·cases h
   ·split at h
    ·simp only [Except.ok.injEq, Prod.mk.injEq] at h; rw [← h.1]; exact ⟨by show (4 : Int) ≠ 0; decide, fun _ => .inr (aw1 hb)⟩
    ·split at h
     ·simp only [Except.ok.injEq, Prod.mk.injEq] at h; rw [← h.1]; exact ⟨by show (4 : Int) ≠ 0; decide, fun _ => .inl rfl⟩
     ·cases h
theorem amz {t : List UInt8} : ∀ {n : Nat} {l l' : List Tok} {a : Int}, 0 ≤ a → a ≤ t.length → aa3 t n l a = .ok l' → (∀ k ∈ l, k.1 ≠ 0 ∧ (k.1 = 4 → aeq k.2.2)) →
  ∃ init, l' = init ++ [((0, (t.length : Int), []) : Tok)] ∧ ∀ k ∈ init, k.1 ≠ 0 ∧ (k.1 = 4 → aeq k.2.2)
 | 0, _, _, _, _, _, h, _ => by cases h
 | n + 1, l, l', a, h0, h1, h, hl => by
  rw [aa3] at h
  split at h
  ·rename_i ha
   split at h
   ·rename_i k q ho
    have hq := afc ⟨h0, ha⟩ ho
    have hg := aa4 (t := t) (a := q) ⟨by omega, hq.2⟩
    have hk := ata ⟨h0, ha⟩ ho
    exact amz (by omega) hg.2 h (fun x hx => by
     rcases List.mem_append.1 hx with hx | hx
     ·exact hl x hx
     ·rw [List.mem_singleton.1 hx]; exact hk)
   ·cases h
  ·simp only [Except.ok.injEq] at h
   exact ⟨l, h.symm, hl⟩
theorem as7 {t : List UInt8} (h : (b9 t).2.1 = 0) (hl : t.length ≤ 4096) : ∃ init, (b9 t).1 = init ++ [((0, (t.length : Int), []) : Tok)] ∧ ∀ k ∈ init, k.1 ≠ 0 ∧ (k.1 = 4 → aeq k.2.2) := by
 have hg := aa4 (t := t) (a := 0) ⟨by omega, by omega⟩
 exact amz hg.1 hg.2 (ak3 h hl) (fun k hk => by cases hk)
theorem af8 {t : List UInt8} (h : (b9 t).2.1 = 0) : t.length ≤ 4096 := by
 rcases Nat.lt_or_ge 4096 t.length with g | g
 ·unfold b9 at h
  rw [if_pos g] at h
  cases h
 ·exact g
theorem apb {ts : List Tok} {k : Nat} (h : k < ts.length) : b4 ts k ∈ ts := by
 unfold b4
 rw [List.getD_eq_getElem?_getD, List.getElem?_eq_getElem h]
 exact List.getElem_mem h
theorem amq {t : List UInt8} (h : (b9 t).2.1 = 0) : POK (b9 t).1 0 0 := by
 have hs := af8 h
 obtain ⟨init, e1, e2⟩ := as7 h hs
 have hlen := amb t
 have hl : (b9 t).1.length = init.length + 1 := by rw [e1, List.length_append, List.length_singleton]
 refine ⟨by omega, ⟨by decide, by decide⟩, ⟨by omega, ?_⟩, fun k hk => ?_, by omega⟩
 ·rw [hl, e1]
  unfold b4
  rw [List.getD_eq_getElem?_getD, Nat.add_sub_cancel, List.getElem?_append_right (Nat.le_refl _), Nat.sub_self]
  rfl
 ·have hin := apb (ajj (by rw [hk]; decide))
  rw [e1] at hin
  rcases List.mem_append.1 hin with hin | hin
  ·rw [← e1] at hin; exact (e2 _ hin).2 hk
  ·rw [← e1] at hin
   rw [List.mem_singleton.1 hin] at hk
   cases hk
theorem aqg {t : List UInt8} (h : (b9 t).2.1 = 0) : (b9 t).2.2 = 0 := by
 have hs := af8 h
 have := ak3 h hs
 unfold b9
 rw [if_neg (by omega), this]
def Er (ts : List Tok) (x : Int × Int) : Prop := x = noF ∨ ((x.1 = 60 ∨ x.1 = 23) ∧ ∃ k, x.2 = (b4 ts k).2.1)
theorem Er.nz {ts : List Tok} {x : Int × Int} (h : Er ts x) : x.1 ≠ 0 := by
 rcases h with rfl | ⟨h | h, _⟩
 ·decide
 ·rw [h]; decide
 ·rw [h]; decide
structure ErrNZ (ts : List Tok) (f : Nat) : Prop where
 e : ∀ l q x, pE ts f l q = .error x → Er ts x
 l : ∀ l b q x, pL ts f l b q = .error x → Er ts x
 p : ∀ q x, pP ts f q = .error x → Er ts x
 s : ∀ b q x, pS ts f b q = .error x → Er ts x
 a : ∀ q x, pA ts f q = .error x → Er ts x
 c : ∀ q x, pC ts f q = .error x → Er ts x
 r : ∀ n b q x, pR ts f n b q = .error x → Er ts x
theorem ann {ts : List Tok} {q : PSx} {m : Bs} {e : Int × Int} (h : p6 ts q m = .error e) : Er ts e := by
 unfold p6 at h
 split at h
 ·cases h
 ·cases h; exact .inr ⟨.inl rfl, _, rfl⟩
theorem ak4 {ts : List Tok} {q : PSx} {m : Bs} {e : Int × Int} (h : s5 ts q m = .error e) : Er ts e := by
 unfold s5 at h
 split at h
 ·cases h
 ·cases h; exact .inr ⟨.inl rfl, _, rfl⟩
theorem akw {ts : List Tok} {q : PSx} {m : Bs} {e : Int × Int} (h : n8 ts q m = .error e) : Er ts e := by
 unfold n8 at h
 split at h
 ·split at h
  ·cases h; exact .inr ⟨.inr rfl, _, rfl⟩
  ·cases h
 ·cases h; exact .inr ⟨.inl rfl, _, rfl⟩
theorem ao5 (ts : List Tok) : ∀ f, ErrNZ ts f := by
 intro f
 induction f with
 | zero =>
  refine ⟨?_, ?_, ?_, ?_, ?_, ?_, ?_⟩ <;> intros <;> rename_i h <;> first | (rw [pE] at h; cases h; exact .inl rfl) | (rw [pL] at h; cases h; exact .inl rfl) | (rw [pP] at h; cases h; exact .inl rfl) | (rw [pS] at h; cases h; exact .inl rfl) | (rw [pA] at h; cases h; exact .inl rfl) | (rw [pC] at h; cases h; exact .inl rfl) | (rw [pR] at h; cases h; exact .inl rfl)
 | succ f ih =>
  refine ⟨fun l q x h => ?_, fun l b q x h => ?_, fun q x h => ?_, fun b q x h => ?_, fun q x h => ?_, fun q x h => ?_, fun n b q x h => ?_⟩
  ·rw [pE] at h
   split at h
   ·exact ih.p _ _ h
   ·split at h
    ·rename_i h2; cases h; exact ih.e _ _ _ h2
    ·exact ih.l _ _ _ _ h
  ·rw [pL] at h
   split at h
   ·split at h
    ·rename_i h2; cases h; exact ih.e _ _ _ h2
    ·exact ih.l _ _ _ _ h
   ·cases h
  ·rw [pP] at h
   split at h
   ·rename_i h2; cases h; exact ih.a _ _ h2
   ·exact ih.s _ _ _ h
  ·rw [pS] at h
   split at h
   ·exact ih.s _ _ _ h
   ·cases h
  ·rw [pA] at h
   split at h
   ·cases h
   split at h
   ·cases h
   split at h
   ·exact ih.c _ _ h
   split at h
   ·cases h
   split at h
   ·split at h
    ·rename_i h2; cases h; exact akw h2
    ·split at h
     ·rename_i h2; cases h; exact ih.e _ _ _ h2
     ·split at h
      ·rename_i h2; cases h; exact ak4 h2
      ·cases h
   split at h
   ·split at h
    ·rename_i h2; cases h; exact akw h2
    ·split at h
     ·rename_i h2; cases h; exact ih.e _ _ _ h2
     ·split at h
      ·rename_i h2; cases h; exact ak4 h2
      ·cases h
   ·cases h; exact .inr ⟨.inl rfl, _, rfl⟩
  ·rw [pC] at h
   split at h
   ·rename_i h2; cases h; exact akw h2
   ·split at h
    ·rename_i h2; cases h; exact ih.r _ _ _ _ h2
    ·split at h
     ·rename_i h2; cases h; exact ak4 h2
     ·cases h
  ·rw [pR] at h
   split at h
   ·cases h
   ·split at h
    ·rename_i h2
     cases h
     split at h2
     ·exact ann h2
     ·cases h2
    ·split at h
     ·rename_i h2; cases h; exact ih.e _ _ _ h2
     ·exact ih.r _ _ _ _ h
theorem axc {ts : List Tok} : ∀ {f : Nat} {l : List t8} {q : PSx} {x : Int × Int}, pD ts (BIG ts) f l q = .error x → Er ts x
 | 0, _, _, _, h => by rw [pD] at h; cases h; exact .inl rfl
 | f + 1, l, q, x, h => by
  rw [ar2] at h
  split at h
  ·split at h
   ·cases h; exact .inr ⟨.inl rfl, _, rfl⟩
   ·split at h
    ·rename_i h2; cases h; exact ann h2
    ·split at h
     ·rename_i h2; cases h; exact (ao5 ts _).e _ _ _ h2
     ·split at h
      ·rename_i h2; cases h; exact ann h2
      ·exact axc h
  ·cases h
theorem asy {ts : List Tok} {x : Int × Int} (h : z8 ts = .error x) : Er ts x := by
 rw [ae0] at h
 unfold apg at h
 split at h
 ·rename_i h2; cases h; exact axc h2
 ·split at h
  ·rename_i h2; cases h; exact (ao5 ts _).e _ _ _ h2
  ·split at h
   ·cases h
   ·cases h; exact .inr ⟨.inl rfl, _, rfl⟩
theorem ak6 {ts : List Tok} {c p : Int} (h : z8 ts = .error (c, p)) : c ≠ 0 := (asy h).nz
def u0 (t : List UInt8) : Except (Int × Int) (List t8 × Ex) := if (b9 t).2.1 = 0 then z8 (b9 t).1 else .error ((b9 t).2.1, (b9 t).2.2)
end Go.Proofs.YtifajndacnfcbaaDoor
set_option maxRecDepth 100000
namespace Go.Proofs.YtifajndacnfcbaaDoor
open Go Go.RowKit
theorem ahh : o8 Tryd.prog 23 1 = true := by kernel_rfl
theorem aqw : ab0 Tryd.prog 23 = some [Value.pointer none] := by kernel_rfl
theorem ate : k9 Tryd.prog 15 = true := by kernel_rfl
theorem ae5 : aal Tryd.prog 24 = true := by kernel_rfl
theorem ad5 : Program.stoodInHeld Tryd.prog 26 = false := by kernel_rfl
theorem agd : Program.eqGuardType Tryd.prog Tryd.prog.depth 26 = false := by kernel_rfl
theorem ahm : aal Tryd.prog 23 = true := by kernel_rfl
theorem ask : k9 Tryd.prog 17 = true := by kernel_rfl
theorem am1 : k9 Tryd.prog 16 = true := by kernel_rfl
def af5 (c : Value) (c_1'_0 : Int) (c_1'_1 : Int) (c_1'_2 : List UInt8) (K : Value → Int → Int → (List UInt8) → Prop) : Prop :=
 K c c_1'_0 c_1'_1 c_1'_2
theorem an8 (b : Nat) (b_1' : Nat) (c : Value) (c_1'_0 : Int) (c_1'_1 : Int) (c_1'_2 : List UInt8) (K : Value → Int → Int → (List UInt8) → Prop) (h : af5 c c_1'_0 c_1'_1 c_1'_2 K) :
  abf Tryd.prog 16 [zP b, zP b_1'] (.returning) (.returning) [] [HA.blk b (.cells [c].toArray 23 (0, 0)), HA.blk b_1' (.cells [zI c_1'_0, zI c_1'_1, st c_1'_2].toArray 26 (0, 0))] (fun o => (∃ (d : Value) (d_1'_0 : Int) (d_1'_1 : Int) (d_1'_2 : List UInt8), K d d_1'_0 d_1'_1 d_1'_2 ∧ o = .ret (Value.tuple #[]) [HA.blk b (.cells [d].toArray 23 (0, 0)), HA.blk b_1' (.cells [zI d_1'_0, zI d_1'_1, st d_1'_2].toArray 26 (0, 0))]) ∨ (False)) := by
 unfold af5 at h
 refine amh (n := 8) (L0 := [(0, zP b), (1, zP b_1')]) (v := Value.nilIface) Tryd.func16 rfl rfl rfl rfl rfl rfl (.inl ⟨rfl, rfl, rfl⟩) (fun w0 M Q hE => ?_)
 refine a7 (fun _ hK => ?_)
 refine a6 ?_
 refine wm ?_
 refine wv (OV.neqNil0 rfl Tryd.underlying20) ?_
 refine WL.nil ?_
 refine kg (hK [(0, zP b), (1, zP b_1'), (2, Value.nilIface), (5, zB false)] _ ?_)
 refine d5 rfl ?_
 refine b6 ?_
 exact hE.norm [0, 1] rfl rfl (.inl ⟨_, _, _, _, h, rfl⟩) (d7.none rfl)
def af1 (_ : Value) (_ : Int) (_ : Int) (_ : List UInt8) (fc : Int) (fa : Int) (ft : List UInt8) (K : Value → Int → Int → (List UInt8) → Prop) : Prop :=
 K (Value.pointer none) fc fa ft
theorem aob (b : Nat) (b_1' : Nat) (c : Value) (c_1'_0 : Int) (c_1'_1 : Int) (c_1'_2 : List UInt8) (fc : Int) (fa : Int) (ft : List UInt8) (K : Value → Int → Int → (List UInt8) → Prop) (h : af1 c c_1'_0 c_1'_1 c_1'_2 fc fa ft K) :
  abf Tryd.prog 16 [zP b, zP b_1'] (.panicking [{ v := Value.iface 26 (Value.agg [zI fc, zI fa, st ft].toArray), recovered := false }]) (.panicking [{ v := Value.iface 26 (Value.agg [zI fc, zI fa, st ft].toArray), recovered := true }]) [] [HA.blk b (.cells [c].toArray 23 (0, 0)), HA.blk b_1' (.cells [zI c_1'_0, zI c_1'_1, st c_1'_2].toArray 26 (0, 0))] (fun o => (∃ (d : Value) (d_1'_0 : Int) (d_1'_1 : Int) (d_1'_2 : List UInt8), K d d_1'_0 d_1'_1 d_1'_2 ∧ o = .ret (Value.tuple #[]) [HA.blk b (.cells [d].toArray 23 (0, 0)), HA.blk b_1' (.cells [zI d_1'_0, zI d_1'_1, st d_1'_2].toArray 26 (0, 0))]) ∨ (False)) := by
 unfold af1 at h
 refine amh (n := 8) (L0 := [(0, zP b), (1, zP b_1')]) (v := Value.iface 26 (Value.agg [zI fc, zI fa, st ft].toArray)) Tryd.func16 rfl rfl rfl rfl rfl rfl (.inr ⟨_, rfl, rfl, rfl⟩) (fun w0 M Q hE => ?_)
 refine a7 (fun _ hK => ?_)
 refine a6 ?_
 refine wm ?_
 refine wv (OV.neqNil rfl rfl Tryd.underlying20) ?_
 refine WL.nil ?_
 refine kg (hK [(0, zP b), (1, zP b_1'), (2, Value.iface 26 (Value.agg [zI fc, zI fa, st ft].toArray)), (5, zB true)] _ ?_)
 refine f7 rfl ?_
 refine afx 2 [] [] rfl rfl f0 (by kernel_rfl) (fun T hT => ?_)
 refine TW.val (OV.move rfl) rfl rfl rfl ?_
 refine TW.val (OV.assertIs rfl Tryd.underlying26 rfl) rfl rfl rfl ?_
 refine TW.nil (hT _ ?_)
 refine WLK.op [] rfl rfl (OpK.store (vs := [Value.pointer none]) (cs' := [Value.pointer none]) 0 rfl rfl rfl rfl ahh (Nat.le_of_ble_eq_true rfl) rfl rfl) rfl ?_
 refine WLK.op [] rfl rfl (OpK.storeW (vs := [zI fc, zI fa, st ft]) 1 rfl rfl rfl rfl rfl w8 rfl rfl) rfl ?_
 refine WLK.nil ?_
 exact hE.norm [0, 1] rfl rfl (.inl ⟨_, _, _, _, h, rfl⟩) (d7.none rfl)
abbrev aid (b b1 : Nat) (c : Value) (x y : Int) (z : List UInt8) : List HA :=
 [.blk b (.cells [c].toArray 23 (0, 0)), .blk b1 (.cells [zI x, zI y, st z].toArray 26 (0, 0))]
theorem aoq (b b1 : Nat) (c : Value) (x y : Int) (z : List UInt8) : abf Tryd.prog 16 [.pointer (some ⟨b, 0, none⟩), .pointer (some ⟨b1, 0, none⟩)] .returning .returning [] (aid b b1 c x y z) (Ret (.tuple #[]) (aid b b1 c x y z)) := by
 refine (an8 b b1 c x y z (fun c' x' y' z' => c' = c ∧ x' = x ∧ y' = y ∧ z' = z) ?_).weak ?_
 ·unfold af5; exact ⟨rfl, rfl, rfl, rfl⟩
 ·rintro o (⟨c', x', y', z', ⟨rfl, rfl, rfl, rfl⟩, rfl⟩ | h)
  ·rfl
  ·exact h.elim
theorem aof (b b1 : Nat) (c : Value) (x y : Int) (z : List UInt8) (fc fa : Int) (ft : List UInt8) : abf Tryd.prog 16 [.pointer (some ⟨b, 0, none⟩), .pointer (some ⟨b1, 0, none⟩)]
  (.panicking [{ v := .iface 26 (.agg [.int .i64 fc, .int .i64 fa, st ft].toArray), recovered := false }]) (.panicking [{ v := .iface 26 (.agg [.int .i64 fc, .int .i64 fa, st ft].toArray), recovered := true }]) [] (aid b b1 c x y z) (Ret (.tuple #[]) (aid b b1 (.pointer none) fc fa ft)) := by
 refine (aob b b1 c x y z fc fa ft (fun c' x' y' z' => c' = .pointer none ∧ x' = fc ∧ y' = fa ∧ z' = ft) ?_).weak ?_
 ·unfold af1; exact ⟨rfl, rfl, rfl, rfl⟩
 ·rintro o (⟨c', x', y', z', ⟨rfl, rfl, rfl, rfl⟩, rfl⟩ | h)
  ·rfl
  ·exact h.elim
def ai7 (text : List UInt8) (B : List (Nat × Obj)) (K : Value → Int → Int → (List UInt8) → (List (Nat × Obj)) → Prop) : Prop :=
 (
  (if (!abi [decide ((b9 text).2.1 = 0), decide ((b9 text).2.2 = 0), decide (([] : List UInt8) = [])]) = true then
   K (Value.pointer none) ((b9 text).2.1) ((b9 text).2.2) [] B
  else
   (POK ((b9 text).1) 0 0) ∧
   (∀ (v : Value) (l : List t8) (e : Ex) (_k : Nat) (_op : Int) (B_1' : List (Nat × Obj)), (z8 ((b9 text).1) = .ok (l, e) ∧ aru B_1' v l e ∧ ∀ p ∈ B, p ∈ B_1') →
    (v.oneCell' = true) ∧
    K v 0 0 [] B_1') ∧
   (∀ (ec : Int) (ep : Int) (_k_1' : Nat) (_op_1' : Int) (B_2' : List (Nat × Obj)), z8 ((b9 text).1) = .error (ec, ep) →
    K (Value.pointer none) ec ep [] B_2')))
theorem ast (te : TypeId) (fre : Nat × Nat) (text : List UInt8) (B : List (Nat × Obj)) (K : Value → Int → Int → (List UInt8) → (List (Nat × Obj)) → Prop) (h : ai7 text B K) :
  d9 Tryd.prog 9 [st text] [(0, .cells [st ([124] : List UInt8), st ([38, 45] : List UInt8), st ([62, 62] : List UInt8), st ([126] : List UInt8), st ([46] : List UInt8)].toArray te fre)] [pool B] (fun o => (∃ (v_1' : Value) (v_2'_0 : Int) (v_2'_1 : Int) (v_2'_2 : List UInt8) (D : List (Nat × Obj)), K v_1' v_2'_0 v_2'_1 v_2'_2 D ∧ o = .ret (Value.tuple #[v_1', Value.agg [zI v_2'_0, zI v_2'_1, st v_2'_2].toArray]) [pool D]) ∨ (False)) := by
 unfold ai7 at h
 refine v7 (n := 22) (L0 := [(0, st text)]) Tryd.func9 rfl rfl rfl rfl (fun w0 M Q hE => ?_)
 refine a7 (fun _ hK => ?_)
 refine a6 ?_
 refine WL.make (MV.alloc aqw) rfl rfl rfl (fun b => ?_)
 refine WL.make (MV.alloc ad1) rfl rfl rfl (fun b_1' => ?_)
 refine WL.nil ?_
 refine kg (hK [(0, st text), (2, zP b), (3, zP b_1')] _ ?_)
 refine a7 (fun _ hK_1' => ?_)
 refine a6 ?_
 refine wm ?_
 refine WL.callS ate rfl (atv text) rfl trivial rfl rfl (fun r H' hS => ?_) (fun c H' hS => ?_)
 ·obtain ⟨w, ho⟩ := hS
  cases ho
  refine wm ?_
  refine wv (OV.extract 0 rfl rfl) ?_
  refine wv (OV.extract 1 rfl rfl) ?_
  refine wA ?_
  refine WL.storeW (vs := [zI ((b9 text).2.1), zI ((b9 text).2.2), st []]) 1 rfl rfl rfl rfl rfl w8 rfl rfl rfl ?_
  refine WL.nil ?_
  refine kg (hK_1' [(2, zP b), (3, zP b_1'), (4, w)] _ ?_)
  refine a7 (fun _ hK_2' => ?_)
  refine a7 (fun _ hK_3' => ?_)
  refine a6 ?_
  refine wv (OV.loadR rfl (At.own 1 rfl) x0) ?_
  refine wv (OV.build rfl (cs := [zI 0, zI 0, st []]) rfl) ?_
  refine wv (OV.neqF (rs := [decide ((b9 text).2.1 = 0), decide ((b9 text).2.2 = 0), decide (([] : List UInt8) = [])]) rfl rfl Tryd.underlying26 ad5 agd ⟨rfl, ae5, ⟨_, _, rfl, rfl, aan.int Tryd.underlying24⟩, ⟨rfl, a8, ⟨_, _, rfl, rfl, aan.int Tryd.underlying3⟩, ⟨rfl, c7, ⟨_, _, rfl, rfl, aan.str Tryd.underlying9⟩, trivial⟩⟩⟩) ?_
  refine WL.nil ?_
  refine kg (hK_3' [(2, zP b), (3, zP b_1'), (4, w), (13, zB (!abi [decide ((b9 text).2.1 = 0), decide ((b9 text).2.2 = 0), decide (([] : List UInt8) = [])]))] _ ?_)
  refine b5 (b := !abi [decide ((b9 text).2.1 = 0), decide ((b9 text).2.2 = 0), decide (([] : List UInt8) = [])]) rfl (fun hb => ?_) (fun hb => ?_)
  ·replace h := e8 h hb
   refine a7 (fun _ hK_4' => ?_)
   refine afx 1 [0, 1, 2, 3] [HA.row w 102 3 ((b9 text).1).length (((b9 text).1).flatMap e6), HA.blk b_1' (.cells [zI ((b9 text).2.1), zI ((b9 text).2.2), st []].toArray 26 (0, 0)), HA.blk b (.cells [Value.pointer none].toArray 23 (0, 0)), pool B] rfl rfl f0 (by kernel_rfl) (fun T hT => ?_)
   refine TW.val (OV.loadR rfl (At.own 1 rfl) x0) rfl rfl rfl ?_
   refine TW.nil (hT _ ?_)
   refine WLK.op [0, 1, 2, 3] rfl rfl (OpK.store (vs := [Value.pointer none]) (cs' := [Value.pointer none]) 2 rfl rfl rfl rfl ahh (Nat.le_of_ble_eq_true rfl) rfl rfl) rfl ?_
   refine WLK.op [0, 1, 2, 3] rfl rfl (OpK.storeW (vs := [zI ((b9 text).2.1), zI ((b9 text).2.2), st []]) 1 rfl rfl rfl rfl rfl w8 rfl rfl) rfl ?_
   refine WLK.nil ?_
   refine kg (hK_4' [(2, zP b), (3, zP b_1')] _ ?_)
   refine b8 ?_
   exact hE.ret (ad3 [3] rfl rfl (.inl ⟨_, _, _, _, _, h, rfl⟩) (d7.of2 rfl (RV.cell rfl (At.own 2 rfl) rfl ahm) (RV.row rfl (At.own 1 rfl) x0)))
  ·replace h := e9 h hb
   refine b6 ?_
   refine kg (hK_2' [(2, zP b), (3, zP b_1'), (4, w)] _ ?_)
   refine an7 (fun K0_5' hK_5' => ?_)
   refine a6 ?_
   refine wv (OV.makeFunc rfl) ?_
   refine WL.defer rfl rfl ?_
   refine WL.nil ?_
   refine kg (hK_5' _ [(2, zP b), (3, zP b_1'), (4, w)] _ ?_)
   refine a7 (fun _ hK_6' => ?_)
   refine a6 ?_
   refine wm ?_
   refine WL.rowOne 0 rfl (fun hone0 => ?_)
   refine wv (OV.buildC (qs := [(0, [w])]) (cs := [w, zI 0]) rfl ⟨rfl, aaf hone0, trivial⟩ rfl) ?_
   refine WL.make (MV.box (cs := [w, zI 0]) rfl rfl) rfl rfl rfl (fun b_2' => ?_)
   refine wA ?_
   refine WL.nil ?_
   refine kg (hK_6' [(2, zP b), (3, zP b_1'), (5, zP b_2')] _ ?_)
   refine a7 (fun _ hK_7' => ?_)
   refine a6 ?_
   refine wm ?_
   obtain ⟨o, h⟩ := h
   refine WL.pick (H' := [HA.blk b_2' (.cells [w, zI 0].toArray 55 (0, 0)), HA.row w 102 3 ((b9 text).1).length (((b9 text).1).flatMap e6), pool B, HA.blk b_1' (.cells [zI ((b9 text).2.1), zI ((b9 text).2.2), st []].toArray 26 (0, 0)), HA.blk b (.cells [Value.pointer none].toArray 23 (0, 0))]) [0, 1, 4, 2, 3] rfl rfl ?_
   refine WL.callS ask rfl (am3 te fre b_2' w ((b9 text).1) B o) rfl ⟨.inr (List.mem_of_getElem? (i := 0) rfl), trivial⟩ rfl rfl (fun v H' hS => ?_) (fun c H' hS => ?_)
   ·rcases hS with ⟨_, l, e, k, op, B_1', hc, ho⟩ | ⟨ec, ep, k_1', op_1', B_2', hc, ho⟩ <;> cases ho
    replace h := h.1 v l e k op B_1' hc
    refine wv (OV.build rfl (cs := [zI 0, zI 0, st []]) rfl) ?_
    obtain ⟨o_1', h⟩ := h
    refine WL.store (vs := [v]) (cs' := [v]) 4 rfl rfl rfl (aaf o_1') ahh (Nat.le_of_ble_eq_true rfl) (d4 o_1' o6) rfl rfl ?_
    refine WL.storeW (vs := [zI 0, zI 0, st []]) 3 rfl rfl rfl rfl rfl w8 rfl rfl rfl ?_
    refine WL.nil ?_
    refine kg (hK_7' [(2, zP b), (3, zP b_1')] _ ?_)
    refine b8 ?_
    exact hE.ret (ark (A := [HA.blk b (.cells [v].toArray 23 (0, 0)), HA.blk b_1' (.cells [zI 0, zI 0, st []].toArray 26 (0, 0))]) (A' := [HA.blk b (.cells [v].toArray 23 (0, 0)), HA.blk b_1' (.cells [zI 0, zI 0, st []].toArray 26 (0, 0))]) (Rest := [HA.blk b_2' (.cells [l5 w 3 k, zI op].toArray 55 (0, 0)), HA.row w 102 3 ((b9 text).1).length (((b9 text).1).flatMap e6), pool B_1']) [4, 3, 0, 1, 2] rfl rfl am1 (aoq b b_1' v 0 0 []) (by intro hx; cases hx) rfl trivial [4] rfl rfl (.inl ⟨_, _, _, _, _, h, rfl⟩) (d7.of2 rfl (RV.cell rfl (At.own 0 rfl) rfl ahm) (RV.row rfl (At.own 1 rfl) x0)))
   ·rcases hS with ⟨_, l, e, k, op, B_1', hc, ho⟩ | ⟨ec, ep, k_1', op_1', B_2', hc, ho⟩ <;> cases ho
    replace h := h.2 ec ep k_1' op_1' B_2' hc
    exact hE.pan (ark (A := [HA.blk b (.cells [Value.pointer none].toArray 23 (0, 0)), HA.blk b_1' (.cells [zI ((b9 text).2.1), zI ((b9 text).2.2), st []].toArray 26 (0, 0))]) (A' := [HA.blk b (.cells [Value.pointer none].toArray 23 (0, 0)), HA.blk b_1' (.cells [zI ec, zI ep, st []].toArray 26 (0, 0))]) (Rest := [HA.blk b_2' (.cells [l5 w 3 k_1', zI op_1'].toArray 55 (0, 0)), HA.row w 102 3 ((b9 text).1).length (((b9 text).1).flatMap e6), pool B_2']) [4, 3, 0, 1, 2] rfl rfl am1 (aof b b_1' (Value.pointer none) ((b9 text).2.1) ((b9 text).2.2) [] ec ep []) (by intro hx; cases hx) rfl trivial [4] rfl rfl (.inl ⟨_, _, _, _, _, h, rfl⟩) (d7.of2 rfl (RV.cell rfl (At.own 0 rfl) rfl ahm) (RV.row rfl (At.own 1 rfl) x0)))
 ·obtain ⟨w, ho⟩ := hS
  cases ho
def axq (t : List UInt8) (B : List (Nat × Obj)) (v : Value) (c p : Int) (B2 : List (Nat × Obj)) : Prop :=
 (∃ l a, u0 t = .ok (l, a) ∧ aru B2 v l a ∧ c = 0 ∧ p = 0 ∧ ∀ x ∈ B, x ∈ B2) ∨ (u0 t = .error (c, p) ∧ c ≠ 0 ∧ v = .pointer none)
theorem ajd (te : TypeId) (fre : Nat × Nat) (t : List UInt8) (B : List (Nat × Obj)) : d9 Tryd.prog 9 [st t] (ad4 te fre) [pool B]
  (fun o => (∃ l a b w m ds B1 B2, (u0 t = .ok (l, a) ∧ ag0 B2 b w m ds B1 l a ∧ ∀ x ∈ B, x ∈ B2) ∧ o = .ret (.tuple #[.pointer (some ⟨b, 0, none⟩), .agg [zI 0, zI 0, st []].toArray]) [pool B2]) ∨
   (∃ c p B2, (u0 t = .error (c, p) ∧ c ≠ 0) ∧ o = .ret (.tuple #[.pointer none, .agg [zI c, zI p, st []].toArray]) [pool B2])) := by
 refine (ast te fre t B (fun v c p x B2 => axq t B v c p B2 ∧ x = []) ?_).weak ?_
 ·unfold ai7
  by_cases h0 : (b9 t).2.1 = 0
  ·have h1 : (b9 t).2.2 = 0 := aqg h0
   rw [if_neg (by rw [h0, h1]; decide)]
   have hp : u0 t = z8 (b9 t).1 := by unfold u0; rw [if_pos h0]
   refine ⟨amq h0, fun v l e _ _ B2 hr => ⟨?_, .inl ⟨l, e, by rw [hp]; exact hr.1, hr.2.1, rfl, rfl, hr.2.2⟩, rfl⟩, fun c p _ _ B2 hr => ⟨.inr ⟨by rw [hp]; exact hr, ak6 hr, rfl⟩, rfl⟩⟩
   obtain ⟨b, w, m, ds, B1, rfl, _⟩ := hr.2.1
   rfl
  ·rw [if_pos (by
    show (!(decide ((b9 t).2.1 = 0) && _)) = true
    rw [decide_eq_false h0]; rfl)]
   exact ⟨.inr ⟨by unfold u0; rw [if_neg h0], h0, rfl⟩, rfl⟩
 ·rintro o (⟨v, c, p, x, B2, ⟨⟨l, a, h1, ⟨b, w, m, ds, B1, rfl, h2⟩, rfl, rfl, h3⟩ | ⟨h1, h2, rfl⟩, rfl⟩, rfl⟩ | h)
  ·exact .inl ⟨l, a, b, w, m, ds, B1, B2, ⟨h1, h2, h3⟩, rfl⟩
  ·exact .inr ⟨c, p, B2, ⟨h1, h2⟩, rfl⟩
  ·exact h.elim
end Go.Proofs.YtifajndacnfcbaaDoor
set_option linter.unusedVariables false
namespace Go.Proofs.YtifajndacnfcbaaDoor
open Go Go.Proofs Go.Shelf Go.RowKit
variable {P : Program} {ρ : Ren} {TB : TypeId}
theorem aqs {w w' : World} {o : Option Nat} (h : w.grownBy w' o) : w.grownBy w'.drew o := ⟨h.os, h.tape, h.output, h.size, h.block⟩
theorem ank (w : World) (g n : Nat) : w.grownBy (w.drew.freeze ⟨g, 0, none⟩ n) (some g) := by
 unfold World.freeze
 split
 ·exact ⟨rfl, rfl, rfl, Nat.le_refl _, fun _ _ _ => rfl⟩
 ·exact ⟨rfl, rfl, rfl, (by simp only [Array.size_modify]; exact Nat.le_refl _), fun k _ hk => by
   simp only [Array.getElem?_modify]
   rw [if_neg (fun e => hk (by rw [e]))]; rfl⟩
set_option maxHeartbeats 2000000 in
set_option maxRecDepth 100000 in
theorem apl (L : Lays.n169 P ρ) (X : Builder.Extra P ρ) (b : Nat) (l : List UInt8) (p v : Value) (w : World) (hbk : w.heap[b]? = some (.cells #[p, v] TB (0, 0))) (hown : w.ownsRow 0 (ρ.t 5) 1 v l.length (Lib.byteCells l)) (h0 : l ≠ []) :
  Calls P (ρ.f 169) #[.pointer (some ⟨b, 0, none⟩)] w fun e w' => e = .returned (.string ⟨l.toArray⟩) ∧ ∃ o, w.grownBy w' o ∧ ∀ k, o = some k → v.ownBlock = some k := by
 have hl0 : l.length ≠ 0 := by simpa using h0
 obtain ⟨g, cap, cur, rfl, hbg, hg, hnc, hcm, hcs, htake⟩ : ∃ g cap cur, v = .slice (some ⟨g, 0, none⟩) l.length cap ∧ 0 ≤ g ∧ w.heap[g]? = some (.cells cur (ρ.t 5) (0, 0)) ∧ l.length ≤ cap ∧ cap ≤ maxLen ∧ cur.size = cap * 1 ∧ cur.toList.take (l.length * 1) = Lib.byteCells l := by
  rcases hown.2 with ⟨_, hz⟩ | ⟨g, cap, cur, hv, r⟩
  ·exact absurd hz hl0
  ·exact ⟨g, cap, cur, hv, r⟩
 have c1 : w.drew.cell? ⟨b, 1, none⟩ = some (.slice (some ⟨g, 0, none⟩) l.length cap) := by
  have : w.drew.heap[b]? = some (.cells #[p, .slice (some ⟨g, 0, none⟩) l.length cap] TB (0, 0)) := hbk
  rw [Lib.cell_of_heap this]; rfl
 have hSD : (Builtin.unsafeSliceData_ #[(ρ.t 37)] (ρ.t 127) #[.slice (some ⟨g, 0, none⟩) l.length cap]).run P w.drew = .ok (.pointer (some ⟨g, 0, none⟩)) w.drew :=
  Lib.run_unsafeSliceData_row _ _ _ _ _ _ (by omega)
 have hUS : (Builtin.unsafeString_ #[(ρ.t 127), (ρ.t 3)] (ρ.t 9) #[.pointer (some ⟨g, 0, none⟩), .int .i64 l.length]).run P w.drew = .ok (.string ⟨l.toArray⟩) (w.drew.freeze ⟨g, 0, none⟩ l.length) := by
  refine Lib.run_unsafeString_row w.drew (ρ.t 127) (ρ.t 3) (ρ.t 9) (ρ.t 5) L.t127 X.cellsByte g cur.size (by have hg' : w.drew.heap[g]? = some (.cells cur (ρ.t 5) (0, 0)) := hg; simp [World.shape?, hg']) l h0 (by omega) (by unfold maxLen at hcm; omega) ?_
  intro j x hx
  have := hown.cells (g := g) rfl j (.int .u8 x.toNat) (by simp [Lib.byteCells, hx])
  exact this
 have mixed := L.mixed
 have t72 := L.t72; have a72 := L.a72; have z72 := L.z72; have v72 := L.v72; have u72 := run_underlying L.t72
 have t70 := L.t70; have a70 := L.a70; have z70 := L.z70; have v70 := L.v70; have u70 := run_underlying L.t70
 have t37 := L.t37; have a37 := L.a37; have z37 := L.z37; have v37 := L.v37; have u37 := run_underlying L.t37
 have t127 := L.t127; have a127 := L.a127; have z127 := L.z127; have v127 := L.v127; have u127 := run_underlying L.t127
 have t3 := L.t3; have a3 := L.a3; have z3 := L.z3; have v3 := L.v3; have u3 := run_underlying L.t3
 have t9 := L.t9; have a9 := L.a9; have z9 := L.z9; have v9 := L.v9; have u9 := run_underlying L.t9
 have t5 := X.t5; have a5 := X.a5; have z5 := X.z5; have v5 := X.v5; have u5 := run_underlying X.t5
 go_enter L.f169, Body.n169_ntmps ρ
 go_wp2
 go_region_o
 all_goals (go_wp2; go_ret; exact ⟨rfl, _, ank w g _, fun k hk => by cases hk; rfl⟩)
set_option maxHeartbeats 2000000 in
set_option maxRecDepth 100000 in
theorem aku (L : Lays.n169 P ρ) (X : Builder.Extra P ρ) (b : Nat) (p : Value) (w : World) (hbk : w.heap[b]? = some (.cells #[p, .slice none 0 0] TB (0, 0))) :
  Calls P (ρ.f 169) #[.pointer (some ⟨b, 0, none⟩)] w fun e w' => e = .returned (.string ⟨#[]⟩) ∧ ∃ o, w.grownBy w' o ∧ ∀ k, o = some k → False := by
 have hUS := fun (W : World) q => Lib.run_unsafeString_none (P := P) W (ρ.t 127) (ρ.t 3) (ρ.t 9) q
 have c1 : w.drew.cell? ⟨b, 1, none⟩ = some (.slice none 0 0) := by
  have : w.drew.heap[b]? = some (.cells #[p, .slice none 0 0] TB (0, 0)) := hbk
  rw [Lib.cell_of_heap this]; rfl
 have hSD : (Builtin.unsafeSliceData_ #[(ρ.t 37)] (ρ.t 127) #[.slice none 0 0]).run P w.drew = .ok (.pointer none) w.drew := rfl
 have mixed := L.mixed
 have t72 := L.t72; have a72 := L.a72; have z72 := L.z72; have v72 := L.v72; have u72 := run_underlying L.t72
 have t70 := L.t70; have a70 := L.a70; have z70 := L.z70; have v70 := L.v70; have u70 := run_underlying L.t70
 have t37 := L.t37; have a37 := L.a37; have z37 := L.z37; have v37 := L.v37; have u37 := run_underlying L.t37
 have t127 := L.t127; have a127 := L.a127; have z127 := L.z127; have v127 := L.v127; have u127 := run_underlying L.t127
 have t3 := L.t3; have a3 := L.a3; have z3 := L.z3; have v3 := L.v3; have u3 := run_underlying L.t3
 have t9 := L.t9; have a9 := L.a9; have z9 := L.z9; have v9 := L.v9; have u9 := run_underlying L.t9
 have t5 := X.t5; have a5 := X.a5; have z5 := X.z5; have v5 := X.v5; have u5 := run_underlying X.t5
 go_enter L.f169, Body.n169_ntmps ρ
 go_wp2
 go_region_o
 all_goals (go_wp2; go_ret; exact ⟨rfl, none, ⟨rfl, rfl, rfl, Nat.le_refl _, fun _ _ _ => rfl⟩, fun k hk => by cases hk⟩)
set_option maxHeartbeats 2000000 in
set_option maxRecDepth 100000 in
theorem ah2 (L : Lays.n169 P ρ) (X : Builder.Extra P ρ) (b g : Nat) (p : Value) (cur : Array Value) (w : World) (hbk : w.heap[b]? = some (.cells #[p, .slice (some ⟨g, 0, none⟩) 0 0] TB (0, 0))) (hg : w.heap[g]? = some (.cells cur (ρ.t 5) (0, 0))) :
  Calls P (ρ.f 169) #[.pointer (some ⟨b, 0, none⟩)] w fun e w' => e = .returned (.string ⟨#[]⟩) ∧ ∃ o, w.grownBy w' o ∧ ∀ k, o = some k → False := by
 have hUS := fun (W : World) q => Lib.run_unsafeString_none (P := P) W (ρ.t 127) (ρ.t 3) (ρ.t 9) q
 have hlt : b < w.heap.size := by
  rcases Nat.lt_or_ge b w.heap.size with h' | h'
  ·exact h'
  ·simp [Array.getElem?_eq_none h'] at hbk
 have c1 : w.drew.cell? ⟨b, 1, none⟩ = some (.slice (some ⟨g, 0, none⟩) 0 0) := by
  have : w.drew.heap[b]? = some (.cells #[p, .slice (some ⟨g, 0, none⟩) 0 0] TB (0, 0)) := hbk
  rw [Lib.cell_of_heap this]; rfl
 have hSD : (Builtin.unsafeSliceData_ #[(ρ.t 37)] (ρ.t 127) #[.slice (some ⟨g, 0, none⟩) 0 0]).run P w.drew = .ok (.pointer (some ⟨w.drew.heap.size, 0, none⟩)) (w.drew.alloc (.view ⟨g, 0, none⟩ (ρ.t 5))) :=
  Lib.run_unsafeSliceData_zero w.drew _ _ (ρ.t 5) L.t127 ⟨g, 0, none⟩ 0 ((ρ.t 5), cur.size) (by have hg' : w.drew.heap[g]? = some (.cells cur (ρ.t 5) (0, 0)) := hg; simp [World.shape?, hg'])
 have c2 : (w.drew.alloc (.view ⟨g, 0, none⟩ (ρ.t 5))).cell? ⟨b, 1, none⟩ = some (.slice (some ⟨g, 0, none⟩) 0 0) := by
  have : (w.drew.alloc (.view ⟨g, 0, none⟩ (ρ.t 5))).heap[b]? = _ := (Lib.alloc_old w.drew _ b hlt).trans hbk
  rw [Lib.cell_of_heap this]; rfl
 have c3 : (w.alloc (.view ⟨g, 0, none⟩ (ρ.t 5))).drew.cell? ⟨b, 1, none⟩ = some (.slice (some ⟨g, 0, none⟩) 0 0) := c2
 have c0 : w.cell? ⟨b, 1, none⟩ = some (.slice (some ⟨g, 0, none⟩) 0 0) := c1
 have mixed := L.mixed
 have t72 := L.t72; have a72 := L.a72; have z72 := L.z72; have v72 := L.v72; have u72 := run_underlying L.t72
 have t70 := L.t70; have a70 := L.a70; have z70 := L.z70; have v70 := L.v70; have u70 := run_underlying L.t70
 have t37 := L.t37; have a37 := L.a37; have z37 := L.z37; have v37 := L.v37; have u37 := run_underlying L.t37
 have t127 := L.t127; have a127 := L.a127; have z127 := L.z127; have v127 := L.v127; have u127 := run_underlying L.t127
 have t3 := L.t3; have a3 := L.a3; have z3 := L.z3; have v3 := L.v3; have u3 := run_underlying L.t3
 have t9 := L.t9; have a9 := L.a9; have z9 := L.z9; have v9 := L.v9; have u9 := run_underlying L.t9
 have t5 := X.t5; have a5 := X.a5; have z5 := X.z5; have v5 := X.v5; have u5 := run_underlying X.t5
 go_enter L.f169, Body.n169_ntmps ρ
 go_wp2
 go_region_o
 all_goals (go_wp2; go_ret; exact ⟨rfl, none, aqs (World.grownBy_alloc w _ none), fun k hk => by cases hk⟩)
set_option maxHeartbeats 2000000 in
set_option maxRecDepth 100000 in
theorem ajn (L : Lays.n169 P ρ) (X : Builder.Extra P ρ) (b g cap : Nat) (p : Value) (w : World) (hc0 : cap ≠ 0) (hbk : w.heap[b]? = some (.cells #[p, .slice (some ⟨g, 0, none⟩) 0 cap] TB (0, 0))) :
  Calls P (ρ.f 169) #[.pointer (some ⟨b, 0, none⟩)] w fun e w' => e = .returned (.string ⟨#[]⟩) ∧ ∃ o, w.grownBy w' o ∧ ∀ k, o = some k → False := by
 have hUS := fun (W : World) q => Lib.run_unsafeString_none (P := P) W (ρ.t 127) (ρ.t 3) (ρ.t 9) q
 have c1 : w.drew.cell? ⟨b, 1, none⟩ = some (.slice (some ⟨g, 0, none⟩) 0 cap) := by
  have : w.drew.heap[b]? = some (.cells #[p, .slice (some ⟨g, 0, none⟩) 0 cap] TB (0, 0)) := hbk
  rw [Lib.cell_of_heap this]; rfl
 have hSD : (Builtin.unsafeSliceData_ #[(ρ.t 37)] (ρ.t 127) #[.slice (some ⟨g, 0, none⟩) 0 cap]).run P w.drew = .ok (.pointer (some ⟨g, 0, none⟩)) w.drew :=
  Lib.run_unsafeSliceData_row _ _ _ _ _ _ hc0
 clear hc0
 have mixed := L.mixed
 have t72 := L.t72; have a72 := L.a72; have z72 := L.z72; have v72 := L.v72; have u72 := run_underlying L.t72
 have t70 := L.t70; have a70 := L.a70; have z70 := L.z70; have v70 := L.v70; have u70 := run_underlying L.t70
 have t37 := L.t37; have a37 := L.a37; have z37 := L.z37; have v37 := L.v37; have u37 := run_underlying L.t37
 have t127 := L.t127; have a127 := L.a127; have z127 := L.z127; have v127 := L.v127; have u127 := run_underlying L.t127
 have t3 := L.t3; have a3 := L.a3; have z3 := L.z3; have v3 := L.v3; have u3 := run_underlying L.t3
 have t9 := L.t9; have a9 := L.a9; have z9 := L.z9; have v9 := L.v9; have u9 := run_underlying L.t9
 have t5 := X.t5; have a5 := X.a5; have z5 := X.z5; have v5 := X.v5; have u5 := run_underlying X.t5
 go_enter L.f169, Body.n169_ntmps ρ
 go_wp2
 go_region_o
 all_goals (go_wp2; go_ret; exact ⟨rfl, none, ⟨rfl, rfl, rfl, Nat.le_refl _, fun _ _ _ => rfl⟩, fun k hk => by cases hk⟩)
theorem ak5 (L : Lays.n169 P ρ) (X : Builder.Extra P ρ) (b : Nat) (l : List UInt8) (p v : Value) (w : World) (hbk : w.heap[b]? = some (.cells #[p, v] TB (0, 0))) (hown : w.ownsRow 0 (ρ.t 5) 1 v l.length (Lib.byteCells l)) :
  Calls P (ρ.f 169) #[.pointer (some ⟨b, 0, none⟩)] w fun e w' => e = .returned (.string ⟨l.toArray⟩) ∧ ∃ o, w.grownBy w' o ∧ ∀ k, o = some k → v.ownBlock = some k := by
 by_cases h0 : l = []
 ·subst h0
  have weak : ∀ {e : Ending} {w' : World}, (e = .returned (.string ⟨#[]⟩) ∧ ∃ o, w.grownBy w' o ∧ ∀ k, o = some k → False) → e = .returned (.string ⟨([] : List UInt8).toArray⟩) ∧ ∃ o, w.grownBy w' o ∧ ∀ k, o = some k → v.ownBlock = some k :=
   fun ⟨h1, o, h2, h3⟩ => ⟨h1, o, h2, fun k hk => (h3 k hk).elim⟩
  rcases hown.2 with ⟨rfl, _⟩ | ⟨g, cap, cur, rfl, hbg, hg, _, _, _, _⟩
  ·exact (aku L X b p w hbk).mono fun _ _ h => weak h
  ·by_cases hc0 : cap = 0
   ·subst hc0
    exact (ah2 L X b g p cur w hbk hg).mono fun _ _ h => weak h
   ·exact (ajn L X b g cap p w hc0 hbk).mono fun _ _ h => weak h
 ·exact apl L X b l p v w hbk hown h0
theorem aox (L : Lays.n169 P ρ) (X : Builder.Extra P ρ) (b : Nat) (l : List UInt8) : d9 P (ρ.f 169) [.pointer (some ⟨b, 0, none⟩)] [] [bld TB (ρ.t 5) b l] (Ret (st l) []) := by
 intro w M hO hn hlt hR
 obtain ⟨F1, F2, rfl, ⟨q, v, hq, rfl, hb, hr⟩, h2⟩ := hO
 have : F2 = [] := h2
 subst this
 have hbc : Lib.byteCells l = l.flatMap k8 := by rw [ai8]; rfl
 refine (ak5 L X b l q v w hb (by rw [hbc]; exact hr)).mono ?_
 rintro e w' ⟨rfl, o, hg, ho⟩
 refine ⟨[], .inl ⟨_, rfl, rfl⟩, hg.os, hg.tape, hg.output, hg.size, fun k hk hM => hg.block k hk fun e => hM ?_, hR, [], rfl, List.nodup_nil, fun k hk => by cases hk⟩
 simp [ho k e.symm]
end Go.Proofs.YtifajndacnfcbaaDoor
namespace Go.Proofs.YtifajndacnfcbaaDoor
open Go Go.RowKit
section
variable {P : Program} {ops : Array Oper} {Q : Exit → Act → World → Prop} {C : Cx} {L : Sl} {H : List HA} {rest : List Oper}
theorem ajg {f : FuncId} {fn : Func} {c : Code} {args : List Value} {R : List (Nat × Obj)} {A : List HA} {S : Out → Prop} {L0 : Sl} {n : Nat} {u : FrameMode} (hf : P.funcs[f]? = some fn) (hb : fn.body = some c) (hnt : fn.ntmps = n) (hl : Nat.ble args.length n = true)
  (hL : (List.range args.length).zip args = L0)
  (h : ∀ w0 M Q, Ends P fn ⟨n, [], w0, M, R⟩ S Q → WC P c Q ⟨n, [], w0, M, R⟩ L0 A) : abf P f args u u R A S := by
 intro w M hO hn hlt hR
 subst hnt
 have hle : args.length ≤ fn.ntmps := Nat.le_of_ble_eq_true hl
 refine callsD_of_wp hf hb (R := fun e w' => ∃ H', ahf S e H' ∧ Hp ⟨0, [], w, M, R⟩ H' w') ?_
 refine h w M _ ?_ _ _ ⟨rfl, ?_, ?_⟩ (Hp.start _ _ w hO hn hlt hR)
 ·refine ⟨fun idx hi he hS hr a w' hfr hp => ?_, fun idx hi he hS hr a w' hfr hp => ?_, fun idx hi he hS a w' hfr hp => ?_⟩
  ·exact ⟨hfr.defers, _, hr a w' hfr hp, _, .inl ⟨_, rfl, hS⟩, he ▸ (hp.pick idx hi).ctx⟩
  ·exact ⟨hfr.defers, _, hr a w' hfr hp, _, .inl ⟨_, rfl, hS⟩, he ▸ (hp.pick idx hi).ctx⟩
  ·exact ⟨hfr.defers, _, .inr ⟨_, rfl, hS⟩, he ▸ (hp.pick idx hi).ctx⟩
 ·simp; omega
 ·intro i v hg
  subst hL
  have hm := Sl.get_mem hg
  obtain ⟨j, hj⟩ := List.mem_iff_getElem?.1 hm
  rw [List.getElem?_zip_eq_some] at hj
  obtain ⟨h1, h2⟩ := hj
  have hij : j = i := by
   have h3 := (List.getElem?_eq_some_iff.1 h1)
   obtain ⟨h4, h5⟩ := h3
   simp at h5; exact h5
  subst hij
  have hjl : j < args.length := (List.getElem?_eq_some_iff.1 h2).1
  simp only [List.size_toArray]
  rw [Array.getElem?_append_left (by simpa using hjl)]
  simpa using h2
section
variable {f : FuncId} {args : List Value} {R : List (Nat × Obj)} {S : Out → Prop} {r : Value} {A A' : List HA} {u u' : FrameMode} {T e' : TypeId} {b : Nat} {l : List UInt8}
theorem abf.openBld (h : ∀ q v, (q = .pointer none ∨ q = .pointer (some ⟨b, 0, none⟩)) → abf P f args u u' R (.blk b (.cells [q, v].toArray T (0, 0)) :: .row v e' 1 l.length (l.flatMap k8) :: A) S) : abf P f args u u' R (bld T e' b l :: A) S := fun w M hO hn hl hR => by
 obtain ⟨q, v, hq, hO'⟩ := hO.openBld
 exact h q v hq w M hO' hn hl hR
theorem abf.closeBld (h : abf P f args u u' R A (fun o => ∃ q v, (q = .pointer none ∨ q = .pointer (some ⟨b, 0, none⟩)) ∧ o = .ret r (.blk b (.cells [q, v].toArray T (0, 0)) :: .row v e' 1 l.length (l.flatMap k8) :: A'))) : abf P f args u u' R A (Ret r (bld T e' b l :: A')) := fun w M hO hn hl hR => by
 refine (h w M hO hn hl hR).mono ?_
 rintro en u2 w' ⟨hu, H', hS, hp⟩
 rcases hS with ⟨r, rfl, q, v, hq, ho⟩ | ⟨c, rfl, q, v, hq, ho⟩
 ·cases ho
  exact ⟨hu, _, .inl ⟨_, rfl, rfl⟩, hp.closeBld hq⟩
 ·cases ho
end
theorem WL.deferA {f : FuncId} {xs : List Operand} {vs : List Value} {ats : Array TypeId} {ty : TypeId} {p : String} {e : Array Edge} (hx : evs L xs = some vs)
  (h : WL P ops Q { C with D := ⟨.fn (.func f) #[], vs.toArray⟩ :: C.D } L H rest) : WL P ops Q C L H (⟨none, .defer ⟨.value (.func f), xs.toArray, ats⟩, ty, p, e, none⟩ :: rest) := by
 intro a w hf hp
 refine s7 (by simp [Region.wanted]) ?_
 unfold Oper.wp
 have : (execOp a.eval ⟨none, .defer ⟨.value (.func f), xs.toArray, ats⟩, ty, p, e, none⟩).run P w = .ok (.defer ⟨.fn (.func f) #[], vs.toArray⟩) w := by
  have h1 := af7 hf hx
  have h2 : a.eval (.func f) = .func (.func f) #[] #[] := rfl
  simp only [execOp, resolve, h2, Deferred.ofValue]
  simp [h1]
 rw [this]
 simp only [Oper.upon, Act.put]
 exact h _ _ ⟨by simp [hf.defers], hf.size, hf.get⟩ hp.ctx
theorem ard {fn : Func} {n : Nat} {w0 : World} {M : List Nat} {R R' : List (Nat × Obj)} {S : Out → Prop} {H' A A' Rest : List HA} {v vc : Value} {f : FuncId} {vs : List Value} {H : List HA} (idx0 : List Nat) (hi0 : u4 idx0 = true) (hH : sel H idx0 = A ++ Rest)
  (hent : k9 P f = true) (hc : abf P f vs .returning .returning R' A (Ret vc A')) (hR : ROk ⟨n, [⟨.fn (.func f) #[], vs.toArray⟩], w0, M, R⟩ Rest R')
  (idx : List Nat) (hi : u4 idx = true) (he : sel (A' ++ Rest) idx = H') (hS : S (.ret v H')) (hr : d7 P fn ⟨n, [⟨.fn (.func f) #[], vs.toArray⟩], w0, M, R⟩ L (A' ++ Rest) v) :
  ∀ a w, Fr ⟨n, [⟨.fn (.func f) #[], vs.toArray⟩], w0, M, R⟩ L a → Hp ⟨n, [⟨.fn (.func f) #[], vs.toArray⟩], w0, M, R⟩ H w → Leaves P fn a.tmps (fun e w' => ∃ H', ahf S e H' ∧ Hp ⟨0, [], w0, M, R⟩ H' w') [⟨.fn (.func f) #[], vs.toArray⟩] .returning w := by
 intro a w hf hp
 have hp := hH ▸ hp.pick idx0 hi0
 refine ⟨(by intro h; cases h), .func f, #[], f, vs.toArray, rfl, by simp [invoke, agf hent], ?_⟩
 obtain ⟨F, h1, h2, h3⟩ := hp.own
 obtain ⟨F1, F2, rfl, hA, hB⟩ := h1.split
 have hnd := List.nodup_append.1 h2
 refine (hc w F1 hA hnd.1 (fun k hk => (h3 k (List.mem_append.2 (.inl hk))).1) ?_).mono ?_
 ·intro q hq
  rcases hR.all q hq with ⟨i, hi⟩ | hm
  ·refine ⟨hp.blk (i := A.length + i) (by rw [List.getElem?_append_right (by omega)]; simpa using hi), fun hm => ?_⟩
   exact hnd.2.2 q.1 hm q.1 (hB.mem_blk hi) rfl
  ·refine ⟨hp.old hm, fun hk => ?_⟩
   have hro := hp.ro q hm
   have hlt := aa9 hro.1
   rcases (h3 q.1 (List.mem_append.2 (.inl hk))).2 with h4 | h4
   ·omega
   ·exact hro.2 h4
 ·rintro en u'' w' ⟨rfl, H'', hS', hh⟩
  rcases hS' with ⟨r, rfl, hS'⟩ | ⟨c, rfl, hS'⟩
  ·cases hS'
   have hp' := hp.call hB h2 h3 hh
   exact ⟨v, hr a w' hf hp', _, .inl ⟨_, rfl, hS⟩, he ▸ (hp'.pick idx hi).ctx⟩
  ·cases hS'
theorem ROk.of {Rest : List HA} : ∀ {R : List (Nat × Obj)}, (∀ q ∈ R, q ∈ C.R) → ROk C Rest R
 | [], _ => trivial
 | q :: _, h => ⟨.inr (h q List.mem_cons_self), ROk.of fun x hx => h x (List.mem_cons_of_mem _ hx)⟩
end
end Go.Proofs.YtifajndacnfcbaaDoor
