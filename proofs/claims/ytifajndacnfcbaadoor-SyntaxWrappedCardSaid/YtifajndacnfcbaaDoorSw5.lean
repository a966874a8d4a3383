/-
  Merged: SyW, SyB, SyX, TkJs, SyT.
-/
import Derived.Test.YtifajndacnfcbaaDoorSw4
set_option maxRecDepth 100000
namespace Go.Proofs.YtifajndacnfcbaaDoor
open Go Go.RowKit
theorem aps : l6 Tryd.prog 66 = true := by kernel_rfl
theorem aap : l6 Tryd.prog 43 = true := by kernel_rfl
theorem afu : l6 Tryd.prog 55 = true := by kernel_rfl
theorem o7 : g0 Tryd.prog 102 1 = some 1 := by kernel_rfl
theorem k7 : g0 Tryd.prog 102 2 = some 2 := by kernel_rfl
theorem am1 : Program.concrete Tryd.prog 80 = true := by kernel_rfl
theorem apf : l6 Tryd.prog 76 = true := by kernel_rfl
theorem am4 : Program.concrete Tryd.prog 78 = true := by kernel_rfl
theorem w5 : g0 Tryd.prog 102 0 = some 0 := by kernel_rfl
theorem amm : Program.concrete Tryd.prog 73 = true := by kernel_rfl
theorem amz : Program.concrete Tryd.prog 74 = true := by kernel_rfl
theorem ad9 : l6 Tryd.prog 40 = true := by kernel_rfl
theorem ao2 : l6 Tryd.prog 79 = true := by kernel_rfl
theorem am2 : Program.concrete Tryd.prog 71 = true := by kernel_rfl
theorem af0 : l6 Tryd.prog 80 = true := by kernel_rfl
theorem afw : l6 Tryd.prog 81 = true := by kernel_rfl
theorem amp : Program.concrete Tryd.prog 76 = true := by kernel_rfl
theorem ahf : aa5 Tryd.prog 83 = some [zI 0, st [], Value.slice none 0 0] := by kernel_rfl
theorem ahi : n8 Tryd.prog 83 3 = true := by kernel_rfl
theorem ab4 : g0 Tryd.prog 83 2 = some 2 := by kernel_rfl
theorem ahm : aaf Tryd.prog 81 = true := by kernel_rfl
theorem ae9 : slB Tryd.prog 81 37 1 = true := by kernel_rfl
theorem am9 : aa5 Tryd.prog 37 = some [Value.nilIface] := by kernel_rfl
theorem anb : age Tryd.prog 37 = some ([Value.nilIface], 1, 16) := by kernel_rfl
theorem amd : n8 Tryd.prog 81 1 = true := by kernel_rfl
theorem ao9 : RowT Tryd.prog 83 3 := ⟨by kernel_rfl, by kernel_rfl⟩
theorem al6 : Program.concrete Tryd.prog 83 = true := by kernel_rfl
def agm (te : TypeId) (fre : Nat × Nat) (ts : List Tok) (k0 : Nat) (op0 : Int) (B0 : List (Nat × Obj)) (lv : Int) (K : Value → Nat → Int → (List Tok) → (List (Nat × Obj)) → Prop) (KP : Value → Nat → Int → (List Tok) → (List (Nat × Obj)) → Prop) : Prop :=
 (if (decide (lv = 5)) = true then
  (PAt te fre ts k0) ∧
  (POK ts k0 op0) ∧
  (∀ (v : Value) (e : Ex) (k : Nat) (op : Int) (B : List (Nat × Obj)), ExR (sP ts (k0, op0)) B0 v e k op B →
   K v k op ts B) ∧
  (∀ (ec : Int) (ep : Int) (k_1' : Nat) (op_1' : Int) (B_1' : List (Nat × Obj)), ExP (sP ts (k0, op0)) ts ec ep k_1' op_1' B_1' →
   KP (Value.iface 26 (Value.agg [zI ec, zI ep, st []].toArray)) k_1' op_1' ts B_1')
 else
  (I64 (lv + 1)) ∧
  (EAt te fre ts k0 (lv + 1)) ∧
  (POK ts k0 op0 ∧ 0 ≤ (lv + 1) ∧ (lv + 1) ≤ 5) ∧
  (∀ (v_1' : Value) (e_1' : Ex) (k_2' : Nat) (op_2' : Int) (B_2' : List (Nat × Obj)), ExR (sE ts (lv + 1).toNat (k0, op0)) B0 v_1' e_1' k_2' op_2' B_2' →
   ∃ (Inv : Value → Nat → Int → (List (Nat × Obj)) → Prop) (mu : Value → Nat → Int → (List (Nat × Obj)) → Nat),
    Inv v_1' k_2' op_2' B_2' ∧ ∀ (a_1' : Value) (p_0_1' : Nat) (p_1_1' : Int) (c_1' : List (Nat × Obj)), Inv a_1' p_0_1' p_1_1' c_1' →
     (p_0_1' < ts.length) ∧
     ((decide ((a8 ts p_0_1').1 = 4)) = true → (p_0_1' < ts.length) ∧ (aci ((a8 ts p_0_1').2.2))) ∧
     (if ((decide ((a8 ts p_0_1').1 = 4)) && (decide (d8 ((a8 ts p_0_1').2.2) = lv))) = true then
      (p_0_1' < ts.length) ∧
      (I64 (lv + 1)) ∧
      (EAt te fre ts (p_0_1' + 1) (lv + 1)) ∧
      (POK ts (p_0_1' + 1) p_1_1' ∧ 0 ≤ (lv + 1) ∧ (lv + 1) ≤ 5) ∧
      (∀ (v_4' : Value) (e_4' : Ex) (k_8' : Nat) (op_8' : Int) (B_8' : List (Nat × Obj)), ExR (sE ts (lv + 1).toNat (p_0_1' + 1, p_1_1')) c_1' v_4' e_4' k_8' op_8' B_8' →
       (a_1'.oneCell' = true) ∧
       (v_4'.oneCell' = true) ∧
       Inv (Value.iface 80 (Value.agg [zI ((a8 ts p_0_1').2.1), st ((a8 ts p_0_1').2.2), a_1', v_4'].toArray)) k_8' op_8' B_8' ∧ mu (Value.iface 80 (Value.agg [zI ((a8 ts p_0_1').2.1), st ((a8 ts p_0_1').2.2), a_1', v_4'].toArray)) k_8' op_8' B_8' < mu a_1' p_0_1' p_1_1' c_1') ∧
      (∀ (ec_4' : Int) (ep_4' : Int) (k_9' : Nat) (op_9' : Int) (B_9' : List (Nat × Obj)), ExP (sE ts (lv + 1).toNat (p_0_1' + 1, p_1_1')) ts ec_4' ep_4' k_9' op_9' B_9' →
       KP (Value.iface 26 (Value.agg [zI ec_4', zI ep_4', st []].toArray)) k_9' op_9' ts B_9')
     else
      K a_1' p_0_1' p_1_1' ts c_1')) ∧
  (∀ (ec_1' : Int) (ep_1' : Int) (k_3' : Nat) (op_3' : Int) (B_3' : List (Nat × Obj)), ExP (sE ts (lv + 1).toNat (k0, op0)) ts ec_1' ep_1' k_3' op_3' B_3' →
   KP (Value.iface 26 (Value.agg [zI ec_1', zI ep_1', st []].toArray)) k_3' op_3' ts B_3'))
theorem an4 (pb : Nat) (wa : Value) (te : TypeId) (fre : Nat × Nat) (ts : List Tok) (k0 : Nat) (op0 : Int) (B0 : List (Nat × Obj)) (lv : Int) (K : Value → Nat → Int → (List Tok) → (List (Nat × Obj)) → Prop) (KP : Value → Nat → Int → (List Tok) → (List (Nat × Obj)) → Prop) (h : agm te fre ts k0 op0 B0 lv K KP) :
  d9 Tryd.prog 43 [zP pb, zI lv] [(0, .cells [st ([124] : List UInt8), st ([38, 45] : List UInt8), st ([62, 62] : List UInt8), st ([126] : List UInt8), st ([46] : List UInt8)].toArray te fre)] [HA.blk pb (.cells [j7 wa 3 k0, zI op0].toArray 55 (0, 0)), HA.row wa 102 3 ts.length (ts.flatMap g9), pool B0] (fun o => (∃ (v_5' : Value) (d_1'_0 : Nat) (d_1'_1 : Int) (d : List Tok) (D : List (Nat × Obj)), K v_5' d_1'_0 d_1'_1 d D ∧ o = .ret (v_5') [HA.blk pb (.cells [j7 wa 3 d_1'_0, zI d_1'_1].toArray 55 (0, 0)), HA.row wa 102 3 d.length (d.flatMap g9), pool D]) ∨ (∃ (pv : Value) (d_1'_0 : Nat) (d_1'_1 : Int) (d : List Tok) (D : List (Nat × Obj)), KP pv d_1'_0 d_1'_1 d D ∧ o = .pan [{ v := pv, recovered := false }] [HA.blk pb (.cells [j7 wa 3 d_1'_0, zI d_1'_1].toArray 55 (0, 0)), HA.row wa 102 3 d.length (d.flatMap g9), pool D])) := by
 unfold agm at h
 refine b9 (n := 41) (L0 := [(0, zP pb), (1, zI lv)]) Tryd.func43 rfl rfl rfl rfl (fun w0 M Q hE => ?_)
 refine a7 (fun _ hK => ?_)
 refine a6 ?_
 refine wA ?_
 refine WL.nil ?_
 refine kg (hK [(0, zP pb), (1, zI lv)] _ ?_)
 refine a7 (fun _ hK_1' => ?_)
 refine a7 (fun _ hK_2' => ?_)
 refine a6 ?_
 refine wm ?_
 refine wv (OV.eql rfl rfl) ?_
 refine WL.nil ?_
 refine kg (hK_2' [(0, zP pb), (1, zI lv), (8, zB (decide (lv = 5)))] _ ?_)
 refine b5 (b := decide (lv = 5)) rfl (fun hb => ?_) (fun hb => ?_)
 ·replace h := j4 h hb
  refine a7 (fun _ hK_3' => ?_)
  refine a6 ?_
  refine wm ?_
  obtain ⟨o, h⟩ := h
  obtain ⟨o_1', h⟩ := h
  refine WL.callS aps rfl (o pb wa op0 B0 o_1') rfl ⟨.inr (List.mem_of_getElem? (i := 0) rfl), trivial⟩ rfl rfl (fun v H' hS => ?_) (fun c H' hS => ?_)
  ·rcases hS with ⟨_, e, k, op, B, hc, ho⟩ | ⟨ec, ep, k_1', op_1', B_1', hc, ho⟩ <;> cases ho
   replace h := h.1 v e k op B hc
   refine wA ?_
   refine WL.nil ?_
   refine kg (hK_3' [(4, v)] _ ?_)
   refine c7 ?_
   exact hE.ret [0, 1, 2] rfl rfl (.inl ⟨_, _, _, _, _, h, rfl⟩) (e9.of1 rfl (RV.tmp rfl))
  ·rcases hS with ⟨_, e, k, op, B, hc, ho⟩ | ⟨ec, ep, k_1', op_1', B_1', hc, ho⟩ <;> cases ho
   replace h := h.2 ec ep k_1' op_1' B_1' hc
   exact hE.pan [0, 1, 2] rfl rfl (.inr ⟨_, _, _, _, _, h, rfl⟩)
 ·replace h := j5 h hb
  refine b7 ?_
  refine kg (hK_1' [(0, zP pb), (1, zI lv)] _ ?_)
  refine a7 (fun _ hK_4' => ?_)
  refine a6 ?_
  refine wm ?_
  refine wm ?_
  obtain ⟨o_2', h⟩ := h
  refine wv (OV.add rfl rfl o_2') ?_
  obtain ⟨o_3', h⟩ := h
  obtain ⟨o_4', h⟩ := h
  refine WL.callS aap rfl (o_3' pb wa op0 B0 o_4') rfl ⟨.inr (List.mem_of_getElem? (i := 0) rfl), trivial⟩ rfl rfl (fun v_1' H' hS => ?_) (fun c H' hS => ?_)
  ·rcases hS with ⟨_, e_1', k_2', op_2', B_2', hc, ho⟩ | ⟨ec_1', ep_1', k_3', op_3', B_3', hc, ho⟩ <;> cases ho
   replace h := h.1 v_1' e_1' k_2' op_2' B_2' hc
   refine wA ?_
   refine WL.nil ?_
   refine kg (hK_4' [(0, zP pb), (1, zI lv), (5, v_1')] _ ?_)
   refine a7 (fun _ hK_5' => ?_)
   refine b8 ?_
   obtain ⟨Inv, mu, h0, hr⟩ := h
   refine v7 (S := Value × Nat × Int × (List (Nat × Obj))) (fun σ => Inv σ.1 σ.2.1 σ.2.2.1 σ.2.2.2) (fun σ => mu σ.1 σ.2.1 σ.2.2.1 σ.2.2.2) (fun σ => [(0, zP pb), (1, zI lv), (5, σ.1)]) (fun σ => [HA.blk pb (.cells [j7 wa 3 σ.2.1, zI σ.2.2.1].toArray 55 (0, 0)), HA.row wa 102 3 ts.length (ts.flatMap g9), pool σ.2.2.2]) (v_1', k_2', op_2', B_2') h0 ⟨rfl, rfl, rfl, trivial⟩ rfl ?_
   rintro ⟨a_1', p_0_1', p_1_1', c_1'⟩ hi K0_14' hK_14'
   have h := hr a_1' p_0_1' p_1_1' c_1' hi
   show WC _ _ _ _ [(0, zP pb), (1, zI lv), (5, a_1')] [HA.blk pb (.cells [j7 wa 3 p_0_1', zI p_1_1'].toArray 55 (0, 0)), HA.row wa 102 3 ts.length (ts.flatMap g9), pool c_1']
   refine a7 (fun _ hK_15' => ?_)
   refine a7 (fun _ hK_16' => ?_)
   refine a6 ?_
   refine wm ?_
   obtain ⟨o_25', h⟩ := h
   refine WL.call u7 rfl (t7 pb wa ts p_0_1' p_1_1' o_25') rfl trivial rfl rfl ?_
   refine wv (OV.field rfl ab3 b6 rfl) ?_
   refine wv (OV.eql rfl rfl) ?_
   refine wm ?_
   obtain ⟨o_28', h⟩ := h
   refine WL.cut 7 [(0, zP pb), (1, zI lv), (5, a_1'), (26, zB ((decide ((a8 ts p_0_1').1 = 4)) && (decide (d8 ((a8 ts p_0_1').2.2) = lv))))] ?_ (fun K0_17' hK_17' => ?_)
   rotate_left
   ·refine WL.split (decide ((a8 ts p_0_1').1 = 4)) (fun hb => ?_) (fun hb => ?_)
    ·obtain ⟨o_26', o_27'⟩ := o_28' hb
     refine WL.set 19 rfl (congrArg zB hb) ?_
     refine wm ?_
     refine WL.call u7 rfl (t7 pb wa ts p_0_1' p_1_1' o_26') rfl trivial rfl rfl ?_
     refine wv (OV.field rfl adq c6 rfl) ?_
     refine WL.call (A := []) afu rfl (afs te fre ((a8 ts p_0_1').2.2) o_27') rfl ⟨.inr (List.mem_of_getElem? (i := 0) rfl), trivial⟩ rfl rfl ?_
     refine wm ?_
     refine wv (OV.eql rfl rfl) ?_
     refine wv (OV.pickT rfl rfl) ?_
     refine WL.set 26 rfl (bT (v := decide (d8 ((a8 ts p_0_1').2.2) = lv)) hb) ?_
     exact WL.end_ (kg hK_17')
    ·refine WL.set 19 rfl (congrArg zB hb) ?_
     refine wk ?_
     refine wk ?_
     refine wk ?_
     refine wk ?_
     refine wk ?_
     refine wk ?_
     refine wv (OV.pickF rfl rfl) ?_
     refine WL.set 26 rfl (bF (v := decide (d8 ((a8 ts p_0_1').2.2) = lv)) hb) ?_
     exact WL.end_ (kg hK_17')
   refine WL.nil ?_
   refine kg (hK_16' [(0, zP pb), (1, zI lv), (5, a_1'), (26, zB ((decide ((a8 ts p_0_1').1 = 4)) && (decide (d8 ((a8 ts p_0_1').2.2) = lv))))] _ ?_)
   refine b5 (b := (decide ((a8 ts p_0_1').1 = 4)) && (decide (d8 ((a8 ts p_0_1').2.2) = lv))) rfl (fun hb => ?_) (fun hb => ?_)
   ·replace h := j4 h hb
    refine b7 ?_
    refine kg (hK_15' [(0, zP pb), (1, zI lv), (5, a_1')] _ ?_)
    refine b8 ?_
    refine a7 (fun _ hK_18' => ?_)
    refine a6 ?_
    refine wm ?_
    obtain ⟨o_29', h⟩ := h
    refine WL.call x6 rfl (w8 pb wa ts p_0_1' p_1_1' o_29') rfl trivial rfl rfl ?_
    refine WL.make (MV.alloc r9) rfl rfl rfl (fun b_2' => ?_)
    refine WL.storeW (vs := [zI ((a8 ts p_0_1').1), zI ((a8 ts p_0_1').2.1), st ((a8 ts p_0_1').2.2)]) 0 rfl rfl rfl rfl rfl r8 rfl rfl rfl ?_
    refine WL.nil ?_
    refine kg (hK_18' [(0, zP pb), (1, zI lv), (5, a_1'), (6, zP b_2')] _ ?_)
    refine aht 8 [0] [HA.blk b_2' (.cells [zI ((a8 ts p_0_1').1), zI ((a8 ts p_0_1').2.1), st ((a8 ts p_0_1').2.2)].toArray 102 (0, 0))] rfl rfl j3 (by kernel_rfl) (fun T_2' hT_2' => ?_)
    refine TW.val (OV.fieldAddr0 rfl o7) rfl rfl rfl ?_
    refine TW.val (OV.load rfl (At.own 0 rfl) rfl b6) rfl rfl rfl ?_
    refine TW.val (OV.fieldAddr0 rfl k7) rfl rfl rfl ?_
    refine TW.val (OV.load rfl (At.own 0 rfl) rfl c6) rfl rfl rfl ?_
    refine TW.val (OV.move rfl) rfl rfl rfl ?_
    refine TW.val (OV.move rfl) rfl rfl rfl ?_
    refine TW.val (OV.move rfl) rfl rfl rfl ?_
    obtain ⟨o_30', h⟩ := h
    refine TW.val (OV.add rfl rfl o_30') rfl rfl rfl ?_
    refine TW.nil (hT_2' _ ?_)
    obtain ⟨o_31', h⟩ := h
    obtain ⟨o_32', h⟩ := h
    refine WLX.pick (H' := [HA.blk pb (.cells [j7 wa 3 (p_0_1' + 1), zI p_1_1'].toArray 55 (0, 0)), HA.row wa 102 3 ts.length (ts.flatMap g9), pool c_1', HA.blk b_2' (.cells [zI ((a8 ts p_0_1').1), zI ((a8 ts p_0_1').2.1), st ((a8 ts p_0_1').2.2)].toArray 102 (0, 0))]) [1, 2, 3, 0] rfl rfl ?_
    refine WLX.callS [0] rfl (EN.fn aap rfl) rfl (o_31' pb wa p_1_1' c_1' o_32') rfl rfl ⟨.inr (List.mem_of_getElem? (i := 0) rfl), trivial⟩ rfl rfl (fun v_4' H' hS => ?_) (fun c H' hS => ?_)
    ·rcases hS with ⟨_, e_4', k_8', op_8', B_8', hc, ho⟩ | ⟨ec_4', ep_4', k_9', op_9', B_9', hc, ho⟩ <;> cases ho
     replace h := h.1 v_4' e_4' k_8' op_8' B_8' hc
     obtain ⟨o_33', h⟩ := h
     obtain ⟨o_34', h⟩ := h
     refine WLX.op [3] rfl rfl (OpK.val (OV.buildC (qs := [(0, [zI ((a8 ts p_0_1').2.1)]), (1, [st ((a8 ts p_0_1').2.2)]), (2, [a_1']), (3, [v_4'])]) (cs := [zI ((a8 ts p_0_1').2.1), st ((a8 ts p_0_1').2.2), a_1', v_4']) rfl ⟨rfl, rfl, ⟨rfl, rfl, ⟨rfl, x8 o_33', ⟨rfl, x8 o_34', trivial⟩⟩⟩⟩ rfl) rfl rfl) rfl ?_
     refine WLX.op [3] rfl rfl (OpK.val (OV.iface rfl am1) rfl rfl) rfl ?_
     refine WLX.opZ (OpK.val (OV.assign rfl) rfl rfl) rfl ?_
     refine WLX.nil ?_
     exact kh (hK_14' (Value.iface 80 (Value.agg [zI ((a8 ts p_0_1').2.1), st ((a8 ts p_0_1').2.2), a_1', v_4'].toArray), k_8', op_8', B_8') h.1 h.2) [0, 1, 2]
    ·rcases hS with ⟨_, e_4', k_8', op_8', B_8', hc, ho⟩ | ⟨ec_4', ep_4', k_9', op_9', B_9', hc, ho⟩ <;> cases ho
     replace h := h.2 ec_4' ep_4' k_9' op_9' B_9' hc
     refine QX.strong ?_
     exact hE.pan [0, 1, 2] rfl rfl (.inr ⟨_, _, _, _, _, h, rfl⟩)
   ·replace h := j5 h hb
    refine p9 ?_
    refine kg (hK_5' [(5, a_1')] _ ?_)
    refine a7 (fun _ hK_19' => ?_)
    refine a6 ?_
    refine wm ?_
    refine wA ?_
    refine WL.nil ?_
    refine kg (hK_19' [(4, a_1')] _ ?_)
    refine c7 ?_
    exact hE.ret [0, 1, 2] rfl rfl (.inl ⟨_, _, _, _, _, h, rfl⟩) (e9.of1 rfl (RV.tmp rfl))
  ·rcases hS with ⟨_, e_1', k_2', op_2', B_2', hc, ho⟩ | ⟨ec_1', ep_1', k_3', op_3', B_3', hc, ho⟩ <;> cases ho
   replace h := h.2 ec_1' ep_1' k_3' op_3' B_3' hc
   exact hE.pan [0, 1, 2] rfl rfl (.inr ⟨_, _, _, _, _, h, rfl⟩)
def aju (te : TypeId) (fre : Nat × Nat) (ts : List Tok) (k0 : Nat) (op0 : Int) (B0 : List (Nat × Obj)) (K : Value → Nat → Int → (List Tok) → (List (Nat × Obj)) → Prop) (KP : Value → Nat → Int → (List Tok) → (List (Nat × Obj)) → Prop) : Prop :=
 (AAt te fre ts k0) ∧
 (POK ts k0 op0) ∧
 (∀ (v : Value) (e : Ex) (k : Nat) (op : Int) (B : List (Nat × Obj)), ExR (sA ts (k0, op0)) B0 v e k op B →
  ∃ (Inv : Value → Nat → Prop) (mu : Value → Nat → Nat),
   Inv v k ∧ ∀ (a_1' : Value) (p_0_1' : Nat), Inv a_1' p_0_1' →
    (p_0_1' < ts.length) ∧
    ((isM ts p_0_1' ([42] : List UInt8)) = false → (p_0_1' < ts.length)) ∧
    (((isM ts p_0_1' ([42] : List UInt8)) || (isM ts p_0_1' ([43] : List UInt8))) = false → (p_0_1' < ts.length)) ∧
    (if (((isM ts p_0_1' ([42] : List UInt8)) || (isM ts p_0_1' ([43] : List UInt8))) || (isM ts p_0_1' ([63] : List UInt8))) = true then
     (p_0_1' < ts.length) ∧
     (a_1'.oneCell' = true) ∧
     Inv (Value.iface 78 (Value.agg [zI ((a8 ts p_0_1').2.1), st ((a8 ts p_0_1').2.2), a_1'].toArray)) (p_0_1' + 1) ∧ mu (Value.iface 78 (Value.agg [zI ((a8 ts p_0_1').2.1), st ((a8 ts p_0_1').2.2), a_1'].toArray)) (p_0_1' + 1) < mu a_1' p_0_1'
    else
     K a_1' p_0_1' op ts B)) ∧
 (∀ (ec : Int) (ep : Int) (k_1' : Nat) (op_1' : Int) (B_1' : List (Nat × Obj)), ExP (sA ts (k0, op0)) ts ec ep k_1' op_1' B_1' →
  KP (Value.iface 26 (Value.agg [zI ec, zI ep, st []].toArray)) k_1' op_1' ts B_1')
theorem ar9 (pb : Nat) (wa : Value) (te : TypeId) (fre : Nat × Nat) (ts : List Tok) (k0 : Nat) (op0 : Int) (B0 : List (Nat × Obj)) (K : Value → Nat → Int → (List Tok) → (List (Nat × Obj)) → Prop) (KP : Value → Nat → Int → (List Tok) → (List (Nat × Obj)) → Prop) (h : aju te fre ts k0 op0 B0 K KP) :
  d9 Tryd.prog 66 [zP pb] [(0, .cells [st ([124] : List UInt8), st ([38, 45] : List UInt8), st ([62, 62] : List UInt8), st ([126] : List UInt8), st ([46] : List UInt8)].toArray te fre)] [HA.blk pb (.cells [j7 wa 3 k0, zI op0].toArray 55 (0, 0)), HA.row wa 102 3 ts.length (ts.flatMap g9), pool B0] (fun o => (∃ (v_1' : Value) (d_1'_0 : Nat) (d_1'_1 : Int) (d : List Tok) (D : List (Nat × Obj)), K v_1' d_1'_0 d_1'_1 d D ∧ o = .ret (v_1') [HA.blk pb (.cells [j7 wa 3 d_1'_0, zI d_1'_1].toArray 55 (0, 0)), HA.row wa 102 3 d.length (d.flatMap g9), pool D]) ∨ (∃ (pv : Value) (d_1'_0 : Nat) (d_1'_1 : Int) (d : List Tok) (D : List (Nat × Obj)), KP pv d_1'_0 d_1'_1 d D ∧ o = .pan [{ v := pv, recovered := false }] [HA.blk pb (.cells [j7 wa 3 d_1'_0, zI d_1'_1].toArray 55 (0, 0)), HA.row wa 102 3 d.length (d.flatMap g9), pool D])) := by
 unfold aju at h
 refine b9 (n := 27) (L0 := [(0, zP pb)]) Tryd.func66 rfl rfl rfl rfl (fun w0 M Q hE => ?_)
 refine a7 (fun _ hK => ?_)
 refine a6 ?_
 refine wA ?_
 refine WL.nil ?_
 refine kg (hK [(0, zP pb)] _ ?_)
 refine a7 (fun _ hK_1' => ?_)
 refine a6 ?_
 refine wm ?_
 obtain ⟨o, h⟩ := h
 obtain ⟨o_1', h⟩ := h
 refine WL.callS apf rfl (o pb wa op0 B0 o_1') rfl ⟨.inr (List.mem_of_getElem? (i := 0) rfl), trivial⟩ rfl rfl (fun v H' hS => ?_) (fun c H' hS => ?_)
 ·rcases hS with ⟨_, e, k, op, B, hc, ho⟩ | ⟨ec, ep, k_1', op_1', B_1', hc, ho⟩ <;> cases ho
  replace h := h.1 v e k op B hc
  refine wA ?_
  refine WL.nil ?_
  refine kg (hK_1' [(0, zP pb), (3, v)] _ ?_)
  refine a7 (fun _ hK_2' => ?_)
  refine b8 ?_
  obtain ⟨Inv, mu, h0, hr⟩ := h
  refine v7 (S := Value × Nat) (fun σ => Inv σ.1 σ.2) (fun σ => mu σ.1 σ.2) (fun σ => [(0, zP pb), (3, σ.1)]) (fun σ => [HA.blk pb (.cells [j7 wa 3 σ.2, zI op].toArray 55 (0, 0)), HA.row wa 102 3 ts.length (ts.flatMap g9), pool B]) (v, k) h0 ⟨rfl, rfl, trivial⟩ rfl ?_
  rintro ⟨a_1', p_0_1'⟩ hi K0_13' hK_13'
  have h := hr a_1' p_0_1' hi
  show WC _ _ _ _ [(0, zP pb), (3, a_1')] [HA.blk pb (.cells [j7 wa 3 p_0_1', zI op].toArray 55 (0, 0)), HA.row wa 102 3 ts.length (ts.flatMap g9), pool B]
  refine a7 (fun _ hK_14' => ?_)
  refine a7 (fun _ hK_15' => ?_)
  refine a6 ?_
  refine wm ?_
  obtain ⟨o_16', h⟩ := h
  refine WL.call aao rfl (ac8 pb wa ts p_0_1' op ([42] : List UInt8) o_16') rfl trivial rfl rfl ?_
  refine wm ?_
  obtain ⟨o_18', h⟩ := h
  refine WL.cut 3 [(0, zP pb), (3, a_1'), (12, zB ((isM ts p_0_1' ([42] : List UInt8)) || (isM ts p_0_1' ([43] : List UInt8))))] ?_ (fun K0_16' hK_16' => ?_)
  rotate_left
  ·refine WL.split (isM ts p_0_1' ([42] : List UInt8)) (fun hb => ?_) (fun hb => ?_)
   ·refine WL.set 9 rfl (congrArg zB hb) ?_
    refine wk ?_
    refine wk ?_
    refine wv (OV.pickT rfl rfl) ?_
    refine WL.set 12 rfl (oT (v := isM ts p_0_1' ([43] : List UInt8)) hb) ?_
    exact WL.end_ (kg hK_16')
   ·have o_17' := o_18' hb
    refine WL.set 9 rfl (congrArg zB hb) ?_
    refine wm ?_
    refine WL.call aao rfl (ac8 pb wa ts p_0_1' op ([43] : List UInt8) o_17') rfl trivial rfl rfl ?_
    refine wv (OV.pickF rfl rfl) ?_
    refine WL.set 12 rfl (oF (v := isM ts p_0_1' ([43] : List UInt8)) hb) ?_
    exact WL.end_ (kg hK_16')
  refine wm ?_
  obtain ⟨o_20', h⟩ := h
  refine WL.cut 3 [(0, zP pb), (3, a_1'), (16, zB (((isM ts p_0_1' ([42] : List UInt8)) || (isM ts p_0_1' ([43] : List UInt8))) || (isM ts p_0_1' ([63] : List UInt8))))] ?_ (fun K0_17' hK_17' => ?_)
  rotate_left
  ·refine WL.split ((isM ts p_0_1' ([42] : List UInt8)) || (isM ts p_0_1' ([43] : List UInt8))) (fun hb => ?_) (fun hb => ?_)
   ·refine WL.set 13 rfl (congrArg zB hb) ?_
    refine wk ?_
    refine wk ?_
    refine wv (OV.pickT rfl rfl) ?_
    refine WL.set 16 rfl (oT (v := isM ts p_0_1' ([63] : List UInt8)) hb) ?_
    exact WL.end_ (kg hK_17')
   ·have o_19' := o_20' hb
    refine WL.set 13 rfl (congrArg zB hb) ?_
    refine wm ?_
    refine WL.call aao rfl (ac8 pb wa ts p_0_1' op ([63] : List UInt8) o_19') rfl trivial rfl rfl ?_
    refine wv (OV.pickF rfl rfl) ?_
    refine WL.set 16 rfl (oF (v := isM ts p_0_1' ([63] : List UInt8)) hb) ?_
    exact WL.end_ (kg hK_17')
  refine WL.nil ?_
  refine kg (hK_15' [(0, zP pb), (3, a_1'), (16, zB (((isM ts p_0_1' ([42] : List UInt8)) || (isM ts p_0_1' ([43] : List UInt8))) || (isM ts p_0_1' ([63] : List UInt8))))] _ ?_)
  refine b5 (b := ((isM ts p_0_1' ([42] : List UInt8)) || (isM ts p_0_1' ([43] : List UInt8))) || (isM ts p_0_1' ([63] : List UInt8))) rfl (fun hb => ?_) (fun hb => ?_)
  ·replace h := j4 h hb
   refine b7 ?_
   refine kg (hK_14' [(0, zP pb), (3, a_1')] _ ?_)
   refine b8 ?_
   refine a7 (fun _ hK_18' => ?_)
   refine a6 ?_
   refine wm ?_
   obtain ⟨o_21', h⟩ := h
   refine WL.call x6 rfl (w8 pb wa ts p_0_1' op o_21') rfl trivial rfl rfl ?_
   refine WL.make (MV.alloc r9) rfl rfl rfl (fun b_2' => ?_)
   refine WL.storeW (vs := [zI ((a8 ts p_0_1').1), zI ((a8 ts p_0_1').2.1), st ((a8 ts p_0_1').2.2)]) 0 rfl rfl rfl rfl rfl r8 rfl rfl rfl ?_
   refine WL.nil ?_
   refine kg (hK_18' [(0, zP pb), (3, a_1'), (4, zP b_2')] _ ?_)
   refine a6 ?_
   refine wv (OV.fieldAddr0 rfl o7) ?_
   refine wv (OV.load rfl (At.own 0 rfl) rfl b6) ?_
   refine wv (OV.fieldAddr0 rfl k7) ?_
   refine wv (OV.load rfl (At.own 0 rfl) rfl c6) ?_
   refine wm ?_
   obtain ⟨o_22', h⟩ := h
   refine wv (OV.buildC (qs := [(0, [zI ((a8 ts p_0_1').2.1)]), (1, [st ((a8 ts p_0_1').2.2)]), (2, [a_1'])]) (cs := [zI ((a8 ts p_0_1').2.1), st ((a8 ts p_0_1').2.2), a_1']) rfl ⟨rfl, rfl, ⟨rfl, rfl, ⟨rfl, x8 o_22', trivial⟩⟩⟩ rfl) ?_
   refine wv (OV.iface rfl am4) ?_
   refine wA ?_
   refine WL.nil ?_
   exact kh (hK_13' (Value.iface 78 (Value.agg [zI ((a8 ts p_0_1').2.1), st ((a8 ts p_0_1').2.2), a_1'].toArray), p_0_1' + 1) h.1 h.2) [1, 2, 3]
  ·replace h := j5 h hb
   refine p9 ?_
   refine kg (hK_2' [(3, a_1')] _ ?_)
   refine a7 (fun _ hK_19' => ?_)
   refine a6 ?_
   refine wm ?_
   refine wA ?_
   refine WL.nil ?_
   refine kg (hK_19' [(2, a_1')] _ ?_)
   refine c7 ?_
   exact hE.ret [0, 1, 2] rfl rfl (.inl ⟨_, _, _, _, _, h, rfl⟩) (e9.of1 rfl (RV.tmp rfl))
 ·rcases hS with ⟨_, e, k, op, B, hc, ho⟩ | ⟨ec, ep, k_1', op_1', B_1', hc, ho⟩ <;> cases ho
  replace h := h.2 ec ep k_1' op_1' B_1' hc
  exact hE.pan [0, 1, 2] rfl rfl (.inr ⟨_, _, _, _, _, h, rfl⟩)
def ajs (te : TypeId) (fre : Nat × Nat) (ts : List Tok) (k0 : Nat) (op0 : Int) (B0 : List (Nat × Obj)) (K : Value → Nat → Int → (List Tok) → (List (Nat × Obj)) → Prop) (KP : Value → Nat → Int → (List Tok) → (List (Nat × Obj)) → Prop) : Prop :=
 (k0 < ts.length) ∧
 (if (decide ((a8 ts k0).1 = 2)) = true then
  (k0 < ts.length) ∧
  K (Value.iface 73 (Value.agg [zI ((a8 ts k0).2.1), st ((a8 ts k0).2.2)].toArray)) (k0 + 1) op0 ts B0
 else
  (if (decide ((a8 ts k0).1 = 3)) = true then
   (k0 < ts.length) ∧
   K (Value.iface 74 (Value.agg [zI ((a8 ts k0).2.1), st ((a8 ts k0).2.2)].toArray)) (k0 + 1) op0 ts B0
  else
   (if ((decide ((a8 ts k0).1 = 1)) && (decide (0 < e8 ((a8 ts k0).2.2)))) = true then
    (CAt te fre ts k0) ∧
    (POK ts k0 op0 ∧ (a8 ts k0).1 = 1 ∧ 0 < e8 (a8 ts k0).2.2) ∧
    (∀ (v : Value) (e : Ex) (k : Nat) (op : Int) (B : List (Nat × Obj)), ExR (sC ts (k0, op0)) B0 v e k op B →
     K v k op ts B) ∧
    (∀ (ec : Int) (ep : Int) (k_1' : Nat) (op_1' : Int) (B_1' : List (Nat × Obj)), ExP (sC ts (k0, op0)) ts ec ep k_1' op_1' B_1' →
     KP (Value.iface 26 (Value.agg [zI ec, zI ep, st []].toArray)) k_1' op_1' ts B_1')
   else
    (if ((decide ((a8 ts k0).1 = 1)) && (decide (e8 ((a8 ts k0).2.2) = 0))) = true then
     (k0 < ts.length) ∧
     K (Value.iface 71 (Value.agg [zI ((a8 ts k0).2.1), st ((a8 ts k0).2.2)].toArray)) (k0 + 1) op0 ts B0
    else
     (k0 < ts.length) ∧
     (if (isM ts k0 ([123] : List UInt8)) = true then
      (POK ts k0 op0 ∧ ([123] : List UInt8) ≠ []) ∧
      (∀ (k_2' : Nat) (op_2' : Int), l9 ts (k0, op0) ([123] : List UInt8) = .ok (k_2', op_2') →
       (EAt te fre ts k_2' 0) ∧
       (POK ts k_2' op_2' ∧ 0 ≤ (0 : Int) ∧ (0 : Int) ≤ 5) ∧
       (∀ (v_1' : Value) (e_1' : Ex) (k_3' : Nat) (op_3' : Int) (B_2' : List (Nat × Obj)), ExR (sE ts 0 (k_2', op_2')) B0 v_1' e_1' k_3' op_3' B_2' →
        (POK ts k_3' op_3' ∧ ([125] : List UInt8) ≠ []) ∧
        (∀ (k_5' : Nat) (op_5' : Int), n3 ts (k_3', op_3') ([125] : List UInt8) = .ok (k_5', op_5') →
         (v_1'.oneCell' = true) ∧
         K (Value.iface 76 (Value.agg [zI ((a8 ts k0).2.1), v_1'].toArray)) k_5' op_5' ts B_2') ∧
        (∀ (ec_3' : Int) (ep_3' : Int), n3 ts (k_3', op_3') ([125] : List UInt8) = .error (ec_3', ep_3') →
         KP (Value.iface 26 (Value.agg [zI ec_3', zI ep_3', st []].toArray)) k_3' op_3' ts B_2')) ∧
       (∀ (ec_2' : Int) (ep_2' : Int) (k_4' : Nat) (op_4' : Int) (B_3' : List (Nat × Obj)), ExP (sE ts 0 (k_2', op_2')) ts ec_2' ep_2' k_4' op_4' B_3' →
        KP (Value.iface 26 (Value.agg [zI ec_2', zI ep_2', st []].toArray)) k_4' op_4' ts B_3')) ∧
      (∀ (ec_1' : Int) (ep_1' : Int), l9 ts (k0, op0) ([123] : List UInt8) = .error (ec_1', ep_1') →
       KP (Value.iface 26 (Value.agg [zI ec_1', zI ep_1', st []].toArray)) k0 op0 ts B0)
     else
      (k0 < ts.length) ∧
      (if (isM ts k0 ([40] : List UInt8)) = true then
       (POK ts k0 op0 ∧ ([40] : List UInt8) ≠ []) ∧
       (∀ (k_6' : Nat) (op_6' : Int), l9 ts (k0, op0) ([40] : List UInt8) = .ok (k_6', op_6') →
        (EAt te fre ts k_6' 0) ∧
        (POK ts k_6' op_6' ∧ 0 ≤ (0 : Int) ∧ (0 : Int) ≤ 5) ∧
        (∀ (v_2' : Value) (e_2' : Ex) (k_7' : Nat) (op_7' : Int) (B_4' : List (Nat × Obj)), ExR (sE ts 0 (k_6', op_6')) B0 v_2' e_2' k_7' op_7' B_4' →
         (POK ts k_7' op_7' ∧ ([41] : List UInt8) ≠ []) ∧
         (∀ (k_9' : Nat) (op_9' : Int), n3 ts (k_7', op_7') ([41] : List UInt8) = .ok (k_9', op_9') →
          K v_2' k_9' op_9' ts B_4') ∧
         (∀ (ec_6' : Int) (ep_6' : Int), n3 ts (k_7', op_7') ([41] : List UInt8) = .error (ec_6', ep_6') →
          KP (Value.iface 26 (Value.agg [zI ec_6', zI ep_6', st []].toArray)) k_7' op_7' ts B_4')) ∧
        (∀ (ec_5' : Int) (ep_5' : Int) (k_8' : Nat) (op_8' : Int) (B_5' : List (Nat × Obj)), ExP (sE ts 0 (k_6', op_6')) ts ec_5' ep_5' k_8' op_8' B_5' →
         KP (Value.iface 26 (Value.agg [zI ec_5', zI ep_5', st []].toArray)) k_8' op_8' ts B_5')) ∧
       (∀ (ec_4' : Int) (ep_4' : Int), l9 ts (k0, op0) ([40] : List UInt8) = .error (ec_4', ep_4') →
        KP (Value.iface 26 (Value.agg [zI ec_4', zI ep_4', st []].toArray)) k0 op0 ts B0)
      else
       (k0 < ts.length) ∧
       KP (Value.iface 26 (Value.agg [zI 60, zI ((a8 ts k0).2.1), st []].toArray)) k0 op0 ts B0))))))
theorem ar1 (pb : Nat) (wa : Value) (te : TypeId) (fre : Nat × Nat) (ts : List Tok) (k0 : Nat) (op0 : Int) (B0 : List (Nat × Obj)) (K : Value → Nat → Int → (List Tok) → (List (Nat × Obj)) → Prop) (KP : Value → Nat → Int → (List Tok) → (List (Nat × Obj)) → Prop) (h : ajs te fre ts k0 op0 B0 K KP) :
  d9 Tryd.prog 76 [zP pb] [(0, .cells [st ([124] : List UInt8), st ([38, 45] : List UInt8), st ([62, 62] : List UInt8), st ([126] : List UInt8), st ([46] : List UInt8)].toArray te fre)] [HA.blk pb (.cells [j7 wa 3 k0, zI op0].toArray 55 (0, 0)), HA.row wa 102 3 ts.length (ts.flatMap g9), pool B0] (fun o => (∃ (v_3' : Value) (d_1'_0 : Nat) (d_1'_1 : Int) (d : List Tok) (D : List (Nat × Obj)), K v_3' d_1'_0 d_1'_1 d D ∧ o = .ret (v_3') [HA.blk pb (.cells [j7 wa 3 d_1'_0, zI d_1'_1].toArray 55 (0, 0)), HA.row wa 102 3 d.length (d.flatMap g9), pool D]) ∨ (∃ (pv : Value) (d_1'_0 : Nat) (d_1'_1 : Int) (d : List Tok) (D : List (Nat × Obj)), KP pv d_1'_0 d_1'_1 d D ∧ o = .pan [{ v := pv, recovered := false }] [HA.blk pb (.cells [j7 wa 3 d_1'_0, zI d_1'_1].toArray 55 (0, 0)), HA.row wa 102 3 d.length (d.flatMap g9), pool D])) := by
 unfold ajs at h
 refine b9 (n := 88) (L0 := [(0, zP pb)]) Tryd.func76 rfl rfl rfl rfl (fun w0 M Q hE => ?_)
 refine a7 (fun _ hK => ?_)
 refine a6 ?_
 refine wA ?_
 refine WL.nil ?_
 refine kg (hK [(0, zP pb)] _ ?_)
 refine a7 (fun _ hK_1' => ?_)
 refine a6 ?_
 refine wm ?_
 obtain ⟨o, h⟩ := h
 refine WL.call u7 rfl (t7 pb wa ts k0 op0 o) rfl trivial rfl rfl ?_
 refine WL.make (MV.alloc r9) rfl rfl rfl (fun b => ?_)
 refine WL.storeW (vs := [zI ((a8 ts k0).1), zI ((a8 ts k0).2.1), st ((a8 ts k0).2.2)]) 0 rfl rfl rfl rfl rfl r8 rfl rfl rfl ?_
 refine WL.nil ?_
 refine kg (hK_1' [(0, zP pb), (3, zP b)] _ ?_)
 refine a7 (fun _ hK_2' => ?_)
 refine b8 ?_
 refine a7 (fun _ hK_3' => ?_)
 refine a6 ?_
 refine wv (OV.fieldAddr0 rfl w5) ?_
 refine wv (OV.load rfl (At.own 0 rfl) rfl b6) ?_
 refine wv (OV.eql rfl rfl) ?_
 refine wA ?_
 refine WL.nil ?_
 refine kg (hK_3' [(0, zP pb), (3, zP b), (8, zB (decide ((a8 ts k0).1 = 2)))] _ ?_)
 refine b5 (b := decide ((a8 ts k0).1 = 2)) rfl (fun hb => ?_) (fun hb => ?_)
 ·replace h := j4 h hb
  refine a7 (fun _ hK_4' => ?_)
  refine a6 ?_
  refine wm ?_
  obtain ⟨o_1', h⟩ := h
  refine WL.pick (H' := [HA.blk pb (.cells [j7 wa 3 k0, zI op0].toArray 55 (0, 0)), HA.row wa 102 3 ts.length (ts.flatMap g9), HA.blk b (.cells [zI ((a8 ts k0).1), zI ((a8 ts k0).2.1), st ((a8 ts k0).2.2)].toArray 102 (0, 0)), pool B0]) [1, 2, 0, 3] rfl rfl ?_
  refine WL.call x6 rfl (w8 pb wa ts k0 op0 o_1') rfl trivial rfl rfl ?_
  refine WL.nil ?_
  refine kg (hK_4' [(3, zP b)] _ ?_)
  refine a7 (fun _ hK_5' => ?_)
  refine a6 ?_
  refine wv (OV.fieldAddr0 rfl o7) ?_
  refine wv (OV.load rfl (At.own 2 rfl) rfl b6) ?_
  refine wv (OV.fieldAddr0 rfl k7) ?_
  refine wv (OV.load rfl (At.own 2 rfl) rfl c6) ?_
  refine wv (OV.build rfl (cs := [zI ((a8 ts k0).2.1), st ((a8 ts k0).2.2)]) rfl) ?_
  refine wv (OV.iface rfl amm) ?_
  refine wA ?_
  refine WL.nil ?_
  refine kg (hK_5' [(2, Value.iface 73 (Value.agg [zI ((a8 ts k0).2.1), st ((a8 ts k0).2.2)].toArray))] _ ?_)
  refine c7 ?_
  exact hE.ret [0, 1, 3] rfl rfl (.inl ⟨_, _, _, _, _, h, rfl⟩) (e9.of1 rfl (RV.tmp rfl))
 ·replace h := j5 h hb
  refine a7 (fun _ hK_6' => ?_)
  refine a6 ?_
  refine wv (OV.fieldAddr0 rfl w5) ?_
  refine wv (OV.load rfl (At.own 0 rfl) rfl b6) ?_
  refine wv (OV.eql rfl rfl) ?_
  refine wA ?_
  refine WL.nil ?_
  refine kg (hK_6' [(0, zP pb), (3, zP b), (20, zB (decide ((a8 ts k0).1 = 3)))] _ ?_)
  refine b5 (b := decide ((a8 ts k0).1 = 3)) rfl (fun hb => ?_) (fun hb => ?_)
  ·replace h := j4 h hb
   refine a7 (fun _ hK_7' => ?_)
   refine a6 ?_
   refine wm ?_
   obtain ⟨o_2', h⟩ := h
   refine WL.pick (H' := [HA.blk pb (.cells [j7 wa 3 k0, zI op0].toArray 55 (0, 0)), HA.row wa 102 3 ts.length (ts.flatMap g9), HA.blk b (.cells [zI ((a8 ts k0).1), zI ((a8 ts k0).2.1), st ((a8 ts k0).2.2)].toArray 102 (0, 0)), pool B0]) [1, 2, 0, 3] rfl rfl ?_
   refine WL.call x6 rfl (w8 pb wa ts k0 op0 o_2') rfl trivial rfl rfl ?_
   refine WL.nil ?_
   refine kg (hK_7' [(3, zP b)] _ ?_)
   refine a7 (fun _ hK_8' => ?_)
   refine a6 ?_
   refine wv (OV.fieldAddr0 rfl o7) ?_
   refine wv (OV.load rfl (At.own 2 rfl) rfl b6) ?_
   refine wv (OV.fieldAddr0 rfl k7) ?_
   refine wv (OV.load rfl (At.own 2 rfl) rfl c6) ?_
   refine wv (OV.build rfl (cs := [zI ((a8 ts k0).2.1), st ((a8 ts k0).2.2)]) rfl) ?_
   refine wv (OV.iface rfl amz) ?_
   refine wA ?_
   refine WL.nil ?_
   refine kg (hK_8' [(2, Value.iface 74 (Value.agg [zI ((a8 ts k0).2.1), st ((a8 ts k0).2.2)].toArray))] _ ?_)
   refine c7 ?_
   exact hE.ret [0, 1, 3] rfl rfl (.inl ⟨_, _, _, _, _, h, rfl⟩) (e9.of1 rfl (RV.tmp rfl))
  ·replace h := j5 h hb
   refine a7 (fun _ hK_9' => ?_)
   refine a6 ?_
   refine wv (OV.fieldAddr0 rfl w5) ?_
   refine wv (OV.load rfl (At.own 0 rfl) rfl b6) ?_
   refine wv (OV.eql rfl rfl) ?_
   refine wm ?_
   refine WL.cut 5 [(0, zP pb), (3, zP b), (41, zB ((decide ((a8 ts k0).1 = 1)) && (decide (0 < e8 ((a8 ts k0).2.2)))))] ?_ (fun K0_10' hK_10' => ?_)
   rotate_left
   ·refine WL.split (decide ((a8 ts k0).1 = 1)) (fun hb => ?_) (fun hb => ?_)
    ·refine WL.set 36 rfl (congrArg zB hb) ?_
     refine wv (OV.fieldAddr0 rfl k7) ?_
     refine wv (OV.load rfl (At.own 0 rfl) rfl c6) ?_
     refine WL.call (A := []) ad9 rfl (ada ((a8 ts k0).2.2)) rfl trivial rfl rfl ?_
     refine wv (OV.gtr rfl rfl) ?_
     refine wv (OV.pickT rfl rfl) ?_
     refine WL.set 41 rfl (bT (v := decide (0 < e8 ((a8 ts k0).2.2))) hb) ?_
     exact WL.end_ (kg hK_10')
    ·refine WL.set 36 rfl (congrArg zB hb) ?_
     refine wk ?_
     refine wk ?_
     refine wk ?_
     refine wk ?_
     refine wv (OV.pickF rfl rfl) ?_
     refine WL.set 41 rfl (bF (v := decide (0 < e8 ((a8 ts k0).2.2))) hb) ?_
     exact WL.end_ (kg hK_10')
   refine wA ?_
   refine WL.nil ?_
   refine kg (hK_9' [(0, zP pb), (3, zP b), (32, zB ((decide ((a8 ts k0).1 = 1)) && (decide (0 < e8 ((a8 ts k0).2.2)))))] _ ?_)
   refine b5 (b := (decide ((a8 ts k0).1 = 1)) && (decide (0 < e8 ((a8 ts k0).2.2)))) rfl (fun hb => ?_) (fun hb => ?_)
   ·replace h := j4 h hb
    refine a7 (fun _ hK_11' => ?_)
    refine a6 ?_
    refine wm ?_
    obtain ⟨o_4', h⟩ := h
    obtain ⟨o_5', h⟩ := h
    refine WL.pick (H' := [HA.blk pb (.cells [j7 wa 3 k0, zI op0].toArray 55 (0, 0)), HA.row wa 102 3 ts.length (ts.flatMap g9), pool B0, HA.blk b (.cells [zI ((a8 ts k0).1), zI ((a8 ts k0).2.1), st ((a8 ts k0).2.2)].toArray 102 (0, 0))]) [1, 2, 3, 0] rfl rfl ?_
    refine WL.callS ao2 rfl (o_4' pb wa op0 B0 o_5') rfl ⟨.inr (List.mem_of_getElem? (i := 0) rfl), trivial⟩ rfl rfl (fun v H' hS => ?_) (fun c H' hS => ?_)
    ·rcases hS with ⟨_, e, k, op, B, hc, ho⟩ | ⟨ec, ep, k_1', op_1', B_1', hc, ho⟩ <;> cases ho
     replace h := h.1 v e k op B hc
     refine wA ?_
     refine WL.nil ?_
     refine kg (hK_11' [(2, v)] _ ?_)
     refine c7 ?_
     exact hE.ret [0, 1, 2] rfl rfl (.inl ⟨_, _, _, _, _, h, rfl⟩) (e9.of1 rfl (RV.tmp rfl))
    ·rcases hS with ⟨_, e, k, op, B, hc, ho⟩ | ⟨ec, ep, k_1', op_1', B_1', hc, ho⟩ <;> cases ho
     replace h := h.2 ec ep k_1' op_1' B_1' hc
     exact hE.pan [0, 1, 2] rfl rfl (.inr ⟨_, _, _, _, _, h, rfl⟩)
   ·replace h := j5 h hb
    refine a7 (fun _ hK_12' => ?_)
    refine a6 ?_
    refine wv (OV.fieldAddr0 rfl w5) ?_
    refine wv (OV.load rfl (At.own 0 rfl) rfl b6) ?_
    refine wv (OV.eql rfl rfl) ?_
    refine wm ?_
    refine WL.cut 5 [(0, zP pb), (3, zP b), (53, zB ((decide ((a8 ts k0).1 = 1)) && (decide (e8 ((a8 ts k0).2.2) = 0))))] ?_ (fun K0_13' hK_13' => ?_)
    rotate_left
    ·refine WL.split (decide ((a8 ts k0).1 = 1)) (fun hb => ?_) (fun hb => ?_)
     ·refine WL.set 48 rfl (congrArg zB hb) ?_
      refine wv (OV.fieldAddr0 rfl k7) ?_
      refine wv (OV.load rfl (At.own 0 rfl) rfl c6) ?_
      refine WL.call (A := []) ad9 rfl (ada ((a8 ts k0).2.2)) rfl trivial rfl rfl ?_
      refine wv (OV.eql rfl rfl) ?_
      refine wv (OV.pickT rfl rfl) ?_
      refine WL.set 53 rfl (bT (v := decide (e8 ((a8 ts k0).2.2) = 0)) hb) ?_
      exact WL.end_ (kg hK_13')
     ·refine WL.set 48 rfl (congrArg zB hb) ?_
      refine wk ?_
      refine wk ?_
      refine wk ?_
      refine wk ?_
      refine wv (OV.pickF rfl rfl) ?_
      refine WL.set 53 rfl (bF (v := decide (e8 ((a8 ts k0).2.2) = 0)) hb) ?_
      exact WL.end_ (kg hK_13')
    refine wA ?_
    refine WL.nil ?_
    refine kg (hK_12' [(0, zP pb), (3, zP b), (44, zB ((decide ((a8 ts k0).1 = 1)) && (decide (e8 ((a8 ts k0).2.2) = 0))))] _ ?_)
    refine b5 (b := (decide ((a8 ts k0).1 = 1)) && (decide (e8 ((a8 ts k0).2.2) = 0))) rfl (fun hb => ?_) (fun hb => ?_)
    ·replace h := j4 h hb
     refine a7 (fun _ hK_14' => ?_)
     refine a6 ?_
     refine wm ?_
     obtain ⟨o_7', h⟩ := h
     refine WL.pick (H' := [HA.blk pb (.cells [j7 wa 3 k0, zI op0].toArray 55 (0, 0)), HA.row wa 102 3 ts.length (ts.flatMap g9), HA.blk b (.cells [zI ((a8 ts k0).1), zI ((a8 ts k0).2.1), st ((a8 ts k0).2.2)].toArray 102 (0, 0)), pool B0]) [1, 2, 0, 3] rfl rfl ?_
     refine WL.call x6 rfl (w8 pb wa ts k0 op0 o_7') rfl trivial rfl rfl ?_
     refine WL.nil ?_
     refine kg (hK_14' [(3, zP b)] _ ?_)
     refine a7 (fun _ hK_15' => ?_)
     refine a6 ?_
     refine wv (OV.fieldAddr0 rfl o7) ?_
     refine wv (OV.load rfl (At.own 2 rfl) rfl b6) ?_
     refine wv (OV.fieldAddr0 rfl k7) ?_
     refine wv (OV.load rfl (At.own 2 rfl) rfl c6) ?_
     refine wv (OV.build rfl (cs := [zI ((a8 ts k0).2.1), st ((a8 ts k0).2.2)]) rfl) ?_
     refine wv (OV.iface rfl am2) ?_
     refine wA ?_
     refine WL.nil ?_
     refine kg (hK_15' [(2, Value.iface 71 (Value.agg [zI ((a8 ts k0).2.1), st ((a8 ts k0).2.2)].toArray))] _ ?_)
     refine c7 ?_
     exact hE.ret [0, 1, 3] rfl rfl (.inl ⟨_, _, _, _, _, h, rfl⟩) (e9.of1 rfl (RV.tmp rfl))
    ·replace h := j5 h hb
     refine a7 (fun _ hK_16' => ?_)
     refine a6 ?_
     refine wm ?_
     obtain ⟨o_8', h⟩ := h
     refine WL.pick (H' := [HA.blk pb (.cells [j7 wa 3 k0, zI op0].toArray 55 (0, 0)), HA.row wa 102 3 ts.length (ts.flatMap g9), HA.blk b (.cells [zI ((a8 ts k0).1), zI ((a8 ts k0).2.1), st ((a8 ts k0).2.2)].toArray 102 (0, 0)), pool B0]) [1, 2, 0, 3] rfl rfl ?_
     refine WL.call aao rfl (ac8 pb wa ts k0 op0 ([123] : List UInt8) o_8') rfl trivial rfl rfl ?_
     refine wA ?_
     refine WL.nil ?_
     refine kg (hK_16' [(0, zP pb), (3, zP b), (62, zB (isM ts k0 ([123] : List UInt8)))] _ ?_)
     refine b5 (b := isM ts k0 ([123] : List UInt8)) rfl (fun hb => ?_) (fun hb => ?_)
     ·replace h := j4 h hb
      refine a7 (fun _ hK_17' => ?_)
      refine a6 ?_
      refine wm ?_
      obtain ⟨o_9', h⟩ := h
      refine WL.callS af0 rfl (ae1 pb wa ts k0 op0 ([123] : List UInt8) o_9') rfl trivial rfl rfl (fun r H' hS => ?_) (fun c H' hS => ?_)
      ·rcases hS with ⟨k_2', op_2', hc, ho⟩ | ⟨ec_1', ep_1', hc, ho⟩ <;> cases ho
       replace h := h.1 k_2' op_2' hc
       refine WL.nil ?_
       refine kg (hK_17' [(0, zP pb), (3, zP b)] _ ?_)
       refine a7 (fun _ hK_18' => ?_)
       refine a6 ?_
       refine wm ?_
       obtain ⟨o_10', h⟩ := h
       obtain ⟨o_11', h⟩ := h
       refine WL.pick (H' := [HA.blk pb (.cells [j7 wa 3 k_2', zI op_2'].toArray 55 (0, 0)), HA.row wa 102 3 ts.length (ts.flatMap g9), pool B0, HA.blk b (.cells [zI ((a8 ts k0).1), zI ((a8 ts k0).2.1), st ((a8 ts k0).2.2)].toArray 102 (0, 0))]) [0, 1, 3, 2] rfl rfl ?_
       refine WL.callS aap rfl (o_10' pb wa op_2' B0 o_11') rfl ⟨.inr (List.mem_of_getElem? (i := 0) rfl), trivial⟩ rfl rfl (fun v_1' H' hS => ?_) (fun c H' hS => ?_)
       ·rcases hS with ⟨_, e_1', k_3', op_3', B_2', hc, ho⟩ | ⟨ec_2', ep_2', k_4', op_4', B_3', hc, ho⟩ <;> cases ho
        replace h := h.1 v_1' e_1' k_3' op_3' B_2' hc
        refine wA ?_
        refine WL.nil ?_
        refine kg (hK_18' [(0, zP pb), (3, zP b), (4, v_1')] _ ?_)
        refine a7 (fun _ hK_19' => ?_)
        refine a6 ?_
        refine wm ?_
        obtain ⟨o_12', h⟩ := h
        refine WL.callS afw rfl (aes pb wa ts k_3' op_3' ([125] : List UInt8) o_12') rfl trivial rfl rfl (fun r H' hS => ?_) (fun c H' hS => ?_)
        ·rcases hS with ⟨k_5', op_5', hc, ho⟩ | ⟨ec_3', ep_3', hc, ho⟩ <;> cases ho
         replace h := h.1 k_5' op_5' hc
         refine WL.nil ?_
         refine kg (hK_19' [(3, zP b), (4, v_1')] _ ?_)
         refine a7 (fun _ hK_20' => ?_)
         refine a6 ?_
         refine wv (OV.fieldAddr0 rfl o7) ?_
         refine wv (OV.load rfl (At.own 3 rfl) rfl b6) ?_
         refine wm ?_
         obtain ⟨o_13', h⟩ := h
         refine wv (OV.buildC (qs := [(0, [zI ((a8 ts k0).2.1)]), (1, [v_1'])]) (cs := [zI ((a8 ts k0).2.1), v_1']) rfl ⟨rfl, rfl, ⟨rfl, x8 o_13', trivial⟩⟩ rfl) ?_
         refine wv (OV.iface rfl amp) ?_
         refine wA ?_
         refine WL.nil ?_
         refine kg (hK_20' [(2, Value.iface 76 (Value.agg [zI ((a8 ts k0).2.1), v_1'].toArray))] _ ?_)
         refine c7 ?_
         exact hE.ret [0, 1, 2] rfl rfl (.inl ⟨_, _, _, _, _, h, rfl⟩) (e9.of1 rfl (RV.tmp rfl))
        ·rcases hS with ⟨k_5', op_5', hc, ho⟩ | ⟨ec_3', ep_3', hc, ho⟩ <;> cases ho
         replace h := h.2 ec_3' ep_3' hc
         exact hE.pan [0, 1, 2] rfl rfl (.inr ⟨_, _, _, _, _, h, rfl⟩)
       ·rcases hS with ⟨_, e_1', k_3', op_3', B_2', hc, ho⟩ | ⟨ec_2', ep_2', k_4', op_4', B_3', hc, ho⟩ <;> cases ho
        replace h := h.2 ec_2' ep_2' k_4' op_4' B_3' hc
        exact hE.pan [0, 1, 2] rfl rfl (.inr ⟨_, _, _, _, _, h, rfl⟩)
      ·rcases hS with ⟨k_2', op_2', hc, ho⟩ | ⟨ec_1', ep_1', hc, ho⟩ <;> cases ho
       replace h := h.2 ec_1' ep_1' hc
       exact hE.pan [0, 1, 3] rfl rfl (.inr ⟨_, _, _, _, _, h, rfl⟩)
     ·replace h := j5 h hb
      refine a7 (fun _ hK_21' => ?_)
      refine a6 ?_
      refine wm ?_
      obtain ⟨o_14', h⟩ := h
      refine WL.call aao rfl (ac8 pb wa ts k0 op0 ([40] : List UInt8) o_14') rfl trivial rfl rfl ?_
      refine wA ?_
      refine WL.nil ?_
      refine kg (hK_21' [(0, zP pb), (76, zB (isM ts k0 ([40] : List UInt8)))] _ ?_)
      refine b5 (b := isM ts k0 ([40] : List UInt8)) rfl (fun hb => ?_) (fun hb => ?_)
      ·replace h := j4 h hb
       refine a7 (fun _ hK_22' => ?_)
       refine a6 ?_
       refine wm ?_
       obtain ⟨o_15', h⟩ := h
       refine WL.callS af0 rfl (ae1 pb wa ts k0 op0 ([40] : List UInt8) o_15') rfl trivial rfl rfl (fun r H' hS => ?_) (fun c H' hS => ?_)
       ·rcases hS with ⟨k_6', op_6', hc, ho⟩ | ⟨ec_4', ep_4', hc, ho⟩ <;> cases ho
        replace h := h.1 k_6' op_6' hc
        refine WL.nil ?_
        refine kg (hK_22' [(0, zP pb)] _ ?_)
        refine a7 (fun _ hK_23' => ?_)
        refine a6 ?_
        refine wm ?_
        obtain ⟨o_16', h⟩ := h
        obtain ⟨o_17', h⟩ := h
        refine WL.pick (H' := [HA.blk pb (.cells [j7 wa 3 k_6', zI op_6'].toArray 55 (0, 0)), HA.row wa 102 3 ts.length (ts.flatMap g9), pool B0, HA.blk b (.cells [zI ((a8 ts k0).1), zI ((a8 ts k0).2.1), st ((a8 ts k0).2.2)].toArray 102 (0, 0))]) [0, 1, 3, 2] rfl rfl ?_
        refine WL.callS aap rfl (o_16' pb wa op_6' B0 o_17') rfl ⟨.inr (List.mem_of_getElem? (i := 0) rfl), trivial⟩ rfl rfl (fun v_2' H' hS => ?_) (fun c H' hS => ?_)
        ·rcases hS with ⟨_, e_2', k_7', op_7', B_4', hc, ho⟩ | ⟨ec_5', ep_5', k_8', op_8', B_5', hc, ho⟩ <;> cases ho
         replace h := h.1 v_2' e_2' k_7' op_7' B_4' hc
         refine wA ?_
         refine WL.nil ?_
         refine kg (hK_23' [(0, zP pb), (5, v_2')] _ ?_)
         refine a7 (fun _ hK_24' => ?_)
         refine a6 ?_
         refine wm ?_
         obtain ⟨o_18', h⟩ := h
         refine WL.callS afw rfl (aes pb wa ts k_7' op_7' ([41] : List UInt8) o_18') rfl trivial rfl rfl (fun r H' hS => ?_) (fun c H' hS => ?_)
         ·rcases hS with ⟨k_9', op_9', hc, ho⟩ | ⟨ec_6', ep_6', hc, ho⟩ <;> cases ho
          replace h := h.1 k_9' op_9' hc
          refine WL.nil ?_
          refine kg (hK_24' [(5, v_2')] _ ?_)
          refine a7 (fun _ hK_25' => ?_)
          refine a6 ?_
          refine wm ?_
          refine wA ?_
          refine WL.nil ?_
          refine kg (hK_25' [(2, v_2')] _ ?_)
          refine c7 ?_
          exact hE.ret [0, 1, 2] rfl rfl (.inl ⟨_, _, _, _, _, h, rfl⟩) (e9.of1 rfl (RV.tmp rfl))
         ·rcases hS with ⟨k_9', op_9', hc, ho⟩ | ⟨ec_6', ep_6', hc, ho⟩ <;> cases ho
          replace h := h.2 ec_6' ep_6' hc
          exact hE.pan [0, 1, 2] rfl rfl (.inr ⟨_, _, _, _, _, h, rfl⟩)
        ·rcases hS with ⟨_, e_2', k_7', op_7', B_4', hc, ho⟩ | ⟨ec_5', ep_5', k_8', op_8', B_5', hc, ho⟩ <;> cases ho
         replace h := h.2 ec_5' ep_5' k_8' op_8' B_5' hc
         exact hE.pan [0, 1, 2] rfl rfl (.inr ⟨_, _, _, _, _, h, rfl⟩)
       ·rcases hS with ⟨k_6', op_6', hc, ho⟩ | ⟨ec_4', ep_4', hc, ho⟩ <;> cases ho
        replace h := h.2 ec_4' ep_4' hc
        exact hE.pan [0, 1, 3] rfl rfl (.inr ⟨_, _, _, _, _, h, rfl⟩)
      ·replace h := j5 h hb
       refine b7 ?_
       refine kg (hK_2' [(0, zP pb)] _ ?_)
       refine a7 (fun _ hK_26' => ?_)
       refine a6 ?_
       refine wm ?_
       obtain ⟨o_19', h⟩ := h
       refine WL.callS ach rfl (aa0 pb wa ts k0 op0 60 o_19') rfl trivial rfl rfl (fun r H' hS => by cases hS) (fun c H' hS => ?_)
       cases hS
       exact hE.pan [0, 1, 3] rfl rfl (.inr ⟨_, _, _, _, _, h, rfl⟩)
def ake (te : TypeId) (fre : Nat × Nat) (ts : List Tok) (k0 : Nat) (op0 : Int) (B0 : List (Nat × Obj)) (K : Value → Nat → Int → (List Tok) → (List (Nat × Obj)) → Prop) (KP : Value → Nat → Int → (List Tok) → (List (Nat × Obj)) → Prop) : Prop :=
 (k0 < ts.length) ∧
 (POK ts (k0 + 1) op0 ∧ ([40] : List UInt8) ≠ []) ∧
 (∀ (k : Nat) (op : Int), l9 ts (k0 + 1, op0) ([40] : List UInt8) = .ok (k, op) →
  ∃ (Inv : Int → Nat → Int → (List Value) → (List (Nat × Obj)) → Prop) (mu : Int → Nat → Int → (List Value) → (List (Nat × Obj)) → Nat),
   Inv 0 k op [] B0 ∧ ∀ (t18_1' : Int) (p_0_2' : Nat) (p_1_2' : Int) (l_1' : List Value) (c_1' : List (Nat × Obj)), Inv t18_1' p_0_2' p_1_2' l_1' c_1' →
    (if (decide (t18_1' < e8 ((a8 ts k0).2.2))) = true then
     ∃ (J0_2' : Nat → Int → Prop),
      (∀ (p_0_3' : Nat) (p_1_3' : Int), J0_2' p_0_3' p_1_3' →
       (EAt te fre ts p_0_3' 0) ∧
       (POK ts p_0_3' p_1_3' ∧ 0 ≤ (0 : Int) ∧ (0 : Int) ≤ 5) ∧
       (∀ (v_2' : Value) (e_2' : Ex) (k_8' : Nat) (op_8' : Int) (B_4' : List (Nat × Obj)), ExR (sE ts 0 (p_0_3', p_1_3')) c_1' v_2' e_2' k_8' op_8' B_4' →
        (v_2'.oneCell' = true) ∧
        (v_2'.oneCell' = true) ∧
        (((l_1'.length + 1) + (l_1'.length + 1) / 4 + 192) * 16 ≤ 281474976710656 ∧ l_1'.length + 1 ≤ 9223372036854775807) ∧
        (I64 (t18_1' + 1)) ∧
        Inv (t18_1' + 1) k_8' op_8' (l_1' ++ [v_2']) B_4' ∧ mu (t18_1' + 1) k_8' op_8' (l_1' ++ [v_2']) B_4' < mu t18_1' p_0_2' p_1_2' l_1' c_1') ∧
       (∀ (ec_6' : Int) (ep_6' : Int) (k_9' : Nat) (op_9' : Int) (B_5' : List (Nat × Obj)), ExP (sE ts 0 (p_0_3', p_1_3')) ts ec_6' ep_6' k_9' op_9' B_5' →
        KP (Value.iface 26 (Value.agg [zI ec_6', zI ep_6', st []].toArray)) k_9' op_9' ts B_5')) ∧
      (if (decide (0 < t18_1')) = true then
       (POK ts p_0_2' p_1_2' ∧ ([44] : List UInt8) ≠ []) ∧
       (∀ (k_10' : Nat) (op_10' : Int), n5 ts (p_0_2', p_1_2') ([44] : List UInt8) = .ok (k_10', op_10') →
        J0_2' k_10' op_10') ∧
       (∀ (ec_7' : Int) (ep_7' : Int), n5 ts (p_0_2', p_1_2') ([44] : List UInt8) = .error (ec_7', ep_7') →
        KP (Value.iface 26 (Value.agg [zI ec_7', zI ep_7', st []].toArray)) p_0_2' p_1_2' ts c_1')
      else
       J0_2' p_0_2' p_1_2')
    else
     (POK ts p_0_2' p_1_2' ∧ ([41] : List UInt8) ≠ []) ∧
     (∀ (k_11' : Nat) (op_11' : Int), n3 ts (p_0_2', p_1_2') ([41] : List UInt8) = .ok (k_11', op_11') →
      (0 < l_1'.length) ∧
      ∀ (w_3' : Value) (b_5' : Nat) (cs : List Value), abx w_3' 37 1 l_1'.length (l_1'.flatMap ab5) b_5' cs → K (Value.iface 83 (Value.agg [zI ((a8 ts k0).2.1), st ((a8 ts k0).2.2), w_3'].toArray)) k_11' op_11' ts ((b_5', .cells cs.toArray 37 (0, 0)) :: c_1')) ∧
     (∀ (ec_8' : Int) (ep_8' : Int), n3 ts (p_0_2', p_1_2') ([41] : List UInt8) = .error (ec_8', ep_8') →
      KP (Value.iface 26 (Value.agg [zI ec_8', zI ep_8', st []].toArray)) p_0_2' p_1_2' ts c_1'))) ∧
 (∀ (ec : Int) (ep : Int), l9 ts (k0 + 1, op0) ([40] : List UInt8) = .error (ec, ep) →
  KP (Value.iface 26 (Value.agg [zI ec, zI ep, st []].toArray)) (k0 + 1) op0 ts B0)
theorem ask (pb : Nat) (wa : Value) (te : TypeId) (fre : Nat × Nat) (ts : List Tok) (k0 : Nat) (op0 : Int) (B0 : List (Nat × Obj)) (K : Value → Nat → Int → (List Tok) → (List (Nat × Obj)) → Prop) (KP : Value → Nat → Int → (List Tok) → (List (Nat × Obj)) → Prop) (h : ake te fre ts k0 op0 B0 K KP) :
  d9 Tryd.prog 79 [zP pb] [(0, .cells [st ([124] : List UInt8), st ([38, 45] : List UInt8), st ([62, 62] : List UInt8), st ([126] : List UInt8), st ([46] : List UInt8)].toArray te fre)] [HA.blk pb (.cells [j7 wa 3 k0, zI op0].toArray 55 (0, 0)), HA.row wa 102 3 ts.length (ts.flatMap g9), pool B0] (fun o => (∃ (v_3' : Value) (d_1'_0 : Nat) (d_1'_1 : Int) (d : List Tok) (D : List (Nat × Obj)), K v_3' d_1'_0 d_1'_1 d D ∧ o = .ret (v_3') [HA.blk pb (.cells [j7 wa 3 d_1'_0, zI d_1'_1].toArray 55 (0, 0)), HA.row wa 102 3 d.length (d.flatMap g9), pool D]) ∨ (∃ (pv : Value) (d_1'_0 : Nat) (d_1'_1 : Int) (d : List Tok) (D : List (Nat × Obj)), KP pv d_1'_0 d_1'_1 d D ∧ o = .pan [{ v := pv, recovered := false }] [HA.blk pb (.cells [j7 wa 3 d_1'_0, zI d_1'_1].toArray 55 (0, 0)), HA.row wa 102 3 d.length (d.flatMap g9), pool D])) := by
 unfold ake at h
 refine b9 (n := 37) (L0 := [(0, zP pb)]) Tryd.func79 rfl rfl rfl rfl (fun w0 M Q hE => ?_)
 refine a7 (fun _ hK => ?_)
 refine a6 ?_
 refine wA ?_
 refine WL.nil ?_
 refine kg (hK [(0, zP pb)] _ ?_)
 refine a7 (fun _ hK_1' => ?_)
 refine a6 ?_
 refine wm ?_
 obtain ⟨o, h⟩ := h
 refine WL.call x6 rfl (w8 pb wa ts k0 op0 o) rfl trivial rfl rfl ?_
 refine WL.make (MV.alloc r9) rfl rfl rfl (fun b => ?_)
 refine WL.storeW (vs := [zI ((a8 ts k0).1), zI ((a8 ts k0).2.1), st ((a8 ts k0).2.2)]) 0 rfl rfl rfl rfl rfl r8 rfl rfl rfl ?_
 refine WL.nil ?_
 refine kg (hK_1' [(0, zP pb), (3, zP b)] _ ?_)
 refine a7 (fun _ hK_2' => ?_)
 refine a6 ?_
 refine wv (OV.fieldAddr0 rfl o7) ?_
 refine wv (OV.load rfl (At.own 0 rfl) rfl b6) ?_
 refine wv (OV.fieldAddr0 rfl k7) ?_
 refine wv (OV.load rfl (At.own 0 rfl) rfl c6) ?_
 refine wv (OV.build rfl (cs := [zI ((a8 ts k0).2.1), st ((a8 ts k0).2.2), Value.slice none 0 0]) rfl) ?_
 refine WL.make (MV.alloc ahf) rfl rfl rfl (fun b_1' => ?_)
 refine WL.nilRow 37 1 ab5 ?_
 refine WL.storeW (vs := [zI ((a8 ts k0).2.1), st ((a8 ts k0).2.2), Value.slice none 0 0]) 1 rfl rfl rfl rfl rfl ahi rfl rfl rfl ?_
 refine WL.nilRow 37 1 ab5 ?_
 refine WL.nil ?_
 refine kg (hK_2' [(0, zP pb), (3, zP b), (4, zP b_1')] _ ?_)
 refine a7 (fun _ hK_3' => ?_)
 refine a6 ?_
 refine wm ?_
 obtain ⟨o_1', h⟩ := h
 refine WL.pick (H' := [HA.blk pb (.cells [j7 wa 3 (k0 + 1), zI op0].toArray 55 (0, 0)), HA.row wa 102 3 ts.length (ts.flatMap g9), HA.row (Value.slice none 0 0) 37 1 ([] : List Value).length (([] : List Value).flatMap ab5), HA.row (Value.slice none 0 0) 37 1 ([] : List Value).length (([] : List Value).flatMap ab5), HA.blk b_1' (.cells [zI ((a8 ts k0).2.1), st ((a8 ts k0).2.2), Value.slice none 0 0].toArray 83 (0, 0)), HA.blk b (.cells [zI ((a8 ts k0).1), zI ((a8 ts k0).2.1), st ((a8 ts k0).2.2)].toArray 102 (0, 0)), pool B0]) [4, 5, 0, 1, 2, 3, 6] rfl rfl ?_
 refine WL.callS af0 rfl (ae1 pb wa ts (k0 + 1) op0 ([40] : List UInt8) o_1') rfl trivial rfl rfl (fun r H' hS => ?_) (fun c H' hS => ?_)
 ·rcases hS with ⟨k, op, hc, ho⟩ | ⟨ec, ep, hc, ho⟩ <;> cases ho
  replace h := h.1 k op hc
  refine WL.nil ?_
  refine kg (hK_3' [(0, zP pb), (3, zP b), (4, zP b_1')] _ ?_)
  refine a7 (fun _ hK_4' => ?_)
  refine a7 (fun _ hK_5' => ?_)
  refine a6 ?_
  refine wv (OV.fieldAddr0 rfl k7) ?_
  refine wv (OV.load rfl (At.own 5 rfl) rfl c6) ?_
  refine WL.call (A := []) ad9 rfl (ada ((a8 ts k0).2.2)) rfl trivial rfl rfl ?_
  refine wm ?_
  refine WL.nil ?_
  refine kg (hK_5' [(0, zP pb), (4, zP b_1'), (17, zI (e8 ((a8 ts k0).2.2))), (18, zI 0)] _ ?_)
  refine b8 ?_
  refine WC.pick (H' := [HA.blk pb (.cells [j7 wa 3 k, zI op].toArray 55 (0, 0)), HA.row wa 102 3 ts.length (ts.flatMap g9), HA.row (Value.slice none 0 0) 37 1 ([] : List Value).length (([] : List Value).flatMap ab5), HA.blk b_1' (.cells [zI ((a8 ts k0).2.1), st ((a8 ts k0).2.2), Value.slice none 0 0].toArray 83 (0, 0)), pool B0]) [0, 1, 2, 4, 6] rfl rfl ?_
  obtain ⟨Inv, mu, h0, hr⟩ := h
  refine v7 (S := Int × Nat × Int × Value × (List Value) × (List (Nat × Obj))) (fun σ => Inv σ.1 σ.2.1 σ.2.2.1 σ.2.2.2.2.1 σ.2.2.2.2.2) (fun σ => mu σ.1 σ.2.1 σ.2.2.1 σ.2.2.2.2.1 σ.2.2.2.2.2) (fun σ => [(0, zP pb), (4, zP b_1'), (17, zI (e8 ((a8 ts k0).2.2))), (18, zI σ.1)]) (fun σ => [HA.blk pb (.cells [j7 wa 3 σ.2.1, zI σ.2.2.1].toArray 55 (0, 0)), HA.row wa 102 3 ts.length (ts.flatMap g9), HA.row σ.2.2.2.1 37 1 σ.2.2.2.2.1.length (σ.2.2.2.2.1.flatMap ab5), HA.blk b_1' (.cells [zI ((a8 ts k0).2.1), st ((a8 ts k0).2.2), σ.2.2.2.1].toArray 83 (0, 0)), pool σ.2.2.2.2.2]) (0, k, op, Value.slice none 0 0, [], B0) h0 ⟨rfl, rfl, rfl, rfl, trivial⟩ rfl ?_
  rintro ⟨t18_1', p_0_2', p_1_2', w_3', l_1', c_1'⟩ hi K0_20' hK_20'
  have h := hr t18_1' p_0_2' p_1_2' l_1' c_1' hi
  show WC _ _ _ _ [(0, zP pb), (4, zP b_1'), (17, zI (e8 ((a8 ts k0).2.2))), (18, zI t18_1')] [HA.blk pb (.cells [j7 wa 3 p_0_2', zI p_1_2'].toArray 55 (0, 0)), HA.row wa 102 3 ts.length (ts.flatMap g9), HA.row w_3' 37 1 l_1'.length (l_1'.flatMap ab5), HA.blk b_1' (.cells [zI ((a8 ts k0).2.1), st ((a8 ts k0).2.2), w_3'].toArray 83 (0, 0)), pool c_1']
  refine a7 (fun _ hK_21' => ?_)
  refine a6 ?_
  refine wv (OV.lss rfl rfl) ?_
  refine WL.nil ?_
  refine kg (hK_21' [(0, zP pb), (4, zP b_1'), (17, zI (e8 ((a8 ts k0).2.2))), (18, zI t18_1'), (19, zB (decide (t18_1' < e8 ((a8 ts k0).2.2))))] _ ?_)
  refine a7 (fun _ hK_22' => ?_)
  refine b5 (b := decide (t18_1' < e8 ((a8 ts k0).2.2))) rfl (fun hb => ?_) (fun hb => ?_)
  ·replace h := j4 h hb
   refine b7 ?_
   refine kg (hK_22' [(0, zP pb), (4, zP b_1'), (17, zI (e8 ((a8 ts k0).2.2))), (18, zI t18_1')] _ ?_)
   refine a7 (fun _ hK_23' => ?_)
   refine b8 ?_
   refine a7 (fun _ hK_24' => ?_)
   refine a6 ?_
   refine wm ?_
   refine wA ?_
   refine WL.nil ?_
   refine kg (hK_24' [(0, zP pb), (4, zP b_1'), (5, zI t18_1'), (17, zI (e8 ((a8 ts k0).2.2))), (18, zI t18_1')] _ ?_)
   obtain ⟨J0_2', hJ_2', h⟩ := h
   refine p5 (X := Nat × Int) (fun σ => J0_2' σ.1 σ.2) (fun σ => [(0, zP pb), (4, zP b_1'), (17, zI (e8 ((a8 ts k0).2.2))), (18, zI t18_1')]) (fun σ => [HA.blk pb (.cells [j7 wa 3 σ.1, zI σ.2].toArray 55 (0, 0)), HA.row wa 102 3 ts.length (ts.flatMap g9), HA.row w_3' 37 1 l_1'.length (l_1'.flatMap ab5), HA.blk b_1' (.cells [zI ((a8 ts k0).2.1), st ((a8 ts k0).2.2), w_3'].toArray 83 (0, 0)), pool c_1']) ?_ (fun K0_26' hK_26' => ?_)
   ·rintro ⟨p_0_3', p_1_3'⟩ hj
    replace h := hJ_2' p_0_3' p_1_3' hj
    show WC _ _ _ _ [(0, zP pb), (4, zP b_1'), (17, zI (e8 ((a8 ts k0).2.2))), (18, zI t18_1')] [HA.blk pb (.cells [j7 wa 3 p_0_3', zI p_1_3'].toArray 55 (0, 0)), HA.row wa 102 3 ts.length (ts.flatMap g9), HA.row w_3' 37 1 l_1'.length (l_1'.flatMap ab5), HA.blk b_1' (.cells [zI ((a8 ts k0).2.1), st ((a8 ts k0).2.2), w_3'].toArray 83 (0, 0)), pool c_1']
    refine aht 3 [3] [HA.blk b_1' (.cells [zI ((a8 ts k0).2.1), st ((a8 ts k0).2.2), w_3'].toArray 83 (0, 0))] rfl rfl j3 (by kernel_rfl) (fun T_2' hT_2' => ?_)
    refine TW.val (OV.fieldAddr0 rfl ab4) rfl rfl rfl ?_
    refine TW.val (OV.load rfl (At.own 0 rfl) rfl ahm) rfl rfl rfl ?_
    refine TW.val (OV.move rfl) rfl rfl rfl ?_
    refine TW.nil (hT_2' _ ?_)
    obtain ⟨o_16', h⟩ := h
    obtain ⟨o_17', h⟩ := h
    refine WLX.pick (H' := [HA.blk pb (.cells [j7 wa 3 p_0_3', zI p_1_3'].toArray 55 (0, 0)), HA.row wa 102 3 ts.length (ts.flatMap g9), pool c_1', HA.row w_3' 37 1 l_1'.length (l_1'.flatMap ab5), HA.blk b_1' (.cells [zI ((a8 ts k0).2.1), st ((a8 ts k0).2.2), w_3'].toArray 83 (0, 0))]) [0, 1, 4, 2, 3] rfl rfl ?_
    refine WLX.callS [1] rfl (EN.fn aap rfl) rfl (o_16' pb wa p_1_3' c_1' o_17') rfl rfl ⟨.inr (List.mem_of_getElem? (i := 0) rfl), trivial⟩ rfl rfl (fun v_2' H' hS => ?_) (fun c H' hS => ?_)
    ·rcases hS with ⟨_, e_2', k_8', op_8', B_4', hc, ho⟩ | ⟨ec_6', ep_6', k_9', op_9', B_5', hc, ho⟩ <;> cases ho
     replace h := h.1 v_2' e_2' k_8' op_8' B_4' hc
     obtain ⟨o_18', h⟩ := h
     refine WLX.make (MV.buildSlice1 (cs := [v_2']) rfl (x8 o_18') ae9 am9 rfl rfl) [5] rfl (fun _ => rfl) rfl rfl rfl (fun b_4' => ?_)
     obtain ⟨o_19', h⟩ := h
     obtain ⟨o_20', h⟩ := h
     refine WLX.valX (agh (f := ab5) (ms := [v_2']) 4 0 rfl rfl rfl rfl rfl rfl ah0 (by decide) (arp o_19') ae9 anb rfl o_20') [5] rfl (fun _ _ e => by cases e; rfl) rfl rfl rfl (fun w_4' _ e => ?_)
     cases e
     refine WLX.op [5] rfl rfl (OpK.val (OV.fieldAddr0 rfl ab4) rfl rfl) rfl ?_
     refine WLX.opZ (OpK.storeSl (cs' := [zI ((a8 ts k0).2.1), st ((a8 ts k0).2.2), w_4']) 5 4 rfl rfl rfl rfl amd (Nat.le_of_ble_eq_true rfl) rfl) rfl ?_
     refine WLX.nil ?_
     refine kg (hK_23' [(0, zP pb), (4, zP b_1'), (17, zI (e8 ((a8 ts k0).2.2))), (18, zI t18_1')] _ ?_)
     refine a6 ?_
     obtain ⟨o_21', h⟩ := h
     refine wv (OV.add rfl rfl o_21') ?_
     refine wm ?_
     refine WL.nil ?_
     exact kh (hK_20' (t18_1' + 1, k_8', op_8', w_4', l_1' ++ [v_2'], B_4') h.1 h.2) [1, 2, 4, 5, 3]
    ·rcases hS with ⟨_, e_2', k_8', op_8', B_4', hc, ho⟩ | ⟨ec_6', ep_6', k_9', op_9', B_5', hc, ho⟩ <;> cases ho
     replace h := h.2 ec_6' ep_6' k_9' op_9' B_5' hc
     refine QX.strong ?_
     exact hE.pan [0, 1, 2] rfl rfl (.inr ⟨_, _, _, _, _, h, rfl⟩)
   ·skip
    refine a7 (fun _ hK_27' => ?_)
    refine a6 ?_
    refine wm ?_
    refine wv (OV.gtr rfl rfl) ?_
    refine WL.nil ?_
    refine kg (hK_27' [(0, zP pb), (4, zP b_1'), (17, zI (e8 ((a8 ts k0).2.2))), (18, zI t18_1'), (22, zB (decide (0 < t18_1')))] _ ?_)
    refine b5 (b := decide (0 < t18_1')) rfl (fun hb => ?_) (fun hb => ?_)
    ·replace h := j4 h hb
     refine a6 ?_
     refine wm ?_
     obtain ⟨o_22', h⟩ := h
     refine WL.callS acj rfl (acm pb wa ts p_0_2' p_1_2' ([44] : List UInt8) o_22') rfl trivial rfl rfl (fun r H' hS => ?_) (fun c H' hS => ?_)
     ·rcases hS with ⟨k_10', op_10', hc, ho⟩ | ⟨ec_7', ep_7', hc, ho⟩ <;> cases ho
      replace h := h.1 k_10' op_10' hc
      refine WL.nil ?_
      exact kh (hK_26' (k_10', op_10') h) [0, 1, 2, 3, 4]
     ·rcases hS with ⟨k_10', op_10', hc, ho⟩ | ⟨ec_7', ep_7', hc, ho⟩ <;> cases ho
      replace h := h.2 ec_7' ep_7' hc
      exact hE.pan [0, 1, 4] rfl rfl (.inr ⟨_, _, _, _, _, h, rfl⟩)
    ·replace h := j5 h hb
     refine b7 ?_
     exact kh (hK_26' (p_0_2', p_1_2') h) [0, 1, 2, 3, 4]
  ·replace h := j5 h hb
   refine p9 ?_
   refine kg (hK_4' [(0, zP pb), (4, zP b_1')] _ ?_)
   refine a7 (fun _ hK_28' => ?_)
   refine a6 ?_
   refine wm ?_
   obtain ⟨o_23', h⟩ := h
   refine WL.callS afw rfl (aes pb wa ts p_0_2' p_1_2' ([41] : List UInt8) o_23') rfl trivial rfl rfl (fun r H' hS => ?_) (fun c H' hS => ?_)
   ·rcases hS with ⟨k_11', op_11', hc, ho⟩ | ⟨ec_8', ep_8', hc, ho⟩ <;> cases ho
    replace h := h.1 k_11' op_11' hc
    refine WL.nil ?_
    refine kg (hK_28' [(4, zP b_1')] _ ?_)
    refine a7 (fun _ hK_29' => ?_)
    refine a6 ?_
    refine wv (OV.loadR rfl (At.own 3 rfl) ao9) ?_
    refine wv (OV.iface rfl al6) ?_
    refine wA ?_
    refine WL.nil ?_
    refine kg (hK_29' [(2, Value.iface 83 (Value.agg [zI ((a8 ts k0).2.1), st ((a8 ts k0).2.2), w_3'].toArray))] _ ?_)
    refine c7 ?_
    obtain ⟨o_24', h⟩ := h
    refine QX.pick (H' := [HA.row w_3' 37 1 l_1'.length (l_1'.flatMap ab5), pool c_1', HA.blk pb (.cells [j7 wa 3 k_11', zI op_11'].toArray 55 (0, 0)), HA.row wa 102 3 ts.length (ts.flatMap g9), HA.blk b_1' (.cells [zI ((a8 ts k0).2.1), st ((a8 ts k0).2.2), w_3'].toArray 83 (0, 0))]) [2, 4, 0, 1, 3] rfl rfl ?_
    refine QX.absorbRow o_24' (fun b_5' cs hl => ?_)
    exact hE.ret [1, 2, 0] rfl rfl (.inl ⟨_, _, _, _, _, (h w_3' b_5' cs hl), rfl⟩) (e9.of1 rfl (RV.tmp rfl))
   ·rcases hS with ⟨k_11', op_11', hc, ho⟩ | ⟨ec_8', ep_8', hc, ho⟩ <;> cases ho
    replace h := h.2 ec_8' ep_8' hc
    exact hE.pan [0, 1, 4] rfl rfl (.inr ⟨_, _, _, _, _, h, rfl⟩)
 ·rcases hS with ⟨k, op, hc, ho⟩ | ⟨ec, ep, hc, ho⟩ <;> cases ho
  replace h := h.2 ec ep hc
  exact hE.pan [0, 1, 6] rfl rfl (.inr ⟨_, _, _, _, _, h, rfl⟩)
section
variable {te : TypeId} {fre : Nat × Nat} {ts : List Tok} {k : Nat}
abbrev KR (r : RsX Ex) (ts : List Tok) (B : List (Nat × Obj)) : Value → Nat → Int → List Tok → List (Nat × Obj) → Prop := fun v k o ts2 B2 => (∃ e, ExR r B v e k o B2) ∧ ts2 = ts
abbrev KE (r : RsX Ex) (ts : List Tok) : Value → Nat → Int → List Tok → List (Nat × Obj) → Prop := fun v _ _ ts2 _ => (∃ c p, r = .error (c, p) ∧ v = aai c p) ∧ ts2 = ts
theorem arx (h : AAt te fre ts k) : PAt te fre ts k := by
 intro pb wa o B hp
 refine (ar9 pb wa te fre ts k o B (KR (sP ts (k, o)) ts B) (KE (sP ts (k, o)) ts) ?_).weak ?_
 ·unfold aju
  refine ⟨h, hp, fun v e k2 o2 B2 hr => ?_, fun c p k2 o2 B2 hr => ?_⟩
  ·obtain ⟨h1, h2, h3⟩ := hr
   have h4 : k2 < ts.length := at1 hp.2.2.1 h1
   refine ⟨fun v k' => ∃ e', sP ts (k, o) = sS ts e' (k', o2) ∧ TV B2 e' v ∧ k' < ts.length, fun _ k' => ts.length - k', ⟨e, by rw [ard, h1], h2, h4⟩, fun v' k' hi => ?_⟩
   obtain ⟨e', i1, i2, i3⟩ := hi
   refine ⟨i3, fun _ => i3, fun _ => i3, ?_⟩
   by_cases hm : isM ts k' [42] = true ∨ isM ts k' [43] = true ∨ isM ts k' [63] = true
   ·rw [if_pos (by rw [Bool.or_eq_true, Bool.or_eq_true, or_assoc]; exact hm)]
    have hk : (a8 ts k').1 ≠ 0 := by rcases hm with hm | hm | hm <;> rw [(q9 hm).1] <;> decide
    have hl : k' + 1 < ts.length := (hp.at i3).next hk
    refine ⟨i3, i2.one, ⟨.unary (a8 ts k').2.1 (a8 ts k').2.2 e', ?_, ⟨_, i2, rfl⟩, hl⟩, by show ts.length - (k' + 1) < ts.length - k'; omega⟩
    rw [i1, aq9, if_pos hm]
   ·rw [if_neg (by rw [Bool.or_eq_true, Bool.or_eq_true, or_assoc]; exact hm)]
    exact ⟨⟨e', by rw [i1, aq9, if_neg hm], i2, h3⟩, rfl⟩
  ·exact ⟨⟨c, p, by rw [ard, show sA ts (k, o) = _ from hr], rfl⟩, rfl⟩
 ·rintro x (⟨v, k2, o2, ts2, B2, ⟨⟨e, he⟩, rfl⟩, rfl⟩ | ⟨v, k2, o2, ts2, B2, ⟨⟨c, p, he, rfl⟩, rfl⟩, rfl⟩)
  ·exact .inl ⟨_, e, k2, o2, B2, he, rfl⟩
  ·exact .inr ⟨c, p, k2, o2, B2, he, rfl⟩
theorem ar4 (h : PAt te fre ts k) (hE : ∀ k2, k < k2 → ∀ l, EAt te fre ts k2 l) : ∀ (j : Nat) (l : Int), l = 5 - j → EAt te fre ts k l := by
 intro j
 induction j with
 | zero =>
  intro l hl pb wa o B hp
  obtain rfl : l = 5 := by omega
  have hs : sE ts (5 : Int).toNat (k, o) = sP ts (k, o) := by rw [alq, if_pos (by decide)]
  refine (an4 pb wa te fre ts k o B 5 (KR (sE ts (5 : Int).toNat (k, o)) ts B) (KE (sE ts (5 : Int).toNat (k, o)) ts) ?_).weak ?_
  ·unfold agm
   rw [if_pos (decide_eq_true rfl), hs]
   exact ⟨h, hp.1, fun v e k2 o2 B2 hr => ⟨⟨e, hr⟩, rfl⟩, fun c p k2 o2 B2 hr => ⟨⟨c, p, hr, rfl⟩, rfl⟩⟩
  ·rintro x (⟨v, k2, o2, ts2, B2, ⟨⟨e, he⟩, rfl⟩, rfl⟩ | ⟨v, k2, o2, ts2, B2, ⟨⟨c, p, he, rfl⟩, rfl⟩, rfl⟩)
   ·exact .inl ⟨_, e, k2, o2, B2, he, rfl⟩
   ·exact .inr ⟨c, p, k2, o2, B2, he, rfl⟩
 | succ j ih =>
  intro l hl pb wa o B hp
  obtain ⟨hp, h0, h5⟩ := hp
  have hn5 : l ≠ 5 := by omega
  have hn : (l + 1).toNat = l.toNat + 1 := by omega
  have hi64 : I64 (l + 1) := by unfold I64; omega
  refine (an4 pb wa te fre ts k o B l (KR (sE ts l.toNat (k, o)) ts B) (KE (sE ts l.toNat (k, o)) ts) ?_).weak ?_
  ·unfold agm
   rw [if_neg (by rw [decide_eq_true_eq]; exact hn5)]
   refine ⟨hi64, ih (l + 1) (by omega), ⟨hp, by omega, by omega⟩, fun v e k2 o2 B2 hr => ?_, fun c p k2 o2 B2 hr => ?_⟩
   ·rw [hn] at hr
    obtain ⟨h1, h2, h3⟩ := hr
    have h4 : k2 < ts.length := af9 hp.2.2.1 h1
    obtain ⟨h6, _, h7⟩ := abu h1
    dsimp only at h6 h7
    refine ⟨fun v k' o' c' => ∃ e', sE ts l.toNat (k, o) = sL ts l.toNat e' (k', o') ∧ TV c' e' v ∧ k < k' ∧ k' < ts.length ∧ o' = o ∧ ∀ p ∈ B, p ∈ c', fun _ k' _ _ => ts.length - k', ⟨e, by rw [alq, if_neg (by omega), h1], h2, h6, h4, h7, h3⟩, fun v' k' o' c' hi => ?_⟩
    obtain ⟨e', i1, i2, i3, i4, rfl, i6⟩ := hi
    refine ⟨i4, fun ht => ⟨i4, hp.2.2.2.1 k' (of_decide_eq_true ht)⟩, ?_⟩
    by_cases hm : (a8 ts k').1 = 4 ∧ d8 (a8 ts k').2.2 = (l.toNat : Int)
    ·have hm2 : d8 (a8 ts k').2.2 = l := by rw [hm.2]; omega
     rw [if_pos (by rw [Bool.and_eq_true, decide_eq_true_eq, decide_eq_true_eq]; exact ⟨hm.1, hm2⟩)]
     have hl : k' + 1 < ts.length := (hp.at i4).next (by rw [hm.1]; decide)
     refine ⟨i4, hi64, hE _ (by omega) _, ⟨hp.at hl, by omega, by omega⟩, fun v2 e2 k3 o3 B3 hr2 => ?_, fun c p k3 o3 B3 hr2 => ?_⟩
     ·rw [hn] at hr2
      obtain ⟨g1, g2, g3⟩ := hr2
      have g4 : k3 < ts.length := af9 hp.2.2.1 g1
      obtain ⟨g6, _, g7⟩ := abu g1
      dsimp only at g6 g7
      refine ⟨i2.one, g2.one, ⟨.binary (a8 ts k').2.1 (a8 ts k').2.2 e' e2, ?_, ⟨_, _, TV.more g3 _ _ i2, g2, rfl⟩, by omega, g4, g7, fun p hp => g3 p (i6 p hp)⟩, by show ts.length - k3 < ts.length - k'; omega⟩
      rw [i1, aoa, if_pos hm, g1]
     ·rw [hn] at hr2
      exact ⟨⟨c, p, by rw [i1, aoa, if_pos hm, show sE ts (l.toNat + 1) (k' + 1, o') = _ from hr2], rfl⟩, rfl⟩
    ·rw [if_neg (by rw [Bool.and_eq_true, decide_eq_true_eq, decide_eq_true_eq]; rintro ⟨m1, m2⟩; exact hm ⟨m1, by omega⟩)]
     exact ⟨⟨e', by rw [i1, aoa, if_neg hm], i2, i6⟩, rfl⟩
   ·rw [hn] at hr
    exact ⟨⟨c, p, by rw [alq, if_neg (by omega), show sE ts (l.toNat + 1) (k, o) = _ from hr], rfl⟩, rfl⟩
  ·rintro x (⟨v, k2, o2, ts2, B2, ⟨⟨e, he⟩, rfl⟩, rfl⟩ | ⟨v, k2, o2, ts2, B2, ⟨⟨c, p, he, rfl⟩, rfl⟩, rfl⟩)
   ·exact .inl ⟨_, e, k2, o2, B2, he, rfl⟩
   ·exact .inr ⟨c, p, k2, o2, B2, he, rfl⟩
theorem aro (w : Bs) : -1 ≤ e8 w ∧ e8 w ≤ 3 := by
 unfold e8
 (repeat' split) <;> omega
theorem ar8 (hC : CAt te fre ts k) (hE : ∀ k2, k < k2 → ∀ l, EAt te fre ts k2 l) : AAt te fre ts k := by
 intro pb wa o B hp
 refine (ar1 pb wa te fre ts k o B (KR (sA ts (k, o)) ts B) (KE (sA ts (k, o)) ts) ?_).weak ?_
 ·unfold ajs
  have hk := hp.1
  have same : ∀ p ∈ B, p ∈ B := fun p h => h
  refine ⟨hk, ?_⟩
  by_cases h2 : (a8 ts k).1 = 2
  ·rw [if_pos (decide_eq_true h2)]
   exact ⟨hk, ⟨.text (a8 ts k).2.1 (a8 ts k).2.2, by rw [afb, if_pos h2], rfl, same⟩, rfl⟩
  rw [if_neg (by rw [decide_eq_true_eq]; exact h2)]
  by_cases h3 : (a8 ts k).1 = 3
  ·rw [if_pos (decide_eq_true h3)]
   exact ⟨hk, ⟨.regex (a8 ts k).2.1 (a8 ts k).2.2, by rw [afb, if_neg h2, if_pos h3], rfl, same⟩, rfl⟩
  rw [if_neg (by rw [decide_eq_true_eq]; exact h3)]
  by_cases h4 : (a8 ts k).1 = 1 ∧ 0 < e8 (a8 ts k).2.2
  ·rw [if_pos (by rw [Bool.and_eq_true, decide_eq_true_eq, decide_eq_true_eq]; exact h4)]
   have he : sA ts (k, o) = sC ts (k, o) := by rw [afb, if_neg h2, if_neg h3, if_pos h4]
   rw [he]
   exact ⟨hC, ⟨hp, h4⟩, fun v e k2 o2 B2 hr => ⟨⟨e, hr⟩, rfl⟩, fun c p k2 o2 B2 hr => ⟨⟨c, p, hr, rfl⟩, rfl⟩⟩
  rw [if_neg (by rw [Bool.and_eq_true, decide_eq_true_eq, decide_eq_true_eq]; exact h4)]
  by_cases h5 : (a8 ts k).1 = 1 ∧ e8 (a8 ts k).2.2 = 0
  ·rw [if_pos (by rw [Bool.and_eq_true, decide_eq_true_eq, decide_eq_true_eq]; exact h5)]
   exact ⟨hk, ⟨.name (a8 ts k).2.1 (a8 ts k).2.2, by rw [afb, if_neg h2, if_neg h3, if_neg h4, if_pos h5], rfl, same⟩, rfl⟩
  rw [if_neg (by rw [Bool.and_eq_true, decide_eq_true_eq, decide_eq_true_eq]; exact h5)]
  refine ⟨hk, ?_⟩
  by_cases h6 : isM ts k [123] = true
  ·rw [if_pos h6]
   have he : sA ts (k, o) = brM ts [123] [125] (.keyed (a8 ts k).2.1) (k, o) := by rw [afb, if_neg h2, if_neg h3, if_neg h4, if_neg h5, if_pos h6]
   rw [he]
   unfold brM
   refine ⟨⟨hp, by decide⟩, fun k2 o2 hr => ?_, fun c p hr => ⟨⟨c, p, by rw [hr], rfl⟩, rfl⟩⟩
   obtain ⟨m1, m2, m3⟩ := s8 hr
   cases m3
   dsimp only at m2
   have hl : k + 1 < ts.length := hp.next (by rw [(q9 m1).1]; decide)
   have ho := hp.2.1
   refine ⟨hE _ (by omega) _, ⟨hp.with hl ⟨by omega, by omega⟩, by decide, by decide⟩, fun v e k3 o3 B3 hr2 => ?_, fun c p k3 o3 B3 hr2 => ⟨⟨c, p, by rw [hr]; dsimp only; rw [show sE ts 0 (k + 1, o + 1) = _ from hr2], rfl⟩, rfl⟩⟩
   obtain ⟨g1, g2, g3⟩ := hr2
   obtain ⟨g6, _, g7⟩ := abu g1
   dsimp only at g6 g7
   refine ⟨⟨hp.with (af9 hp.2.2.1 g1) ⟨by omega, by omega⟩, by decide⟩, fun k4 o4 hr3 => ⟨g2.one, ⟨.keyed (a8 ts k).2.1 e, ?_, ⟨_, g2, rfl⟩, g3⟩, rfl⟩, fun c p hr3 => ⟨⟨c, p, ?_, rfl⟩, rfl⟩⟩
   ·rw [hr]; dsimp only; rw [g1]; dsimp only; rw [hr3]
   ·rw [hr]; dsimp only; rw [g1]; dsimp only; rw [hr3]
  rw [if_neg h6]
  refine ⟨hk, ?_⟩
  by_cases h7 : isM ts k [40] = true
  ·rw [if_pos h7]
   have he : sA ts (k, o) = brM ts [40] [41] (fun a => a) (k, o) := by rw [afb, if_neg h2, if_neg h3, if_neg h4, if_neg h5, if_neg h6, if_pos h7]
   rw [he]
   unfold brM
   refine ⟨⟨hp, by decide⟩, fun k2 o2 hr => ?_, fun c p hr => ⟨⟨c, p, by rw [hr], rfl⟩, rfl⟩⟩
   obtain ⟨m1, m2, m3⟩ := s8 hr
   cases m3
   dsimp only at m2
   have hl : k + 1 < ts.length := hp.next (by rw [(q9 m1).1]; decide)
   have ho := hp.2.1
   refine ⟨hE _ (by omega) _, ⟨hp.with hl ⟨by omega, by omega⟩, by decide, by decide⟩, fun v e k3 o3 B3 hr2 => ?_, fun c p k3 o3 B3 hr2 => ⟨⟨c, p, by rw [hr]; dsimp only; rw [show sE ts 0 (k + 1, o + 1) = _ from hr2], rfl⟩, rfl⟩⟩
   obtain ⟨g1, g2, g3⟩ := hr2
   obtain ⟨g6, _, g7⟩ := abu g1
   dsimp only at g6 g7
   refine ⟨⟨hp.with (af9 hp.2.2.1 g1) ⟨by omega, by omega⟩, by decide⟩, fun k4 o4 hr3 => ⟨⟨e, ?_, g2, g3⟩, rfl⟩, fun c p hr3 => ⟨⟨c, p, ?_, rfl⟩, rfl⟩⟩
   ·rw [hr]; dsimp only; rw [g1]; dsimp only; rw [hr3]
   ·rw [hr]; dsimp only; rw [g1]; dsimp only; rw [hr3]
  rw [if_neg h7]
  exact ⟨hk, ⟨60, (a8 ts k).2.1, by rw [afb, if_neg h2, if_neg h3, if_neg h4, if_neg h5, if_neg h6, if_neg h7], rfl⟩, rfl⟩
 ·rintro x (⟨v, k2, o2, ts2, B2, ⟨⟨e, he⟩, rfl⟩, rfl⟩ | ⟨v, k2, o2, ts2, B2, ⟨⟨c, p, he, rfl⟩, rfl⟩, rfl⟩)
  ·exact .inl ⟨_, e, k2, o2, B2, he, rfl⟩
  ·exact .inr ⟨c, p, k2, o2, B2, he, rfl⟩
theorem ark (hE : ∀ k2, k < k2 → ∀ l, EAt te fre ts k2 l) : CAt te fre ts k := by
 intro pb wa o B hp
 obtain ⟨hp, hk1, ha⟩ := hp
 refine (ask pb wa te fre ts k o B (KR (sC ts (k, o)) ts B) (KE (sC ts (k, o)) ts) ?_).weak ?_
 ·have hk0 : (a8 ts k).1 ≠ 0 := by rw [hk1]; decide
  have hk := hp.next hk0
  have ha3 := (aro (a8 ts k).2.2).2
  have ho := hp.2.1
  have hsC := atr (ts := ts) (q := (k, o)) hk0
  dsimp only at hsC
  unfold ake
  refine ⟨hp.1, ⟨hp.at hk, by decide⟩, fun k2 o2 hr => ?_, fun c p hr => ⟨⟨c, p, by rw [hsC, hr], rfl⟩, rfl⟩⟩
  obtain ⟨m1, m2, m3⟩ := s8 hr
  cases m3
  dsimp only at m2
  rw [hr] at hsC
  dsimp only at hsC
  have hl : k + 1 + 1 < ts.length := (hp.at hk).next (by rw [(q9 m1).1]; decide)
  refine ⟨fun i k' o' us c' => ∃ l : ExL, sR ts (e8 (a8 ts k).2.2).toNat .nil (k + 1 + 1, o + 1) = sR ts (e8 (a8 ts k).2.2).toNat l (k', o') ∧ TVL c' l us ∧ i = (us.length : Int) ∧ k < k' ∧ k' < ts.length ∧ o' = o + 1 ∧ (∀ p ∈ B, p ∈ c') ∧ us.length ≤ 3, fun i _ _ _ _ => (3 - i).toNat, ⟨.nil, rfl, rfl, rfl, by omega, hl, rfl, fun p h => h, by decide⟩, fun i k' o' us c' hi => ?_⟩
  obtain ⟨l, i1, i2, rfl, i4, i5, rfl, i7, i8⟩ := hi
  have i9 := i2.len
  rw [i1] at hsC
  by_cases hlt : ((us.length : Nat) : Int) < e8 (a8 ts k).2.2
  ·rw [if_pos (decide_eq_true hlt)]
   have hR := as1 (ts := ts) (n := (e8 (a8 ts k).2.2).toNat) (b := l) (q := (k', o + 1))
   rw [if_neg (by omega)] at hR
   refine ⟨fun p2 o2 => (if 0 < l.len then n5 ts (k', o + 1) [44] else .ok (k', o + 1)) = .ok (p2, o2), fun p2 o2 hj => ?_, ?_⟩
   ·have hj2 : k' ≤ p2 ∧ p2 < ts.length ∧ o2 = o + 1 := by
     split at hj
     ·obtain ⟨w1, w2⟩ := aab hj
      cases w2
      exact ⟨by dsimp only; omega, (hp.at i5).next (by rw [(q9 w1).1]; decide), rfl⟩
     ·cases hj; exact ⟨Nat.le_refl _, i5, rfl⟩
    obtain ⟨j1, j2, rfl⟩ := hj2
    rw [hj] at hR
    dsimp only at hR
    refine ⟨hE _ (by omega) _, ⟨hp.with j2 ⟨by omega, by omega⟩, by decide, by decide⟩, fun v2 e2 k3 o3 B3 hr2 => ?_, fun c p k3 o3 B3 hr2 => ⟨⟨c, p, by rw [hsC, hR, show sE ts 0 (p2, o + 1) = _ from hr2], rfl⟩, rfl⟩⟩
    obtain ⟨g1, g2, g3⟩ := hr2
    obtain ⟨g6, _, g7⟩ := abu g1
    dsimp only at g6 g7
    refine ⟨g2.one, g2.one, ⟨by omega, by omega⟩, by unfold I64; omega, ⟨l.snoc e2, ?_, TVL.snoc g2 (TVL.more g3 _ _ i2), by rw [List.length_append, List.length_singleton]; omega, by omega, af9 hp.2.2.1 g1, g7, fun p hp => g3 p (i7 p hp), by rw [List.length_append, List.length_singleton]; omega⟩, by show (3 - ((us.length : Int) + 1)).toNat < (3 - (us.length : Int)).toNat; omega⟩
    rw [i1, hR, g1]
   ·by_cases h0 : 0 < l.len
    ·rw [if_pos (decide_eq_true (by omega))]
     rw [if_pos h0] at hR
     refine ⟨⟨hp.with i5 ⟨by omega, by omega⟩, by decide⟩, fun k3 o3 hr2 => by rw [if_pos h0]; exact hr2, fun c p hr2 => ⟨⟨c, p, by rw [hsC, hR, hr2], rfl⟩, rfl⟩⟩
    ·rw [if_neg (by rw [decide_eq_true_eq]; omega), if_neg h0]
  ·rw [if_neg (by rw [decide_eq_true_eq]; exact hlt)]
   rw [as1, if_pos (by omega)] at hsC
   dsimp only at hsC
   refine ⟨⟨hp.with i5 ⟨by omega, by omega⟩, by decide⟩, fun k3 o3 hr2 => ⟨by omega, fun w b cs hw => ⟨⟨.call (a8 ts k).2.1 (a8 ts k).2.2 l, by rw [hsC, hr2], ⟨us, w, b, cs, TVL.more (fun p h => List.mem_cons_of_mem _ h) _ _ i2, hw, List.mem_cons_self, rfl⟩, fun p hp => List.mem_cons_of_mem _ (i7 p hp)⟩, rfl⟩⟩, fun c p hr2 => ⟨⟨c, p, by rw [hsC, hr2], rfl⟩, rfl⟩⟩
 ·rintro x (⟨v, k2, o2, ts2, B2, ⟨⟨e, he⟩, rfl⟩, rfl⟩ | ⟨v, k2, o2, ts2, B2, ⟨⟨c, p, he, rfl⟩, rfl⟩, rfl⟩)
  ·exact .inl ⟨_, e, k2, o2, B2, he, rfl⟩
  ·exact .inr ⟨c, p, k2, o2, B2, he, rfl⟩
theorem arm (te : TypeId) (fre : Nat × Nat) (ts : List Tok) : ∀ (n k : Nat), ts.length ≤ k + n → ∀ l, EAt te fre ts k l := by
 intro n
 induction n with
 | zero =>
  intro k hk l pb wa o B hp
  have := hp.1.1
  omega
 | succ n ih =>
  intro k hk
  have hE : ∀ k2, k < k2 → ∀ l, EAt te fre ts k2 l := fun k2 h2 => ih k2 (by omega)
  have hP := arx (ar8 (ark hE) hE)
  intro l
  by_cases hl : l ≤ 5
  ·exact ar4 hP hE (5 - l).toNat l (by omega)
  ·intro pb wa o B hp
   exact absurd hp.2.2 hl
end
end Go.Proofs.YtifajndacnfcbaaDoor
namespace Go.Proofs.YtifajndacnfcbaaDoor
open Go Go.RowKit
def agf (v : Value) (T sz n : Nat) (xs : List Value) (B1 : List (Nat × Obj)) : Prop := (v = .slice none 0 0 ∧ n = 0 ∧ B1 = []) ∨ ∃ b cs, abx v T sz n xs b cs ∧ B1 = [(b, .cells cs.toArray T (0, 0))]
theorem agf.inSl {v : Value} {T sz n : Nat} {xs : List Value} {B1 : List (Nat × Obj)} (h : agf v T sz n xs B1) (hl : xs.length = n * sz) : amy v B1 n xs := by
 rcases h with ⟨rfl, rfl, rfl⟩ | ⟨b, cs, h, rfl⟩
 ·refine .inl ⟨rfl, ?_⟩
  first | exact ⟨rfl, by simpa using hl⟩ | exact ⟨rfl, rfl, by simpa using hl⟩ | simpa using hl
 ·exact h.inSl hl
section
variable {P : Program} {ops : Array Oper} {Q : Exit → Act → World → Prop} {C : Cx} {L : Sl} {H : List HA} {w : World}
theorem Own.absorbRow0 {v : Value} {T sz n : Nat} {xs : List Value} {B : List (Nat × Obj)} {A : List HA} {F : List Nat} (h : Own w (.row v T sz n xs :: pool B :: A) F) :
  ∃ B1, agf v T sz n xs B1 ∧ Own w (pool (B1 ++ B) :: A) F := by
 rcases Nat.eq_zero_or_pos n with rfl | hn
 ·obtain ⟨F1, F2, rfl, ⟨rfl, hl, hr⟩, h2⟩ := h
  rcases hr with ⟨rfl, h0⟩ | ⟨b, cap, cur, rfl, _, hb, hn2, hcm, hcs, htk⟩
  ·exact ⟨[], .inl ⟨rfl, rfl, rfl⟩, h2⟩
  ·have hblk : Own w (.blk b (.cells cur.toList.toArray T (0, 0)) :: pool B :: A) ([b] ++ F2) := ⟨[b], F2, rfl, ⟨rfl, by rw [Array.toArray_toList]; exact hb⟩, h2⟩
   have h1 : 0 * sz ≤ cap * sz := Nat.mul_le_mul_right _ hn2
   exact ⟨[(b, .cells cur.toList.toArray T (0, 0))], .inr ⟨b, cur.toList, ⟨cap, rfl, hn2, by simpa using hcs, htk, by rw [Array.length_toList, hcs]; exact h1, by omega⟩, rfl⟩, hblk.absorb⟩
 ·obtain ⟨b, cs, h1, h2⟩ := h.absorbRow hn
  exact ⟨[(b, .cells cs.toArray T (0, 0))], .inr ⟨b, cs, h1, rfl⟩, h2⟩
theorem QX.absorbRow0 {e : Exit} {v : Value} {T sz n : Nat} {xs : List Value} {B : List (Nat × Obj)} (h : ∀ B1, agf v T sz n xs B1 → QX Q e C L (pool (B1 ++ B) :: H)) : QX Q e C L (.row v T sz n xs :: pool B :: H) := fun a w hf hp => by
 obtain ⟨F, h1, h2⟩ := hp.own
 obtain ⟨B1, h3, h4⟩ := h1.absorbRow0
 exact h B1 h3 a w hf ⟨hp.os, hp.tape, hp.output, hp.size, hp.keep, hp.ro, F, h4, h2⟩
end
abbrev aay := Int × Bs × Value
def adf (d : aay) : List Value := [.int .i64 d.1, st d.2.1, d.2.2]
theorem ahk (d : aay) : (adf d).length = 3 := rfl
theorem aqb {v : Value} {a : Int} {s : Bs} (h : v.oneCell' = true) : ([Value.int .i64 a, st s, v].all (·.oneCell')) = true := by simp [h]; exact ⟨rfl, rfl⟩
def TDs (B : List (Nat × Obj)) : List p3 → List aay → Prop
 | [], [] => True
 | d :: r, x :: s => (x.1 = d.1 ∧ x.2.1 = d.2.1 ∧ TV B d.2.2 x.2.2) ∧ TDs B r s
 | _, _ => False
theorem TDs.more {B B2 : List (Nat × Obj)} (h : ∀ p ∈ B, p ∈ B2) : ∀ {l : List p3} {ds : List aay}, TDs B l ds → TDs B2 l ds
 | [], [], _ => trivial
 | _ :: _, _ :: _, ⟨⟨h1, h2, h3⟩, h4⟩ => ⟨⟨h1, h2, TV.more h _ _ h3⟩, h4.more h⟩
 | [], _ :: _, h4 => h4.elim
 | _ :: _, [], h4 => h4.elim
theorem TDs.snoc {B : List (Nat × Obj)} {d : p3} {v : Value} (hv : TV B d.2.2 v) : ∀ {l : List p3} {ds : List aay}, TDs B l ds → TDs B (l ++ [d]) (ds ++ [(d.1, d.2.1, v)])
 | [], [], _ => ⟨⟨rfl, rfl, hv⟩, trivial⟩
 | _ :: _, _ :: _, ⟨h1, h4⟩ => ⟨h1, h4.snoc hv⟩
 | [], _ :: _, h4 => h4.elim
 | _ :: _, [], h4 => h4.elim
theorem TDs.len {B : List (Nat × Obj)} : ∀ {l : List p3} {ds : List aay}, TDs B l ds → ds.length = l.length
 | [], [], _ => rfl
 | _ :: _, _ :: _, ⟨_, h4⟩ => by rw [List.length_cons, List.length_cons, h4.len]
 | [], _ :: _, h4 => h4.elim
 | _ :: _, [], h4 => h4.elim
def abn (B : List (Nat × Obj)) (b : Nat) (w m : Value) (ds : List aay) (B1 : List (Nat × Obj)) (l : List p3) (a : Ex) : Prop :=
 TDs B l ds ∧ TV B a m ∧ agf w 41 3 ds.length (ds.flatMap adf) B1 ∧ (∀ p ∈ B1, p ∈ B) ∧ (b, Obj.cells [w, m].toArray 39 (0, 0)) ∈ B
def anr (B : List (Nat × Obj)) (v : Value) (l : List p3) (a : Ex) : Prop := ∃ b w m ds B1, v = .pointer (some ⟨b, 0, none⟩) ∧ abn B b w m ds B1 l a
def al9 (ts : List Tok) (r : Except (Int × Int) (List p3 × PSx)) : Except (Int × Int) (List p3 × Ex) := match r with
 | .error e => .error e
 | .ok (l, q) => match sE ts 0 q with
  | .error e => .error e
  | .ok (a, q1) => if (a8 ts q1.1).1 = 0 then .ok (l, a) else .error (60, (a8 ts q1.1).2.1)
theorem abr (ts : List Tok) : w6 ts = al9 ts (pD ts (BIG ts) (BIG ts) [] (0, 0)) := rfl
theorem ak9 {ts : List Tok} {f : Nat} {l : List p3} {q : PSx} : pD ts (BIG ts) (f + 1) l q = if (a8 ts q.1).1 = 1 ∧ (a8 ts q.1).2.2 = [108, 101, 116] then
   if (a8 ts (q.1 + 1)).1 ≠ 1 ∨ e8 (a8 ts (q.1 + 1)).2.2 ≠ 0 then .error (60, (a8 ts (q.1 + 1)).2.1)
   else match n5 ts (q.1 + 2, q.2) [61] with
    | .error e => .error e
    | .ok q1 => match sE ts 0 q1 with
     | .error e => .error e
     | .ok (b, q2) => match n5 ts q2 [59] with
      | .error e => .error e
      | .ok q3 => pD ts (BIG ts) f (l ++ [((a8 ts (q.1 + 1)).2.1, (a8 ts (q.1 + 1)).2.2, b)]) q3
  else .ok (l, q) := rfl
end Go.Proofs.YtifajndacnfcbaaDoor
set_option maxRecDepth 100000
namespace Go.Proofs.YtifajndacnfcbaaDoor
open Go Go.RowKit
theorem aat : g0 Tryd.prog 39 0 = some 0 := by kernel_rfl
theorem aet : aaf Tryd.prog 35 = true := by kernel_rfl
theorem ady : slB Tryd.prog 35 41 3 = true := by kernel_rfl
theorem amf : age Tryd.prog 41 = some ([zI 0, st [], Value.nilIface], 3, 40) := by kernel_rfl
theorem amw : n8 Tryd.prog 35 1 = true := by kernel_rfl
theorem aas : g0 Tryd.prog 39 1 = some 1 := by kernel_rfl
theorem ami : n8 Tryd.prog 37 1 = true := by kernel_rfl
def aep (te : TypeId) (fre : Nat × Nat) (ts : List Tok) (k0 : Nat) (op0 : Int) (B0 : List (Nat × Obj)) (K : Value → Nat → Int → (List Tok) → (List (Nat × Obj)) → Prop) (KP : Value → Nat → Int → (List Tok) → (List (Nat × Obj)) → Prop) : Prop :=
 ∃ (Inv : (List aay) → Nat → Int → (List (Nat × Obj)) → Prop) (mu : (List aay) → Nat → Int → (List (Nat × Obj)) → Nat),
  Inv [] k0 op0 B0 ∧ ∀ (l_1' : List aay) (p_0_1' : Nat) (p_1_1' : Int) (c_1' : List (Nat × Obj)), Inv l_1' p_0_1' p_1_1' c_1' →
   (p_0_1' < ts.length) ∧
   ((decide ((a8 ts p_0_1').1 = 1)) = true → (p_0_1' < ts.length)) ∧
   (if ((decide ((a8 ts p_0_1').1 = 1)) && (decide ((a8 ts p_0_1').2.2 = ([108, 101, 116] : List UInt8)))) = true then
    (p_0_1' < ts.length) ∧
    (p_0_1' + 1 < ts.length) ∧
    (if ((!decide ((a8 ts (p_0_1' + 1)).1 = 1)) || (!decide (e8 ((a8 ts (p_0_1' + 1)).2.2) = 0))) = true then
     (p_0_1' + 1 < ts.length) ∧
     KP (Value.iface 26 (Value.agg [zI 60, zI ((a8 ts (p_0_1' + 1)).2.1), st []].toArray)) (p_0_1' + 1) p_1_1' ts c_1'
    else
     (p_0_1' + 1 < ts.length) ∧
     (POK ts (p_0_1' + 1 + 1) p_1_1' ∧ ([61] : List UInt8) ≠ []) ∧
     (∀ (k_8' : Nat) (op_8' : Int), n5 ts (p_0_1' + 1 + 1, p_1_1') ([61] : List UInt8) = .ok (k_8', op_8') →
      (EAt te fre ts k_8' 0) ∧
      (POK ts k_8' op_8' ∧ 0 ≤ (0 : Int) ∧ (0 : Int) ≤ 5) ∧
      (∀ (v_2' : Value) (e_2' : Ex) (k_9' : Nat) (op_9' : Int) (B_4' : List (Nat × Obj)), ExR (sE ts 0 (k_8', op_8')) c_1' v_2' e_2' k_9' op_9' B_4' →
       (v_2'.oneCell' = true) ∧
       (v_2'.oneCell' = true) ∧
       (((l_1'.length + 1) + (l_1'.length + 1) / 4 + 192) * 40 ≤ 281474976710656 ∧ l_1'.length + 1 ≤ 9223372036854775807) ∧
       (POK ts k_9' op_9' ∧ ([59] : List UInt8) ≠ []) ∧
       (∀ (k_11' : Nat) (op_11' : Int), n5 ts (k_9', op_9') ([59] : List UInt8) = .ok (k_11', op_11') →
        Inv (l_1' ++ [((((a8 ts (p_0_1' + 1)).2.1), (a8 ts (p_0_1' + 1)).2.2, v_2') : aay)]) k_11' op_11' B_4' ∧ mu (l_1' ++ [((((a8 ts (p_0_1' + 1)).2.1), (a8 ts (p_0_1' + 1)).2.2, v_2') : aay)]) k_11' op_11' B_4' < mu l_1' p_0_1' p_1_1' c_1') ∧
       (∀ (ec_8' : Int) (ep_8' : Int), n5 ts (k_9', op_9') ([59] : List UInt8) = .error (ec_8', ep_8') →
        KP (Value.iface 26 (Value.agg [zI ec_8', zI ep_8', st []].toArray)) k_9' op_9' ts B_4')) ∧
      (∀ (ec_7' : Int) (ep_7' : Int) (k_10' : Nat) (op_10' : Int) (B_5' : List (Nat × Obj)), ExP (sE ts 0 (k_8', op_8')) ts ec_7' ep_7' k_10' op_10' B_5' →
       KP (Value.iface 26 (Value.agg [zI ec_7', zI ep_7', st []].toArray)) k_10' op_10' ts B_5')) ∧
     (∀ (ec_6' : Int) (ep_6' : Int), n5 ts (p_0_1' + 1 + 1, p_1_1') ([61] : List UInt8) = .error (ec_6', ep_6') →
      KP (Value.iface 26 (Value.agg [zI ec_6', zI ep_6', st []].toArray)) (p_0_1' + 1 + 1) p_1_1' ts c_1'))
   else
    (EAt te fre ts p_0_1' 0) ∧
    (POK ts p_0_1' p_1_1' ∧ 0 ≤ (0 : Int) ∧ (0 : Int) ≤ 5) ∧
    (∀ (v_3' : Value) (e_3' : Ex) (k_12' : Nat) (op_12' : Int) (B_6' : List (Nat × Obj)), ExR (sE ts 0 (p_0_1', p_1_1')) c_1' v_3' e_3' k_12' op_12' B_6' →
     (v_3'.oneCell' = true) ∧
     (k_12' < ts.length) ∧
     (if (!decide ((a8 ts k_12').1 = 0)) = true then
      (k_12' < ts.length) ∧
      KP (Value.iface 26 (Value.agg [zI 60, zI ((a8 ts k_12').2.1), st []].toArray)) k_12' op_12' ts B_6'
     else
      ∀ (b : Nat), ∀ (w_3' : Value) (R : List (Nat × Obj)), agf w_3' 41 3 l_1'.length (l_1'.flatMap adf) R → K (zP b) k_12' op_12' ts ((b, .cells [w_3', v_3'].toArray 39 (0, 0)) :: (R ++ B_6')))) ∧
    (∀ (ec_9' : Int) (ep_9' : Int) (k_13' : Nat) (op_13' : Int) (B_7' : List (Nat × Obj)), ExP (sE ts 0 (p_0_1', p_1_1')) ts ec_9' ep_9' k_13' op_13' B_7' →
     KP (Value.iface 26 (Value.agg [zI ec_9', zI ep_9', st []].toArray)) k_13' op_13' ts B_7'))
theorem amt (pb : Nat) (wa : Value) (te : TypeId) (fre : Nat × Nat) (ts : List Tok) (k0 : Nat) (op0 : Int) (B0 : List (Nat × Obj)) (K : Value → Nat → Int → (List Tok) → (List (Nat × Obj)) → Prop) (KP : Value → Nat → Int → (List Tok) → (List (Nat × Obj)) → Prop) (h : aep te fre ts k0 op0 B0 K KP) :
  d9 Tryd.prog 17 [zP pb] [(0, .cells [st ([124] : List UInt8), st ([38, 45] : List UInt8), st ([62, 62] : List UInt8), st ([126] : List UInt8), st ([46] : List UInt8)].toArray te fre)] [HA.blk pb (.cells [j7 wa 3 k0, zI op0].toArray 55 (0, 0)), HA.row wa 102 3 ts.length (ts.flatMap g9), pool B0] (fun o => (∃ (v_4' : Value) (d_1'_0 : Nat) (d_1'_1 : Int) (d : List Tok) (D : List (Nat × Obj)), K v_4' d_1'_0 d_1'_1 d D ∧ o = .ret (v_4') [HA.blk pb (.cells [j7 wa 3 d_1'_0, zI d_1'_1].toArray 55 (0, 0)), HA.row wa 102 3 d.length (d.flatMap g9), pool D]) ∨ (∃ (pv : Value) (d_1'_0 : Nat) (d_1'_1 : Int) (d : List Tok) (D : List (Nat × Obj)), KP pv d_1'_0 d_1'_1 d D ∧ o = .pan [{ v := pv, recovered := false }] [HA.blk pb (.cells [j7 wa 3 d_1'_0, zI d_1'_1].toArray 55 (0, 0)), HA.row wa 102 3 d.length (d.flatMap g9), pool D])) := by
 unfold aep at h
 refine b9 (n := 66) (L0 := [(0, zP pb)]) Tryd.func17 rfl rfl rfl rfl (fun w0 M Q hE => ?_)
 refine a7 (fun _ hK => ?_)
 refine a6 ?_
 refine wA ?_
 refine WL.nil ?_
 refine kg (hK [(0, zP pb)] _ ?_)
 refine a7 (fun _ hK_1' => ?_)
 refine a6 ?_
 refine wv (OV.build rfl (cs := [Value.slice none 0 0, Value.nilIface]) rfl) ?_
 refine WL.make (MV.box (cs := [Value.slice none 0 0, Value.nilIface]) rfl rfl) rfl rfl rfl (fun b => ?_)
 refine WL.nilRow 41 3 adf ?_
 refine wA ?_
 refine WL.nil ?_
 refine kg (hK_1' [(0, zP pb), (3, zP b)] _ ?_)
 refine a7 (fun _ hK_2' => ?_)
 refine b8 ?_
 obtain ⟨Inv, mu, h0, hr⟩ := h
 refine v7 (S := Value × (List aay) × Nat × Int × (List (Nat × Obj))) (fun σ => Inv σ.2.1 σ.2.2.1 σ.2.2.2.1 σ.2.2.2.2) (fun σ => mu σ.2.1 σ.2.2.1 σ.2.2.2.1 σ.2.2.2.2) (fun σ => [(0, zP pb), (3, zP b)]) (fun σ => [HA.row σ.1 41 3 σ.2.1.length (σ.2.1.flatMap adf), HA.blk b (.cells [σ.1, Value.nilIface].toArray 39 (0, 0)), HA.blk pb (.cells [j7 wa 3 σ.2.2.1, zI σ.2.2.2.1].toArray 55 (0, 0)), HA.row wa 102 3 ts.length (ts.flatMap g9), pool σ.2.2.2.2]) (Value.slice none 0 0, [], k0, op0, B0) h0 ⟨rfl, rfl, trivial⟩ rfl ?_
 rintro ⟨w_3', l_1', p_0_1', p_1_1', c_1'⟩ hi K0_25' hK_25'
 have h := hr l_1' p_0_1' p_1_1' c_1' hi
 show WC _ _ _ _ [(0, zP pb), (3, zP b)] [HA.row w_3' 41 3 l_1'.length (l_1'.flatMap adf), HA.blk b (.cells [w_3', Value.nilIface].toArray 39 (0, 0)), HA.blk pb (.cells [j7 wa 3 p_0_1', zI p_1_1'].toArray 55 (0, 0)), HA.row wa 102 3 ts.length (ts.flatMap g9), pool c_1']
 refine a7 (fun _ hK_26' => ?_)
 refine a7 (fun _ hK_27' => ?_)
 refine a6 ?_
 refine wm ?_
 obtain ⟨o_30', h⟩ := h
 refine WL.pick (H' := [HA.blk pb (.cells [j7 wa 3 p_0_1', zI p_1_1'].toArray 55 (0, 0)), HA.row wa 102 3 ts.length (ts.flatMap g9), HA.row w_3' 41 3 l_1'.length (l_1'.flatMap adf), HA.blk b (.cells [w_3', Value.nilIface].toArray 39 (0, 0)), pool c_1']) [2, 3, 0, 1, 4] rfl rfl ?_
 refine WL.call u7 rfl (t7 pb wa ts p_0_1' p_1_1' o_30') rfl trivial rfl rfl ?_
 refine wv (OV.field rfl ab3 b6 rfl) ?_
 refine wv (OV.eql rfl rfl) ?_
 refine wm ?_
 obtain ⟨o_32', h⟩ := h
 refine WL.cut 5 [(0, zP pb), (3, zP b), (16, zB ((decide ((a8 ts p_0_1').1 = 1)) && (decide ((a8 ts p_0_1').2.2 = ([108, 101, 116] : List UInt8)))))] ?_ (fun K0_28' hK_28' => ?_)
 rotate_left
 ·refine WL.split (decide ((a8 ts p_0_1').1 = 1)) (fun hb => ?_) (fun hb => ?_)
  ·have o_31' := o_32' hb
   refine WL.set 11 rfl (congrArg zB hb) ?_
   refine wm ?_
   refine WL.call u7 rfl (t7 pb wa ts p_0_1' p_1_1' o_31') rfl trivial rfl rfl ?_
   refine wv (OV.field rfl adq c6 rfl) ?_
   refine wv (OV.eqlS rfl rfl) ?_
   refine wv (OV.pickT rfl rfl) ?_
   refine WL.set 16 rfl (bT (v := decide ((a8 ts p_0_1').2.2 = ([108, 101, 116] : List UInt8))) hb) ?_
   exact WL.end_ (kg hK_28')
  ·refine WL.set 11 rfl (congrArg zB hb) ?_
   refine wk ?_
   refine wk ?_
   refine wk ?_
   refine wk ?_
   refine wv (OV.pickF rfl rfl) ?_
   refine WL.set 16 rfl (bF (v := decide ((a8 ts p_0_1').2.2 = ([108, 101, 116] : List UInt8))) hb) ?_
   exact WL.end_ (kg hK_28')
 refine WL.nil ?_
 refine kg (hK_27' [(0, zP pb), (3, zP b), (16, zB ((decide ((a8 ts p_0_1').1 = 1)) && (decide ((a8 ts p_0_1').2.2 = ([108, 101, 116] : List UInt8)))))] _ ?_)
 refine b5 (b := (decide ((a8 ts p_0_1').1 = 1)) && (decide ((a8 ts p_0_1').2.2 = ([108, 101, 116] : List UInt8)))) rfl (fun hb => ?_) (fun hb => ?_)
 ·replace h := j4 h hb
  refine b7 ?_
  refine kg (hK_26' [(0, zP pb), (3, zP b)] _ ?_)
  refine b8 ?_
  refine a7 (fun _ hK_29' => ?_)
  refine a6 ?_
  refine wm ?_
  obtain ⟨o_33', h⟩ := h
  refine WL.call x6 rfl (w8 pb wa ts p_0_1' p_1_1' o_33') rfl trivial rfl rfl ?_
  refine WL.nil ?_
  refine kg (hK_29' [(0, zP pb), (3, zP b)] _ ?_)
  refine a7 (fun _ hK_30' => ?_)
  refine a6 ?_
  refine wm ?_
  obtain ⟨o_34', h⟩ := h
  refine WL.call u7 rfl (t7 pb wa ts (p_0_1' + 1) p_1_1' o_34') rfl trivial rfl rfl ?_
  refine WL.make (MV.alloc r9) rfl rfl rfl (fun b_5' => ?_)
  refine WL.storeW (vs := [zI ((a8 ts (p_0_1' + 1)).1), zI ((a8 ts (p_0_1' + 1)).2.1), st ((a8 ts (p_0_1' + 1)).2.2)]) 0 rfl rfl rfl rfl rfl r8 rfl rfl rfl ?_
  refine WL.nil ?_
  refine kg (hK_30' [(0, zP pb), (3, zP b), (4, zP b_5')] _ ?_)
  refine a7 (fun _ hK_31' => ?_)
  refine a7 (fun _ hK_32' => ?_)
  refine a6 ?_
  refine wv (OV.fieldAddr0 rfl w5) ?_
  refine wv (OV.load rfl (At.own 0 rfl) rfl b6) ?_
  refine wv (OV.neq rfl rfl) ?_
  refine wm ?_
  refine WL.cut 5 [(0, zP pb), (3, zP b), (4, zP b_5'), (29, zB ((!decide ((a8 ts (p_0_1' + 1)).1 = 1)) || (!decide (e8 ((a8 ts (p_0_1' + 1)).2.2) = 0))))] ?_ (fun K0_33' hK_33' => ?_)
  rotate_left
  ·refine WL.split (!decide ((a8 ts (p_0_1' + 1)).1 = 1)) (fun hb => ?_) (fun hb => ?_)
   ·refine WL.set 24 rfl (congrArg zB hb) ?_
    refine wk ?_
    refine wk ?_
    refine wk ?_
    refine wk ?_
    refine wv (OV.pickT rfl rfl) ?_
    refine WL.set 29 rfl (oT (v := !decide (e8 ((a8 ts (p_0_1' + 1)).2.2) = 0)) hb) ?_
    exact WL.end_ (kg hK_33')
   ·refine WL.set 24 rfl (congrArg zB hb) ?_
    refine wv (OV.fieldAddr0 rfl k7) ?_
    refine wv (OV.load rfl (At.own 0 rfl) rfl c6) ?_
    refine WL.call (A := []) ad9 rfl (ada ((a8 ts (p_0_1' + 1)).2.2)) rfl trivial rfl rfl ?_
    refine wv (OV.neq rfl rfl) ?_
    refine wv (OV.pickF rfl rfl) ?_
    refine WL.set 29 rfl (oF (v := !decide (e8 ((a8 ts (p_0_1' + 1)).2.2) = 0)) hb) ?_
    exact WL.end_ (kg hK_33')
  refine WL.nil ?_
  refine kg (hK_32' [(0, zP pb), (3, zP b), (4, zP b_5'), (29, zB ((!decide ((a8 ts (p_0_1' + 1)).1 = 1)) || (!decide (e8 ((a8 ts (p_0_1' + 1)).2.2) = 0))))] _ ?_)
  refine b5 (b := (!decide ((a8 ts (p_0_1' + 1)).1 = 1)) || (!decide (e8 ((a8 ts (p_0_1' + 1)).2.2) = 0))) rfl (fun hb => ?_) (fun hb => ?_)
  ·replace h := j4 h hb
   refine a6 ?_
   refine wm ?_
   obtain ⟨o_36', h⟩ := h
   refine WL.pick (H' := [HA.blk pb (.cells [j7 wa 3 (p_0_1' + 1), zI p_1_1'].toArray 55 (0, 0)), HA.row wa 102 3 ts.length (ts.flatMap g9), HA.blk b_5' (.cells [zI ((a8 ts (p_0_1' + 1)).1), zI ((a8 ts (p_0_1' + 1)).2.1), st ((a8 ts (p_0_1' + 1)).2.2)].toArray 102 (0, 0)), HA.row w_3' 41 3 l_1'.length (l_1'.flatMap adf), HA.blk b (.cells [w_3', Value.nilIface].toArray 39 (0, 0)), pool c_1']) [1, 2, 0, 3, 4, 5] rfl rfl ?_
   refine WL.callS ach rfl (aa0 pb wa ts (p_0_1' + 1) p_1_1' 60 o_36') rfl trivial rfl rfl (fun r H' hS => by cases hS) (fun c H' hS => ?_)
   cases hS
   exact hE.pan [0, 1, 5] rfl rfl (.inr ⟨_, _, _, _, _, h, rfl⟩)
  ·replace h := j5 h hb
   refine b7 ?_
   refine kg (hK_31' [(0, zP pb), (3, zP b), (4, zP b_5')] _ ?_)
   refine a7 (fun _ hK_34' => ?_)
   refine a6 ?_
   refine wm ?_
   obtain ⟨o_37', h⟩ := h
   refine WL.pick (H' := [HA.blk pb (.cells [j7 wa 3 (p_0_1' + 1), zI p_1_1'].toArray 55 (0, 0)), HA.row wa 102 3 ts.length (ts.flatMap g9), HA.blk b_5' (.cells [zI ((a8 ts (p_0_1' + 1)).1), zI ((a8 ts (p_0_1' + 1)).2.1), st ((a8 ts (p_0_1' + 1)).2.2)].toArray 102 (0, 0)), HA.row w_3' 41 3 l_1'.length (l_1'.flatMap adf), HA.blk b (.cells [w_3', Value.nilIface].toArray 39 (0, 0)), pool c_1']) [1, 2, 0, 3, 4, 5] rfl rfl ?_
   refine WL.call x6 rfl (w8 pb wa ts (p_0_1' + 1) p_1_1' o_37') rfl trivial rfl rfl ?_
   refine WL.nil ?_
   refine kg (hK_34' [(0, zP pb), (3, zP b), (4, zP b_5')] _ ?_)
   refine a7 (fun _ hK_35' => ?_)
   refine a6 ?_
   refine wm ?_
   obtain ⟨o_38', h⟩ := h
   refine WL.callS acj rfl (acm pb wa ts (p_0_1' + 1 + 1) p_1_1' ([61] : List UInt8) o_38') rfl trivial rfl rfl (fun r H' hS => ?_) (fun c H' hS => ?_)
   ·rcases hS with ⟨k_8', op_8', hc, ho⟩ | ⟨ec_6', ep_6', hc, ho⟩ <;> cases ho
    replace h := h.1 k_8' op_8' hc
    refine WL.nil ?_
    refine kg (hK_35' [(0, zP pb), (3, zP b), (4, zP b_5')] _ ?_)
    refine a7 (fun _ hK_36' => ?_)
    refine aht 10 [2, 4] [HA.blk b_5' (.cells [zI ((a8 ts (p_0_1' + 1)).1), zI ((a8 ts (p_0_1' + 1)).2.1), st ((a8 ts (p_0_1' + 1)).2.2)].toArray 102 (0, 0)), HA.blk b (.cells [w_3', Value.nilIface].toArray 39 (0, 0))] rfl rfl j3 (by kernel_rfl) (fun T_2' hT_2' => ?_)
    refine TW.val (OV.move rfl) rfl rfl rfl ?_
    refine TW.val (OV.move rfl) rfl rfl rfl ?_
    refine TW.val (OV.nilCheck rfl) rfl rfl rfl ?_
    refine TW.val (OV.fieldAddr0 rfl aat) rfl rfl rfl ?_
    refine TW.val (OV.load rfl (At.own 1 rfl) rfl aet) rfl rfl rfl ?_
    refine TW.val (OV.fieldAddr0 rfl o7) rfl rfl rfl ?_
    refine TW.val (OV.load rfl (At.own 0 rfl) rfl b6) rfl rfl rfl ?_
    refine TW.val (OV.fieldAddr0 rfl k7) rfl rfl rfl ?_
    refine TW.val (OV.load rfl (At.own 0 rfl) rfl c6) rfl rfl rfl ?_
    refine TW.val (OV.move rfl) rfl rfl rfl ?_
    refine TW.nil (hT_2' _ ?_)
    obtain ⟨o_39', h⟩ := h
    obtain ⟨o_40', h⟩ := h
    refine WLX.pick (H' := [HA.blk pb (.cells [j7 wa 3 k_8', zI op_8'].toArray 55 (0, 0)), HA.row wa 102 3 ts.length (ts.flatMap g9), pool c_1', HA.blk b_5' (.cells [zI ((a8 ts (p_0_1' + 1)).1), zI ((a8 ts (p_0_1' + 1)).2.1), st ((a8 ts (p_0_1' + 1)).2.2)].toArray 102 (0, 0)), HA.row w_3' 41 3 l_1'.length (l_1'.flatMap adf), HA.blk b (.cells [w_3', Value.nilIface].toArray 39 (0, 0))]) [0, 1, 5, 2, 3, 4] rfl rfl ?_
    refine WLX.callS [0, 2] rfl (EN.fn aap rfl) rfl (o_39' pb wa op_8' c_1' o_40') rfl rfl ⟨.inr (List.mem_of_getElem? (i := 0) rfl), trivial⟩ rfl rfl (fun v_2' H' hS => ?_) (fun c H' hS => ?_)
    ·rcases hS with ⟨_, e_2', k_9', op_9', B_4', hc, ho⟩ | ⟨ec_7', ep_7', k_10', op_10', B_5', hc, ho⟩ <;> cases ho
     replace h := h.1 v_2' e_2' k_9' op_9' B_4' hc
     obtain ⟨o_41', h⟩ := h
     refine WLX.op [3, 5] rfl rfl (OpK.val (OV.buildC (qs := [(0, [zI ((a8 ts (p_0_1' + 1)).2.1)]), (1, [st ((a8 ts (p_0_1' + 1)).2.2)]), (2, [v_2'])]) (cs := [zI ((a8 ts (p_0_1' + 1)).2.1), st ((a8 ts (p_0_1' + 1)).2.2), v_2']) rfl ⟨rfl, rfl, ⟨rfl, rfl, ⟨rfl, x8 o_41', trivial⟩⟩⟩ rfl) rfl rfl) rfl ?_
     refine WLX.make (MV.buildSlice (cs := [zI ((a8 ts (p_0_1' + 1)).2.1), st ((a8 ts (p_0_1' + 1)).2.2), v_2']) rfl ady (by kernel_rfl)) [4, 6] rfl (fun _ => rfl) rfl rfl rfl (fun b_6' => ?_)
     obtain ⟨o_42', h⟩ := h
     obtain ⟨o_43', h⟩ := h
     refine WLX.valX (agh (f := adf) (ms := [((((a8 ts (p_0_1' + 1)).2.1), (a8 ts (p_0_1' + 1)).2.2, v_2') : aay)]) 5 0 rfl rfl rfl rfl rfl rfl ahk (by decide) (aqb o_42') ady amf rfl o_43') [4, 6] rfl (fun _ _ e => by cases e; rfl) rfl rfl rfl (fun w_4' _ e => ?_)
     cases e
     refine WLX.op [4, 6] rfl rfl (OpK.val (OV.nilCheck rfl) rfl rfl) rfl ?_
     refine WLX.op [4, 6] rfl rfl (OpK.val (OV.fieldAddr0 rfl aat) rfl rfl) rfl ?_
     refine WLX.opZ (OpK.storeSl (cs' := [w_4', Value.nilIface]) 6 5 rfl rfl rfl rfl amw (Nat.le_of_ble_eq_true rfl) rfl) rfl ?_
     refine WLX.nil ?_
     refine kg (hK_36' [(0, zP pb), (3, zP b)] _ ?_)
     refine a6 ?_
     refine wm ?_
     obtain ⟨o_44', h⟩ := h
     refine WL.pick (H' := [HA.blk pb (.cells [j7 wa 3 k_9', zI op_9'].toArray 55 (0, 0)), HA.row wa 102 3 ts.length (ts.flatMap g9), HA.blk b_6' (.cells [zI ((a8 ts (p_0_1' + 1)).2.1), st ((a8 ts (p_0_1' + 1)).2.2), v_2'].toArray 41 (0, 0)), pool B_4', HA.blk b_5' (.cells [zI ((a8 ts (p_0_1' + 1)).1), zI ((a8 ts (p_0_1' + 1)).2.1), st ((a8 ts (p_0_1' + 1)).2.2)].toArray 102 (0, 0)), HA.row w_4' 41 3 (l_1' ++ [((((a8 ts (p_0_1' + 1)).2.1), (a8 ts (p_0_1' + 1)).2.2, v_2') : aay)]).length ((l_1' ++ [((((a8 ts (p_0_1' + 1)).2.1), (a8 ts (p_0_1' + 1)).2.2, v_2') : aay)]).flatMap adf), HA.blk b (.cells [w_4', Value.nilIface].toArray 39 (0, 0))]) [1, 2, 0, 3, 4, 5, 6] rfl rfl ?_
     refine WL.callS acj rfl (acm pb wa ts k_9' op_9' ([59] : List UInt8) o_44') rfl trivial rfl rfl (fun r H' hS => ?_) (fun c H' hS => ?_)
     ·rcases hS with ⟨k_11', op_11', hc, ho⟩ | ⟨ec_8', ep_8', hc, ho⟩ <;> cases ho
      replace h := h.1 k_11' op_11' hc
      refine WL.nil ?_
      exact kh (hK_25' (w_4', l_1' ++ [((((a8 ts (p_0_1' + 1)).2.1), (a8 ts (p_0_1' + 1)).2.2, v_2') : aay)], k_11', op_11', B_4') h.1 h.2) [5, 6, 0, 1, 3]
     ·rcases hS with ⟨k_11', op_11', hc, ho⟩ | ⟨ec_8', ep_8', hc, ho⟩ <;> cases ho
      replace h := h.2 ec_8' ep_8' hc
      exact hE.pan [0, 1, 3] rfl rfl (.inr ⟨_, _, _, _, _, h, rfl⟩)
    ·rcases hS with ⟨_, e_2', k_9', op_9', B_4', hc, ho⟩ | ⟨ec_7', ep_7', k_10', op_10', B_5', hc, ho⟩ <;> cases ho
     replace h := h.2 ec_7' ep_7' k_10' op_10' B_5' hc
     refine QX.strong ?_
     exact hE.pan [0, 1, 2] rfl rfl (.inr ⟨_, _, _, _, _, h, rfl⟩)
   ·rcases hS with ⟨k_8', op_8', hc, ho⟩ | ⟨ec_6', ep_6', hc, ho⟩ <;> cases ho
    replace h := h.2 ec_6' ep_6' hc
    exact hE.pan [0, 1, 5] rfl rfl (.inr ⟨_, _, _, _, _, h, rfl⟩)
 ·replace h := j5 h hb
  refine p9 ?_
  refine kg (hK_2' [(0, zP pb), (3, zP b)] _ ?_)
  refine a7 (fun _ hK_37' => ?_)
  refine a6 ?_
  refine wm ?_
  refine wm ?_
  obtain ⟨o_45', h⟩ := h
  obtain ⟨o_46', h⟩ := h
  refine WL.pick (H' := [HA.blk pb (.cells [j7 wa 3 p_0_1', zI p_1_1'].toArray 55 (0, 0)), HA.row wa 102 3 ts.length (ts.flatMap g9), pool c_1', HA.row w_3' 41 3 l_1'.length (l_1'.flatMap adf), HA.blk b (.cells [w_3', Value.nilIface].toArray 39 (0, 0))]) [0, 1, 4, 2, 3] rfl rfl ?_
  refine WL.callS aap rfl (o_45' pb wa p_1_1' c_1' o_46') rfl ⟨.inr (List.mem_of_getElem? (i := 0) rfl), trivial⟩ rfl rfl (fun v_3' H' hS => ?_) (fun c H' hS => ?_)
  ·rcases hS with ⟨_, e_3', k_12', op_12', B_6', hc, ho⟩ | ⟨ec_9', ep_9', k_13', op_13', B_7', hc, ho⟩ <;> cases ho
   replace h := h.1 v_3' e_3' k_12' op_12' B_6' hc
   refine wv (OV.nilCheck rfl) ?_
   refine wv (OV.fieldAddr0 rfl aas) ?_
   obtain ⟨o_47', h⟩ := h
   refine WL.store (vs := [v_3']) (cs' := [w_3', v_3']) 4 rfl rfl rfl (x8 o_47') ami (Nat.le_of_ble_eq_true rfl) (f8 o_47' x5) rfl rfl ?_
   refine WL.nil ?_
   refine kg (hK_37' [(0, zP pb), (3, zP b)] _ ?_)
   refine a7 (fun _ hK_38' => ?_)
   refine a7 (fun _ hK_39' => ?_)
   refine a6 ?_
   refine wm ?_
   obtain ⟨o_48', h⟩ := h
   refine WL.call u7 rfl (t7 pb wa ts k_12' op_12' o_48') rfl trivial rfl rfl ?_
   refine wv (OV.field rfl ab3 b6 rfl) ?_
   refine wv (OV.neq rfl rfl) ?_
   refine WL.nil ?_
   refine kg (hK_39' [(0, zP pb), (3, zP b), (62, zB (!decide ((a8 ts k_12').1 = 0)))] _ ?_)
   refine b5 (b := !decide ((a8 ts k_12').1 = 0)) rfl (fun hb => ?_) (fun hb => ?_)
   ·replace h := j4 h hb
    refine a6 ?_
    refine wm ?_
    obtain ⟨o_49', h⟩ := h
    refine WL.callS ach rfl (aa0 pb wa ts k_12' op_12' 60 o_49') rfl trivial rfl rfl (fun r H' hS => by cases hS) (fun c H' hS => ?_)
    cases hS
    exact hE.pan [0, 1, 2] rfl rfl (.inr ⟨_, _, _, _, _, h, rfl⟩)
   ·replace h := j5 h hb
    refine b7 ?_
    refine kg (hK_38' [(3, zP b)] _ ?_)
    refine a7 (fun _ hK_40' => ?_)
    refine a6 ?_
    refine wm ?_
    refine wA ?_
    refine WL.nil ?_
    refine kg (hK_40' [(2, zP b)] _ ?_)
    refine c7 ?_
    refine QX.pick (H' := [HA.row w_3' 41 3 l_1'.length (l_1'.flatMap adf), pool B_6', HA.blk pb (.cells [j7 wa 3 k_12', zI op_12'].toArray 55 (0, 0)), HA.row wa 102 3 ts.length (ts.flatMap g9), HA.blk b (.cells [w_3', v_3'].toArray 39 (0, 0))]) [3, 2, 0, 1, 4] rfl rfl ?_
    refine QX.absorbRow0 (fun R hl => ?_)
    refine QX.pick (H' := [HA.blk b (.cells [w_3', v_3'].toArray 39 (0, 0)), pool (R ++ B_6'), HA.blk pb (.cells [j7 wa 3 k_12', zI op_12'].toArray 55 (0, 0)), HA.row wa 102 3 ts.length (ts.flatMap g9)]) [3, 0, 1, 2] rfl rfl ?_
    refine QX.absorb ?_
    exact hE.ret [1, 2, 0] rfl rfl (.inl ⟨_, _, _, _, _, (h b w_3' R hl), rfl⟩) (e9.of1 rfl (RV.tmp rfl))
  ·rcases hS with ⟨_, e_3', k_12', op_12', B_6', hc, ho⟩ | ⟨ec_9', ep_9', k_13', op_13', B_7', hc, ho⟩ <;> cases ho
   replace h := h.2 ec_9' ep_9' k_13' op_13' B_7' hc
   exact hE.pan [0, 1, 2] rfl rfl (.inr ⟨_, _, _, _, _, h, rfl⟩)
section
abbrev PgS (pb : Nat) (wa : Value) (ts : List Tok) (B : List (Nat × Obj)) : Out → Prop := fun out =>
 (∃ v l a k o B2, (w6 ts = .ok (l, a) ∧ anr B2 v l a ∧ ∀ p ∈ B, p ∈ B2) ∧ out = .ret v (syH pb wa ts k o ++ [pool B2])) ∨ (∃ c p k o B2, w6 ts = .error (c, p) ∧ out = .pan [{ v := aai c p, recovered := false }] (syH pb wa ts k o ++ [pool B2]))
theorem aks (te : TypeId) (fre : Nat × Nat) (pb : Nat) (wa : Value) (ts : List Tok) (B : List (Nat × Obj)) (hp : POK ts 0 0) :
  d9 Tryd.prog 17 [.pointer (some ⟨pb, 0, none⟩)] (ab2 te fre) (syH pb wa ts 0 0 ++ [pool B]) (PgS pb wa ts B) := by
 have hE : ∀ k l, EAt te fre ts k l := fun k => arm te fre ts ts.length k (by omega)
 refine (amt pb wa te fre ts 0 0 B (fun v _ _ ts2 B2 => (∃ l a, w6 ts = .ok (l, a) ∧ anr B2 v l a ∧ ∀ p ∈ B, p ∈ B2) ∧ ts2 = ts) (fun v _ _ ts2 _ => (∃ c p, w6 ts = .error (c, p) ∧ v = aai c p) ∧ ts2 = ts) ?_).weak ?_
 ·unfold aep
  refine ⟨fun ds k' o' c' => ∃ f l, w6 ts = al9 ts (pD ts (BIG ts) f l (k', o')) ∧ TDs c' l ds ∧ k' < ts.length ∧ ts.length < f + k' ∧ o' = 0 ∧ ds.length ≤ k' ∧ ∀ p ∈ B, p ∈ c', fun _ k' _ _ => ts.length - k', ⟨BIG ts, [], abr ts, trivial, hp.1, by unfold BIG; omega, rfl, Nat.le_refl _, fun p h => h⟩, fun ds k' o' c' hi => ?_⟩
  obtain ⟨f, l, i1, i2, i3, i4, rfl, i5, i6⟩ := hi
  obtain ⟨f, rfl⟩ : ∃ g, f = g + 1 := ⟨f - 1, by omega⟩
  rw [ak9] at i1
  dsimp only at i1
  have hlen := hp.2.2.2.2
  refine ⟨i3, fun _ => i3, ?_⟩
  by_cases h1 : (a8 ts k').1 = 1 ∧ (a8 ts k').2.2 = [108, 101, 116]
  ·rw [if_pos (by rw [Bool.and_eq_true, decide_eq_true_eq, decide_eq_true_eq]; exact h1)]
   rw [if_pos h1] at i1
   have g1 : k' + 1 < ts.length := (hp.at i3).next (by rw [h1.1]; decide)
   refine ⟨i3, g1, ?_⟩
   by_cases h2 : (a8 ts (k' + 1)).1 ≠ 1 ∨ e8 (a8 ts (k' + 1)).2.2 ≠ 0
   ·rw [if_pos (by simpa using h2)]
    rw [if_pos h2] at i1
    exact ⟨g1, ⟨60, _, i1, rfl⟩, rfl⟩
   ·rw [if_neg (by simpa using h2)]
    rw [if_neg h2] at i1
    have h3 : (a8 ts (k' + 1)).1 = 1 := by
     by_cases h : (a8 ts (k' + 1)).1 = 1
     ·exact h
     ·exact absurd (.inl h) h2
    have g2 : k' + 1 + 1 < ts.length := (hp.at g1).next (by rw [h3]; decide)
    refine ⟨g1, ⟨hp.at g2, by decide⟩, fun k2 o2 hw => ?_, fun c p hw => ⟨⟨c, p, by rw [i1, hw]; rfl, rfl⟩, rfl⟩⟩
    rw [hw] at i1
    obtain ⟨w1, w2⟩ := aab hw
    cases w2
    dsimp only at i1
    have g3 : k' + 1 + 1 + 1 < ts.length := (hp.at g2).next (by rw [(q9 w1).1]; decide)
    refine ⟨hE _ _, ⟨hp.at g3, by decide, by decide⟩, fun v e k3 o3 B3 hr => ?_, fun c p k3 o3 B3 hr => ⟨⟨c, p, by rw [i1, show sE ts 0 (k' + 1 + 1 + 1, 0) = _ from hr]; rfl, rfl⟩, rfl⟩⟩
    obtain ⟨r1, r2, r3⟩ := hr
    obtain ⟨r6, _, r7⟩ := abu r1
    dsimp only at r6 r7
    subst r7
    rw [r1] at i1
    dsimp only at i1
    have g4 : k3 < ts.length := af9 hp.2.2.1 r1
    refine ⟨r2.one, r2.one, ⟨by omega, by omega⟩, ⟨hp.at g4, by decide⟩, fun k4 o4 hw2 => ?_, fun c p hw2 => ⟨⟨c, p, by rw [i1, hw2]; rfl, rfl⟩, rfl⟩⟩
    rw [hw2] at i1
    obtain ⟨w3, w4⟩ := aab hw2
    cases w4
    dsimp only at i1
    have g5 : k3 + 1 < ts.length := (hp.at g4).next (by rw [(q9 w3).1]; decide)
    exact ⟨⟨f, _, i1, TDs.snoc (d := ((a8 ts (k' + 1)).2.1, (a8 ts (k' + 1)).2.2, e)) r2 (i2.more r3), g5, by dsimp only; omega, rfl, by rw [List.length_append, List.length_singleton]; dsimp only; omega, fun p hp => r3 p (i6 p hp)⟩, by show ts.length - (k3 + 1) < ts.length - k'; omega⟩
  ·rw [if_neg (by rw [Bool.and_eq_true, decide_eq_true_eq, decide_eq_true_eq]; exact h1)]
   rw [if_neg h1] at i1
   unfold al9 at i1
   dsimp only at i1
   refine ⟨hE _ _, ⟨hp.at i3, by decide, by decide⟩, fun v e k3 o3 B3 hr => ?_, fun c p k3 o3 B3 hr => ⟨⟨c, p, by rw [i1, show sE ts 0 (k', 0) = _ from hr], rfl⟩, rfl⟩⟩
   obtain ⟨r1, r2, r3⟩ := hr
   rw [r1] at i1
   dsimp only at i1
   have g4 : k3 < ts.length := af9 hp.2.2.1 r1
   refine ⟨r2.one, g4, ?_⟩
   by_cases h0 : (a8 ts k3).1 = 0
   ·rw [if_neg (by simpa using h0)]
    rw [if_pos h0] at i1
    intro b w B1 hw
    refine ⟨⟨l, e, i1, ⟨b, w, v, ds, B1, rfl, i2.more fun p hp => List.mem_cons_of_mem _ (List.mem_append.2 (.inr (r3 p hp))), TV.more (fun p hp => List.mem_cons_of_mem _ (List.mem_append.2 (.inr hp))) _ _ r2, hw, fun p hp => List.mem_cons_of_mem _ (List.mem_append.2 (.inl hp)), List.mem_cons_self⟩, fun p hp => List.mem_cons_of_mem _ (List.mem_append.2 (.inr (r3 p (i6 p hp))))⟩, rfl⟩
   ·rw [if_pos (by simpa using h0)]
    rw [if_neg h0] at i1
    exact ⟨g4, ⟨60, _, i1, rfl⟩, rfl⟩
 ·rintro x (⟨v, k2, o2, ts2, B2, ⟨⟨l, a, h1, h2, h3⟩, rfl⟩, rfl⟩ | ⟨v, k2, o2, ts2, B2, ⟨⟨c, p, he, rfl⟩, rfl⟩, rfl⟩)
  ·exact .inl ⟨_, l, a, k2, o2, B2, ⟨h1, h2, h3⟩, rfl⟩
  ·exact .inr ⟨c, p, k2, o2, B2, he, rfl⟩
end
end Go.Proofs.YtifajndacnfcbaaDoor
namespace Go.Proofs.YtifajndacnfcbaaDoor
open Go Go.RowKit
theorem af4 {s r : List UInt8} {i : Int} (h : 0 ≤ i ∧ i < s.length) : bt (s ++ r) i = bt s i := by
 unfold bt
 rw [List.getD_eq_getElem?_getD, List.getD_eq_getElem?_getD, List.getElem?_append_left (by omega)]
theorem af5 {p t : List UInt8} {i : Int} (h : 0 ≤ i) : bt (p ++ t) (p.length + i) = bt t i := by
 unfold bt
 rw [List.getD_eq_getElem?_getD, List.getD_eq_getElem?_getD, List.getElem?_append_right (by omega), show ((p.length : Int) + i).toNat - p.length = i.toNat by omega]
theorem akl {p t : List UInt8} {i : Int} (h : 0 ≤ i) : (p ++ t).drop ((p.length : Int) + i).toNat = t.drop i.toNat := by
 rw [show ((p.length : Int) + i).toNat = p.length + i.toNat by omega, ← List.drop_drop, List.drop_left]
theorem ajr {s r : List UInt8} {i : Int} (h : 0 ≤ i ∧ i ≤ s.length) : (s ++ r).drop i.toNat = s.drop i.toNat ++ r := by
 rw [List.drop_append_of_le_length (by omega)]
section ahead
variable {s t : List UInt8}
theorem aky : ((s ++ 10 :: t).length : Int) = s.length + 1 + t.length := by simp; omega
theorem ale : ∀ (cm : Bool) (x : List UInt8), aa7 cm (x ++ 10 :: t) = if aa7 cm x = x.length then x.length + 1 + aa7 false t else aa7 cm x
 | cm, [] => by
  rw [List.nil_append, aa7]
  cases cm <;> simp [aa7]
 | cm, c :: x => by
  have ih := ale ((cm || c == 35) && c != 10) x
  rw [List.cons_append, aa7, aa7]
  by_cases h : (((cm || c == 35) && c != 10) || c == 32 || c == 9 || c == 10 || c == 13) = true
  ·rw [if_pos h, if_pos h, ih, List.length_cons]
   by_cases h2 : aa7 ((cm || c == 35) && c != 10) x = x.length
   ·rw [if_pos h2, if_pos (by omega)]; omega
   ·rw [if_neg h2, if_neg (by omega)]
  ·rw [if_neg h, if_neg h, if_neg (by simp)]
def aem (s t : List UInt8) (a : Int) : Int := if a < s.length then a else s.length + 1 + o1 t 0
theorem akw {q : Int} (h : 0 ≤ q ∧ q ≤ s.length) : o1 (s ++ 10 :: t) q = aem s t (o1 s q) := by
 have hb := o5 h
 unfold aem
 have h1 : o1 (s ++ 10 :: t) q = q + aa7 false (s.drop q.toNat ++ 10 :: t) := by unfold o1; rw [ajr h]
 rw [h1, ale]
 have hl : (s.drop q.toNat).length = s.length - q.toNat := List.length_drop
 by_cases h2 : aa7 false (s.drop q.toNat) = (s.drop q.toNat).length
 ·rw [if_pos h2, if_neg (by unfold o1; omega)]
  unfold o1
  rw [show (0 : Int).toNat = 0 from rfl, List.drop_zero]; omega
 ·have := ajv false (s.drop q.toNat)
  rw [if_neg h2, if_pos (by unfold o1; omega)]; rfl
theorem aja : ∀ x : List UInt8, s7 (x ++ 10 :: t) = s7 x
 | [] => by rw [List.nil_append, s7]; rfl
 | c :: x => by rw [List.cons_append, s7, s7, aja x]
theorem akb {i j : Int} {r : List UInt8} (h : 0 ≤ i ∧ i ≤ j ∧ j ≤ s.length) : cut (s ++ r) i j = cut s i j := by
 unfold cut
 rw [ajr ⟨h.1, by omega⟩, List.take_append_of_le_length (by rw [List.length_drop]; omega)]
theorem aq2 {a c q : Int} (h0 : 0 ≤ a) (h : t6 s a = (c, true, q)) : t6 (s ++ 10 :: t) a = (c, true, q) := by
 have hl := aky (s := s) (t := t)
 unfold t6 at h ⊢
 simp only at h ⊢
 by_cases h1 : (s.length : Int) ≤ a + 1
 ·rw [if_pos h1] at h; simp at h
 ·rw [if_neg h1] at h
  rw [if_neg (by omega), af4 (r := 10 :: t) ⟨by omega, by omega⟩]
  generalize bt s (a + 1) = b at h ⊢
  by_cases c1 : b = 110
  ·rw [if_pos c1] at h ⊢; exact h
  ·rw [if_neg c1] at h ⊢
   by_cases c2 : b = 114
   ·rw [if_pos c2] at h ⊢; exact h
   ·rw [if_neg c2] at h ⊢
    by_cases c3 : b = 116
    ·rw [if_pos c3] at h ⊢; exact h
    ·rw [if_neg c3] at h ⊢
     by_cases c4 : b = 34 ∨ b = 92
     ·rw [if_pos c4] at h ⊢; exact h
     ·rw [if_neg c4] at h ⊢
      by_cases c5 : b = 120
      ·rw [if_pos c5] at h ⊢
       by_cases d1 : (s.length : Int) ≤ a + 2
       ·rw [if_pos d1] at h; simp at h
       ·rw [if_neg d1] at h
        rw [if_neg (by omega), af4 (r := 10 :: t) ⟨by omega, by omega⟩]
        by_cases d2 : aam (bt s (a + 2)) < 0
        ·rw [if_pos d2] at h; simp at h
        ·rw [if_neg d2] at h ⊢
         by_cases d3 : (s.length : Int) ≤ a + 3
         ·rw [if_pos d3] at h; simp at h
         ·rw [if_neg d3] at h
          rw [if_neg (by omega), af4 (r := 10 :: t) ⟨by omega, by omega⟩]
          exact h
      ·rw [if_neg c5] at h; simp at h
theorem adn {fr : Int} : ∀ {n m : Nat} {out : List UInt8} {k : Int} {r : List UInt8 × Int}, 0 ≤ k → n ≤ m → j6 s fr n out k = .ok r → j6 (s ++ 10 :: t) fr m out k = .ok r
 | 0, _, _, _, _, _, _, h => by cases h
 | n + 1, m, out, k, r, h0, hm, h => by
  obtain ⟨m, rfl⟩ : ∃ q, m = q + 1 := ⟨m - 1, by omega⟩
  have hl := aky (s := s) (t := t)
  rw [j6] at h ⊢
  by_cases hk : k < s.length
  ·rw [if_pos hk] at h
   rw [if_pos (by omega), af4 (r := 10 :: t) ⟨h0, hk⟩]
   by_cases e1 : bt s k = 34
   ·rw [if_pos e1] at h ⊢; exact h
   ·rw [if_neg e1] at h ⊢
    by_cases e2 : m9 (bt s k) = false
    ·rw [if_pos e2] at h; cases h
    ·rw [if_neg e2] at h ⊢
     by_cases e3 : bt s k ≠ 92
     ·rw [if_pos e3] at h ⊢
      exact adn (by omega) (by omega) h
     ·rw [if_neg e3] at h ⊢
      by_cases e4 : (s.length : Int) ≤ (t6 s k).2.2
      ·rw [if_pos e4] at h; cases h
      ·rw [if_neg e4] at h
       by_cases e5 : (t6 s k).2.1 = false
       ·rw [if_pos e5] at h; cases h
       ·rw [if_neg e5] at h
        have he : t6 s k = ((t6 s k).1, true, (t6 s k).2.2) := by
         have : (t6 s k).2.1 = true := by simpa using e5
         rw [← this]
        have he2 := aq2 (t := t) h0 he
        have hq := agu he
        rw [he2]
        simp only
        rw [if_neg (by omega), if_neg (by simp)]
        exact adn (by omega) (by omega) h
  ·rw [if_neg hk] at h; cases h
theorem aeo {fr : Int} (hfr : 0 ≤ fr) : ∀ {n m : Nat} {k : Int} {r : List UInt8 × Int}, fr + 1 ≤ k → n ≤ m → l5 s fr n k = .ok r → l5 (s ++ 10 :: t) fr m k = .ok r
 | 0, _, _, _, _, _, h => by cases h
 | n + 1, m, k, r, h0, hm, h => by
  obtain ⟨m, rfl⟩ : ∃ q, m = q + 1 := ⟨m - 1, by omega⟩
  have hl := aky (s := s) (t := t)
  rw [l5] at h ⊢
  by_cases hk : k < s.length
  ·rw [if_pos hk] at h
   rw [if_pos (by omega), af4 (r := 10 :: t) ⟨by omega, hk⟩]
   by_cases e1 : bt s k = 92 ∧ k + 1 < s.length
   ·rw [if_pos e1] at h
    rw [if_pos ⟨e1.1, by omega⟩, af4 (r := 10 :: t) ⟨by omega, e1.2⟩]
    by_cases e2 : m9 (bt s (k + 1)) = false
    ·rw [if_pos e2] at h; cases h
    ·rw [if_neg e2] at h ⊢
     exact aeo hfr (by omega) (by omega) h
   ·rw [if_neg e1] at h
    by_cases e2 : m9 (bt s k) = false
    ·rw [if_pos e2] at h; cases h
    ·rw [if_neg e2] at h
     by_cases e3 : bt s k = 47
     ·rw [if_pos e3] at h
      rw [if_neg (by omega), if_neg e2, if_pos e3, akb ⟨by omega, by omega, by omega⟩]; exact h
     ·rw [if_neg e3] at h
      by_cases e4 : bt s k = 92
      ·have : ¬ k + 1 < s.length := fun x => e1 ⟨e4, x⟩
       cases n with
       | zero => cases h
       | succ n => rw [l5, if_neg (by omega)] at h; cases h
      ·rw [if_neg (by omega), if_neg e2, if_neg e3]
       exact aeo hfr (by omega) (by omega) h
  ·rw [if_neg hk] at h; cases h
theorem arc {a : Int} {r : Tok × Int} (hb : 0 ≤ a ∧ a < s.length) (h : z7 s a = .ok r) : z7 (s ++ 10 :: t) a = .ok r := by
 have hl := aky (s := s) (t := t)
 have hlen : (s ++ 10 :: t).length = s.length + 1 + t.length := by simp; omega
 have hd : (s ++ 10 :: t).drop a.toNat = s.drop a.toNat ++ 10 :: t := ajr ⟨hb.1, by omega⟩
 have hn := ag3 (s.drop a.toNat)
 rw [List.length_drop] at hn
 unfold z7 at h ⊢
 rw [af4 (r := 10 :: t) hb, hd, aja]
 by_cases e1 : j9 (bt s a) = true
 ·rw [if_pos e1] at h ⊢
  by_cases e2 : (s7 (s.drop a.toNat) : Int) > 32
  ·rw [if_pos e2] at h; cases h
  ·rw [if_neg e2] at h ⊢
   rw [akb ⟨hb.1, by omega, by omega⟩]; exact h
 ·rw [if_neg e1] at h ⊢
  by_cases e2 : bt s a = 34
  ·rw [if_pos e2] at h ⊢
   unfold v8 at h ⊢
   cases hq : j6 s a (s.length + 1) [] (a + 1) with
   | error e => rw [hq] at h; cases h
   | ok x => rw [hq] at h; rw [adn (by omega) (by omega) hq]; exact h
  ·rw [if_neg e2] at h ⊢
   by_cases e3 : bt s a = 47
   ·rw [if_pos e3] at h ⊢
    unfold z8 at h ⊢
    cases hq : l5 s a (s.length + 1) (a + 1) with
    | error e => rw [hq] at h; cases h
    | ok x => rw [hq] at h; rw [aeo hb.1 (by omega) (by omega) hq]; exact h
   ·rw [if_neg e3] at h ⊢
    by_cases e4 : aah.contains (bt s a).toNat.toUInt8 = true
    ·rw [if_pos e4] at h ⊢
     rw [akb ⟨hb.1, by omega, by omega⟩]; exact h
    ·rw [if_neg e4] at h ⊢
     by_cases e5 : a + 1 < s.length ∧ bt s a = 62 ∧ bt s (a + 1) = 62
     ·rw [if_pos e5] at h
      rw [if_pos ⟨by omega, e5.2.1, by rw [af4 (r := 10 :: t) ⟨by omega, e5.1⟩]; exact e5.2.2⟩]; exact h
     ·rw [if_neg e5] at h; cases h
theorem aje : ∀ {n : Nat} {l l1 : List Tok} {a : Int}, 0 ≤ a → a ≤ s.length → q6 s n l a = .ok l1 →
  ∃ init, l1 = init ++ [((0, (s.length : Int), []) : Tok)] ∧ ∀ m, ((s ++ 10 :: t).length - aem s t a).toNat < m → ∃ m', ((s ++ 10 :: t).length - (s.length + 1 + o1 t 0)).toNat < m' ∧ q6 (s ++ 10 :: t) m l (aem s t a) = q6 (s ++ 10 :: t) m' init (s.length + 1 + o1 t 0)
 | 0, _, _, _, _, _, h => by cases h
 | n + 1, l, l1, a, h0, h1, h => by
  have hl := aky (s := s) (t := t)
  rw [q6] at h
  by_cases ha : a < s.length
  ·rw [if_pos ha] at h
   cases ho : z7 s a with
   | error e => rw [ho] at h; cases h
   | ok r =>
    rw [ho] at h
    have hq := aac ⟨h0, ha⟩ (k := r.1) (q := r.2) ho
    have hg := o5 (t := s) (a := r.2) ⟨by omega, hq.2⟩
    obtain ⟨init, e1, e2⟩ := aje (by omega) hg.2 h
    refine ⟨init, e1, fun m hm => ?_⟩
    have hp : aem s t a = a := by unfold aem; rw [if_pos ha]
    rw [hp] at hm ⊢
    obtain ⟨m, rfl⟩ : ∃ q, m = q + 1 := ⟨m - 1, by omega⟩
    have hg0 := o5 (t := t) (a := 0) ⟨by omega, by omega⟩
    have hpos : a < aem s t (o1 s r.2) := by unfold aem; split <;> omega
    obtain ⟨m', f1, f2⟩ := e2 m (by omega)
    refine ⟨m', f1, ?_⟩
    rw [q6, if_pos (by omega), arc ⟨h0, ha⟩ ho]
    simp only
    rw [akw ⟨by omega, hq.2⟩, f2]
  ·rw [if_neg ha] at h
   simp only [Except.ok.injEq] at h
   refine ⟨l, h.symm, fun m hm => ⟨m, ?_, ?_⟩⟩
   ·have hp : aem s t a = s.length + 1 + o1 t 0 := by unfold aem; rw [if_neg ha]
    rwa [hp] at hm
   ·have hp : aem s t a = s.length + 1 + o1 t 0 := by unfold aem; rw [if_neg ha]
    rw [hp]
end ahead
theorem ac3 {t : List UInt8} {fr : Int} : ∀ {n m : Nat} {out : List UInt8} {k : Int} {r : List UInt8 × Int}, n ≤ m → j6 t fr n out k = .ok r → j6 t fr m out k = .ok r
 | 0, _, _, _, _, _, h => by cases h
 | n + 1, m, out, k, r, hm, h => by
  obtain ⟨m, rfl⟩ : ∃ q, m = q + 1 := ⟨m - 1, by omega⟩
  rw [j6] at h ⊢
  by_cases hk : k < t.length
  ·rw [if_pos hk] at h ⊢
   by_cases e1 : bt t k = 34
   ·rw [if_pos e1] at h ⊢; exact h
   ·rw [if_neg e1] at h ⊢
    by_cases e2 : m9 (bt t k) = false
    ·rw [if_pos e2] at h; cases h
    ·rw [if_neg e2] at h ⊢
     by_cases e3 : bt t k ≠ 92
     ·rw [if_pos e3] at h ⊢; exact ac3 (by omega) h
     ·rw [if_neg e3] at h ⊢
      by_cases e4 : (t.length : Int) ≤ (t6 t k).2.2
      ·rw [if_pos e4] at h; cases h
      ·rw [if_neg e4] at h ⊢
       by_cases e5 : (t6 t k).2.1 = false
       ·rw [if_pos e5] at h; cases h
       ·rw [if_neg e5] at h ⊢; exact ac3 (by omega) h
  ·rw [if_neg hk] at h; cases h
theorem adx {t : List UInt8} {fr : Int} : ∀ {n m : Nat} {k : Int} {r : List UInt8 × Int}, n ≤ m → l5 t fr n k = .ok r → l5 t fr m k = .ok r
 | 0, _, _, _, _, h => by cases h
 | n + 1, m, k, r, hm, h => by
  obtain ⟨m, rfl⟩ : ∃ q, m = q + 1 := ⟨m - 1, by omega⟩
  rw [l5] at h ⊢
  by_cases hk : k < t.length
  ·rw [if_pos hk] at h ⊢
   by_cases e1 : bt t k = 92 ∧ k + 1 < t.length
   ·rw [if_pos e1] at h ⊢
    by_cases e2 : m9 (bt t (k + 1)) = false
    ·rw [if_pos e2] at h; cases h
    ·rw [if_neg e2] at h ⊢; exact adx (by omega) h
   ·rw [if_neg e1] at h ⊢
    by_cases e2 : m9 (bt t k) = false
    ·rw [if_pos e2] at h; cases h
    ·rw [if_neg e2] at h ⊢
     by_cases e3 : bt t k = 47
     ·rw [if_pos e3] at h ⊢; exact h
     ·rw [if_neg e3] at h ⊢; exact adx (by omega) h
  ·rw [if_neg hk] at h; cases h
section behind
variable {p t : List UInt8}
theorem aln : ((p ++ t).length : Int) = p.length + t.length := by simp
theorem asj {a : Int} (h : 0 ≤ a) : t6 (p ++ t) (p.length + a) = ((t6 t a).1, (t6 t a).2.1, p.length + (t6 t a).2.2) := by
 unfold t6
 have e1 : bt (p ++ t) (p.length + a + 1) = bt t (a + 1) := by rw [Int.add_assoc]; exact af5 (by omega)
 have e2 : bt (p ++ t) (p.length + a + 2) = bt t (a + 2) := by rw [Int.add_assoc]; exact af5 (by omega)
 have e3 : bt (p ++ t) (p.length + a + 3) = bt t (a + 3) := by rw [Int.add_assoc]; exact af5 (by omega)
 have g : ∀ k : Int, (((p ++ t).length : Int) ≤ p.length + a + k) = ((t.length : Int) ≤ a + k) := fun k => by rw [aln]; exact propext ⟨fun x => by omega, fun x => by omega⟩
 simp only [e1, e2, e3, g]
 by_cases d1 : (t.length : Int) ≤ a + 1
 ·simp only [if_pos d1, Int.add_assoc]
 ·simp only [if_neg d1]
  by_cases d2 : bt t (a + 1) = 110
  ·simp only [if_pos d2, Int.add_assoc]
  ·simp only [if_neg d2]
   by_cases d3 : bt t (a + 1) = 114
   ·simp only [if_pos d3, Int.add_assoc]
   ·simp only [if_neg d3]
    by_cases d4 : bt t (a + 1) = 116
    ·simp only [if_pos d4, Int.add_assoc]
    ·simp only [if_neg d4]
     by_cases d5 : bt t (a + 1) = 34 ∨ bt t (a + 1) = 92
     ·simp only [if_pos d5, Int.add_assoc]
     ·simp only [if_neg d5]
      by_cases d6 : bt t (a + 1) = 120
      ·simp only [if_pos d6]
       by_cases f1 : (t.length : Int) ≤ a + 2
       ·simp only [if_pos f1, Int.add_assoc]
       ·simp only [if_neg f1]
        by_cases f2 : aam (bt t (a + 2)) < 0
        ·simp only [if_pos f2, Int.add_assoc]
        ·simp only [if_neg f2]
         by_cases f3 : (t.length : Int) ≤ a + 3
         ·simp only [if_pos f3, Int.add_assoc]
         ·simp only [if_neg f3]
          by_cases f4 : aam (bt t (a + 3)) < 0
          ·simp only [if_pos f4, Int.add_assoc]
          ·simp only [if_neg f4, Int.add_assoc]
      ·simp only [if_neg d6, Int.add_assoc]
theorem aew {fr : Int} : ∀ {n : Nat} {out : List UInt8} {k : Int}, 0 ≤ k → j6 (p ++ t) (p.length + fr) n out (p.length + k) = match j6 t fr n out k with
  | .ok (x, q) => .ok (x, p.length + q)
  | .error (e, q) => .error (e, p.length + q)
 | 0, _, _, _ => rfl
 | n + 1, out, k, h => by
  have hl := aln (p := p) (t := t)
  rw [j6, j6, af5 h, asj h]
  simp only
  by_cases hk : k < t.length
  ·rw [if_pos (by omega), if_pos hk]
   by_cases e1 : bt t k = 34
   ·rw [if_pos e1, if_pos e1]; simp [Int.add_assoc]
   ·rw [if_neg e1, if_neg e1]
    by_cases e2 : m9 (bt t k) = false
    ·rw [if_pos e2, if_pos e2]
    ·rw [if_neg e2, if_neg e2]
     by_cases e3 : bt t k ≠ 92
     ·rw [if_pos e3, if_pos e3, Int.add_assoc, aew (by omega)]
     ·rw [if_neg e3, if_neg e3]
      have hq := agu (t := t) (a := k) (b := (t6 t k).1) (ok := (t6 t k).2.1) (q := (t6 t k).2.2) rfl
      by_cases e4 : (t.length : Int) ≤ (t6 t k).2.2
      ·rw [if_pos (by omega), if_pos e4]
      ·rw [if_neg (by omega), if_neg e4]
       by_cases e5 : (t6 t k).2.1 = false
       ·rw [if_pos e5, if_pos e5]
       ·rw [if_neg e5, if_neg e5, Int.add_assoc, aew (by omega)]
  ·rw [if_neg (by omega), if_neg hk]
theorem ama {i j : Int} (h : 0 ≤ i) (hj : 0 ≤ j) : cut (p ++ t) (p.length + i) (p.length + j) = cut t i j := by
 unfold cut
 rw [akl h]
 congr 1; omega
theorem afy {fr : Int} (hfr : 0 ≤ fr) : ∀ {n : Nat} {k : Int}, 0 ≤ k → l5 (p ++ t) (p.length + fr) n (p.length + k) = match l5 t fr n k with
  | .ok (x, q) => .ok (x, p.length + q)
  | .error (e, q) => .error (e, p.length + q)
 | 0, _, _ => rfl
 | n + 1, k, h => by
  have hl := aln (p := p) (t := t)
  have e0 : bt (p ++ t) (p.length + k + 1) = bt t (k + 1) := by rw [Int.add_assoc]; exact af5 (by omega)
  rw [l5, l5, af5 h, e0]
  by_cases hk : k < t.length
  ·rw [if_pos (by omega), if_pos hk]
   by_cases e1 : bt t k = 92 ∧ k + 1 < t.length
   ·rw [if_pos ⟨e1.1, by omega⟩, if_pos e1]
    by_cases e2 : m9 (bt t (k + 1)) = false
    ·rw [if_pos e2, if_pos e2]; simp [Int.add_assoc]
    ·rw [if_neg e2, if_neg e2, Int.add_assoc, afy hfr (by omega)]
   ·rw [if_neg (fun x => e1 ⟨x.1, by omega⟩), if_neg e1]
    by_cases e2 : m9 (bt t k) = false
    ·rw [if_pos e2, if_pos e2]
    ·rw [if_neg e2, if_neg e2]
     by_cases e3 : bt t k = 47
     ·rw [if_pos e3, if_pos e3, Int.add_assoc, ama (by omega) h]; simp [Int.add_assoc]
     ·rw [if_neg e3, if_neg e3, Int.add_assoc, afy hfr (by omega)]
  ·rw [if_neg (by omega), if_neg hk]
def shT (d : Int) (k : Tok) : Tok := (k.1, k.2.1 + d, k.2.2)
theorem arv {a : Int} (hb : 0 ≤ a ∧ a < t.length) {k : Tok} {q : Int} (h : z7 t a = .ok (k, q)) : z7 (p ++ t) (p.length + a) = .ok (shT p.length k, p.length + q) := by
 have hl := aln (p := p) (t := t)
 have hlen : (p ++ t).length = p.length + t.length := by simp
 have e1 : bt (p ++ t) (p.length + a + 1) = bt t (a + 1) := by rw [Int.add_assoc]; exact af5 (by omega)
 have hq := aac hb h
 unfold z7 at h ⊢
 rw [af5 hb.1, akl hb.1, e1]
 by_cases c1 : j9 (bt t a) = true
 ·rw [if_pos c1] at h ⊢
  by_cases c2 : (s7 (t.drop a.toNat) : Int) > 32
  ·rw [if_pos c2] at h; cases h
  ·rw [if_neg c2] at h ⊢
   simp only [Except.ok.injEq, Prod.mk.injEq] at h
   obtain ⟨rfl, rfl⟩ := h
   rw [Int.add_assoc, ama hb.1 (by omega)]
   simp [shT, Int.add_comm]
 ·rw [if_neg c1] at h ⊢
  by_cases c2 : bt t a = 34
  ·rw [if_pos c2] at h ⊢
   unfold v8 at h ⊢
   cases hqf : j6 t a (t.length + 1) [] (a + 1) with
   | error e => rw [hqf] at h; cases h
   | ok x =>
    rw [hqf] at h
    simp only [Except.ok.injEq, Prod.mk.injEq] at h
    obtain ⟨rfl, rfl⟩ := h
    have hfu := ac3 (fr := a) (m := (p ++ t).length + 1) (by omega) hqf
    rw [Int.add_assoc, aew (by omega), hfu]
    simp [shT, Int.add_comm]
  ·rw [if_neg c2] at h ⊢
   by_cases c3 : bt t a = 47
   ·rw [if_pos c3] at h ⊢
    unfold z8 at h ⊢
    cases hqf : l5 t a (t.length + 1) (a + 1) with
    | error e => rw [hqf] at h; cases h
    | ok x =>
     rw [hqf] at h
     simp only [Except.ok.injEq, Prod.mk.injEq] at h
     obtain ⟨rfl, rfl⟩ := h
     have hfu := adx (fr := a) (m := (p ++ t).length + 1) (by omega) hqf
     rw [Int.add_assoc, afy hb.1 (by omega), hfu]
     simp [shT, Int.add_comm]
   ·rw [if_neg c3] at h ⊢
    by_cases c4 : aah.contains (bt t a).toNat.toUInt8 = true
    ·rw [if_pos c4] at h ⊢
     simp only [Except.ok.injEq, Prod.mk.injEq] at h
     obtain ⟨rfl, rfl⟩ := h
     rw [Int.add_assoc, ama hb.1 (by omega)]
     simp [shT, Int.add_comm]
    ·rw [if_neg c4] at h ⊢
     by_cases c5 : a + 1 < t.length ∧ bt t a = 62 ∧ bt t (a + 1) = 62
     ·rw [if_pos c5] at h
      simp only [Except.ok.injEq, Prod.mk.injEq] at h
      obtain ⟨rfl, rfl⟩ := h
      rw [if_pos ⟨by omega, c5.2⟩]
      simp [shT, Int.add_comm, Int.add_assoc]
      omega
     ·rw [if_neg c5] at h; cases h
theorem aoc {a : Int} (h : 0 ≤ a) : o1 (p ++ t) (p.length + a) = p.length + o1 t a := by
 unfold o1
 rw [akl h]; omega
theorem ags : ∀ {n m : Nat} {l l' init : List Tok} {a : Int}, 0 ≤ a → a ≤ t.length → (t.length - a).toNat < m → q6 t n l a = .ok l' →
  ∃ l2, l' = l ++ l2 ∧ q6 (p ++ t) m init (p.length + a) = .ok (init ++ l2.map (shT p.length))
 | 0, _, _, _, _, _, _, _, _, h => by cases h
 | n + 1, m, l, l', init, a, h0, h1, hm, h => by
  obtain ⟨m, rfl⟩ : ∃ q, m = q + 1 := ⟨m - 1, by omega⟩
  have hl := aln (p := p) (t := t)
  rw [q6] at h
  rw [q6]
  by_cases ha : a < t.length
  ·rw [if_pos ha] at h
   rw [if_pos (by omega)]
   cases ho : z7 t a with
   | error e => rw [ho] at h; cases h
   | ok r =>
    rw [ho] at h
    have hq := aac ⟨h0, ha⟩ (k := r.1) (q := r.2) ho
    have hg := o5 (t := t) (a := r.2) ⟨by omega, hq.2⟩
    obtain ⟨l2, e1, e2⟩ := ags (m := m) (init := init ++ [shT p.length r.1]) (by omega) hg.2 (by omega) h
    refine ⟨r.1 :: l2, by rw [e1]; simp, ?_⟩
    rw [arv ⟨h0, ha⟩ ho]
    simp only
    rw [aoc (by omega), e2]
    simp
  ·rw [if_neg ha] at h
   simp only [Except.ok.injEq] at h
   rw [if_neg (by omega)]
   refine ⟨[(0, (t.length : Int), [])], h.symm, ?_⟩
   simp [shT, Int.add_comm]
end behind
theorem aq1 {t : List UInt8} {a : Int} {e : Int × Int} (h : z7 t a = .error e) : e.1 ≠ 0 := by
 unfold z7 at h
 split at h
 ·split at h
  ·simp only [Except.error.injEq] at h; subst h; simp
  ·cases h
 ·split at h
  ·unfold v8 at h
   split at h
   ·cases h
   ·rename_i e' he
    simp only [Except.error.injEq] at h
    subst h
    exact aga (e := e'.1) (p := e'.2) he
  ·split at h
   ·unfold z8 at h
    split at h
    ·cases h
    ·rename_i e' he
     simp only [Except.error.injEq] at h
     subst h
     exact agt (e := e'.1) (p := e'.2) he
   ·split at h
    ·cases h
    ·split at h
     ·cases h
     ·simp only [Except.error.injEq] at h; subst h; simp
theorem ajo {t : List UInt8} : ∀ {n : Nat} {l : List Tok} {a : Int} {e : Int × Int}, 0 ≤ a → a ≤ t.length → (t.length - a).toNat < n → q6 t n l a = .error e → e.1 ≠ 0
 | 0, _, _, _, _, _, h, _ => by omega
 | n + 1, l, a, e, h0, h1, hn, h => by
  rw [q6] at h
  split at h
  ·rename_i ha
   split at h
   ·rename_i k q ho
    have hq := aac ⟨h0, ha⟩ ho
    have hg := o5 (t := t) (a := q) ⟨by omega, hq.2⟩
    exact ajo (by omega) hg.2 (by omega) h
   ·rename_i e' ho
    simp only [Except.error.injEq] at h
    subst h
    exact aq1 ho
  ·cases h
theorem abo {t : List UInt8} (h1 : (e6 t).2.1 = 0) (h3 : t.length ≤ 4096) : q6 t (t.length + 1) [] (o1 t 0) = .ok (e6 t).1 := by
 unfold e6 at h1 ⊢
 rw [if_neg (by omega)] at h1 ⊢
 cases hq : q6 t (t.length + 1) [] (o1 t 0) with
 | ok l => rfl
 | error e =>
  rw [hq] at h1
  exact absurd h1 (ajo (o5 ⟨by omega, by omega⟩).1 (o5 ⟨by omega, by omega⟩).2 (by have := (o5 (t := t) (a := 0) ⟨by omega, by omega⟩).1; omega) hq)
theorem aoz {s t : List UInt8} (hs : (e6 s).2.1 = 0) (ht : (e6 t).2.1 = 0) (hl : s.length + t.length < 4096) :
  ∃ init, (e6 s).1 = init ++ [((0, (s.length : Int), []) : Tok)] ∧ e6 (s ++ [10] ++ t) = (init ++ (e6 t).1.map (shT (s.length + 1)), 0, 0) := by
 have gs := o5 (t := s) (a := 0) ⟨by omega, by omega⟩
 have gt := o5 (t := t) (a := 0) ⟨by omega, by omega⟩
 have k1 := abo hs (by omega)
 have k2 := abo ht (by omega)
 obtain ⟨init, e1, e2⟩ := aje (t := t) gs.1 gs.2 k1
 refine ⟨init, e1, ?_⟩
 have hu : s ++ [10] ++ t = s ++ 10 :: t := by simp
 have hlen : (s ++ 10 :: t).length = s.length + 1 + t.length := by simp; omega
 rw [hu]
 have hp0 : o1 (s ++ 10 :: t) 0 = aem s t (o1 s 0) := akw ⟨by omega, by omega⟩
 have hp1 : 0 ≤ aem s t (o1 s 0) := by unfold aem; split <;> omega
 obtain ⟨m', f1, f2⟩ := e2 ((s ++ 10 :: t).length + 1) (by omega)
 have hpl : (((s ++ [10]).length : Nat) : Int) = s.length + 1 := by simp
 obtain ⟨l2, g1, g2⟩ := ags (p := s ++ [10]) (m := m') (init := init) gt.1 gt.2 (by omega) k2
 rw [hpl, show s ++ [10] ++ t = s ++ 10 :: t by simp] at g2
 rw [List.nil_append] at g1
 unfold e6
 rw [if_neg (by omega), hp0, f2, g2, ← g1]
 simp only [k2]
 rw [if_neg (by omega)]
end Go.Proofs.YtifajndacnfcbaaDoor
namespace Go.Proofs.YtifajndacnfcbaaDoor
open Go Go.RowKit
theorem ai0 {t : List UInt8} : ∀ {n : Nat} {l l' : List Tok} {a : Int}, 0 ≤ a → l.length ≤ a → a ≤ t.length → q6 t n l a = .ok l' → l'.length ≤ t.length + 1
 | 0, _, _, _, _, _, _, h => by cases h
 | n + 1, l, l', a, h0, h1, h2, h => by
  rw [q6] at h
  split at h
  ·rename_i ha
   split at h
   ·rename_i k q ho
    have hq := aac ⟨h0, ha⟩ ho
    have hg := o5 (t := t) (a := q) ⟨by omega, hq.2⟩
    exact ai0 (by omega) (by simp; omega) hg.2 h
   ·cases h
  ·simp only [Except.ok.injEq] at h
   subst h
   simp; omega
theorem aji (t : List UInt8) : (e6 t).1.length ≤ 4097 := by
 unfold e6
 split
 ·simp
 ·rename_i h
  have hg0 := o5 (t := t) (a := 0) ⟨by omega, by omega⟩
  split
  ·rename_i l hl
   have := ai0 (t := t) hg0.1 (by simp; exact hg0.1) hg0.2 hl
   show l.length ≤ _
   omega
  ·simp
theorem asm {t : List UInt8} {a : Int} (h : 0 ≤ a ∧ a < t.length) : ∃ c, cut t a (a + 1) = [c] := by
 unfold cut
 have h1 : (a + 1).toNat - a.toNat = 1 := by omega
 have h2 : a.toNat < t.length := by omega
 rw [h1, List.drop_eq_getElem_cons h2]
 exact ⟨_, rfl⟩
theorem apo {t : List UInt8} {a : Int} {k : Tok} {q : Int} (hb : 0 ≤ a ∧ a < t.length) (h : z7 t a = .ok (k, q)) : k.1 ≠ 0 ∧ (k.1 = 4 → aci k.2.2) := by
 unfold z7 at h
 split at h
 ·split at h
  ·cases h
  ·simp only [Except.ok.injEq, Prod.mk.injEq] at h; rw [← h.1]; exact ⟨by show (1 : Int) ≠ 0; decide, fun g => absurd g (by show ¬ (1 : Int) = 4; decide)⟩
 ·split at h
  ·unfold v8 at h
   split at h
   ·simp only [Except.ok.injEq, Prod.mk.injEq] at h; rw [← h.1]; exact ⟨by show (2 : Int) ≠ 0; decide, fun g => absurd g (by show ¬ (2 : Int) = 4; decide)⟩
   ·cases h
  ·split at h
   ·unfold z8 at h
    split at h
    ·simp only [Except.ok.injEq, Prod.mk.injEq] at h; rw [← h.1]; exact ⟨by show (3 : Int) ≠ 0; decide, fun g => absurd g (by show ¬ (3 : Int) = 4; decide)⟩
    ·cases h
   ·split at h
    ·simp only [Except.ok.injEq, Prod.mk.injEq] at h; rw [← h.1]; exact ⟨by show (4 : Int) ≠ 0; decide, fun _ => .inr (asm hb)⟩
    ·split at h
     ·simp only [Except.ok.injEq, Prod.mk.injEq] at h; rw [← h.1]; exact ⟨by show (4 : Int) ≠ 0; decide, fun _ => .inl rfl⟩
     ·cases h
theorem aiv {t : List UInt8} : ∀ {n : Nat} {l l' : List Tok} {a : Int}, 0 ≤ a → a ≤ t.length → q6 t n l a = .ok l' → (∀ k ∈ l, k.1 ≠ 0 ∧ (k.1 = 4 → aci k.2.2)) →
  ∃ init, l' = init ++ [((0, (t.length : Int), []) : Tok)] ∧ ∀ k ∈ init, k.1 ≠ 0 ∧ (k.1 = 4 → aci k.2.2)
 | 0, _, _, _, _, _, h, _ => by cases h
 | n + 1, l, l', a, h0, h1, h, hl => by
  rw [q6] at h
  split at h
  ·rename_i ha
   split at h
   ·rename_i k q ho
    have hq := aac ⟨h0, ha⟩ ho
    have hg := o5 (t := t) (a := q) ⟨by omega, hq.2⟩
    have hk := apo ⟨h0, ha⟩ ho
    exact aiv (by omega) hg.2 h (fun x hx => by
     rcases List.mem_append.1 hx with hx | hx
     ·exact hl x hx
     ·rw [List.mem_singleton.1 hx]; exact hk)
   ·cases h
  ·simp only [Except.ok.injEq] at h
   exact ⟨l, h.symm, hl⟩
theorem ai6 {t : List UInt8} (h : (e6 t).2.1 = 0) (hl : t.length ≤ 4096) : ∃ init, (e6 t).1 = init ++ [((0, (t.length : Int), []) : Tok)] ∧ ∀ k ∈ init, k.1 ≠ 0 ∧ (k.1 = 4 → aci k.2.2) := by
 have hg := o5 (t := t) (a := 0) ⟨by omega, by omega⟩
 exact aiv hg.1 hg.2 (abo h hl) (fun k hk => by cases hk)
theorem ab0 {t : List UInt8} (h : (e6 t).2.1 = 0) : t.length ≤ 4096 := by
 rcases Nat.lt_or_ge 4096 t.length with g | g
 ·unfold e6 at h
  rw [if_pos g] at h
  cases h
 ·exact g
theorem ag0 {ts : List Tok} {k : Nat} (h : k < ts.length) : a8 ts k ∈ ts := by
 unfold a8
 rw [List.getD_eq_getElem?_getD, List.getElem?_eq_getElem h]
 exact List.getElem_mem h
theorem ait {t : List UInt8} (h : (e6 t).2.1 = 0) : POK (e6 t).1 0 0 := by
 have hs := ab0 h
 obtain ⟨init, e1, e2⟩ := ai6 h hs
 have hlen := aji t
 have hl : (e6 t).1.length = init.length + 1 := by rw [e1, List.length_append, List.length_singleton]
 refine ⟨by omega, ⟨by decide, by decide⟩, ⟨by omega, ?_⟩, fun k hk => ?_, by omega⟩
 ·rw [hl, e1]
  unfold a8
  rw [List.getD_eq_getElem?_getD, Nat.add_sub_cancel, List.getElem?_append_right (Nat.le_refl _), Nat.sub_self]
  rfl
 ·have hin := ag0 (agc (by rw [hk]; decide))
  rw [e1] at hin
  rcases List.mem_append.1 hin with hin | hin
  ·rw [← e1] at hin; exact (e2 _ hin).2 hk
  ·rw [← e1] at hin
   rw [List.mem_singleton.1 hin] at hk
   cases hk
theorem anh {t : List UInt8} (h : (e6 t).2.1 = 0) : (e6 t).2.2 = 0 := by
 have hs := ab0 h
 have := abo h hs
 unfold e6
 rw [if_neg (by omega), this]
def Er (ts : List Tok) (x : Int × Int) : Prop := x = noF ∨ ((x.1 = 60 ∨ x.1 = 23) ∧ ∃ k, x.2 = (a8 ts k).2.1)
theorem Er.nz {ts : List Tok} {x : Int × Int} (h : Er ts x) : x.1 ≠ 0 := by
 rcases h with rfl | ⟨h | h, _⟩
 ·decide
 ·rw [h]; decide
 ·rw [h]; decide
structure ErrNZ (ts : List Tok) (f : Nat) : Prop where
 e : ∀ l q x, pE ts f l q = .error x → Er ts x
 l : ∀ l b q x, pL ts f l b q = .error x → Er ts x
 p : ∀ q x, pP ts f q = .error x → Er ts x
 s : ∀ b q x, pS ts f b q = .error x → Er ts x
 a : ∀ q x, pA ts f q = .error x → Er ts x
 c : ∀ q x, pC ts f q = .error x → Er ts x
 r : ∀ n b q x, pR ts f n b q = .error x → Er ts x
theorem aj0 {ts : List Tok} {q : PSx} {m : Bs} {e : Int × Int} (h : n5 ts q m = .error e) : Er ts e := by
 unfold n5 at h
 split at h
 ·cases h
 ·cases h; exact .inr ⟨.inl rfl, _, rfl⟩
theorem ag5 {ts : List Tok} {q : PSx} {m : Bs} {e : Int × Int} (h : n3 ts q m = .error e) : Er ts e := by
 unfold n3 at h
 split at h
 ·cases h
 ·cases h; exact .inr ⟨.inl rfl, _, rfl⟩
theorem agx {ts : List Tok} {q : PSx} {m : Bs} {e : Int × Int} (h : l9 ts q m = .error e) : Er ts e := by
 unfold l9 at h
 split at h
 ·split at h
  ·cases h; exact .inr ⟨.inr rfl, _, rfl⟩
  ·cases h
 ·cases h; exact .inr ⟨.inl rfl, _, rfl⟩
theorem as4 (ts : List Tok) : ∀ f, ErrNZ ts f := by
 intro f
 induction f with
 | zero =>
  refine ⟨?_, ?_, ?_, ?_, ?_, ?_, ?_⟩ <;> intros <;> rename_i h <;> first | (rw [pE] at h; cases h; exact .inl rfl) | (rw [pL] at h; cases h; exact .inl rfl) | (rw [pP] at h; cases h; exact .inl rfl) | (rw [pS] at h; cases h; exact .inl rfl) | (rw [pA] at h; cases h; exact .inl rfl) | (rw [pC] at h; cases h; exact .inl rfl) | (rw [pR] at h; cases h; exact .inl rfl)
 | succ f ih =>
  refine ⟨fun l q x h => ?_, fun l b q x h => ?_, fun q x h => ?_, fun b q x h => ?_, fun q x h => ?_, fun q x h => ?_, fun n b q x h => ?_⟩
  ·rw [pE] at h
   split at h
   ·exact ih.p _ _ h
   ·split at h
    ·rename_i h2; cases h; exact ih.e _ _ _ h2
    ·exact ih.l _ _ _ _ h
  ·rw [pL] at h
   split at h
   ·split at h
    ·rename_i h2; cases h; exact ih.e _ _ _ h2
    ·exact ih.l _ _ _ _ h
   ·cases h
  ·rw [pP] at h
   split at h
   ·rename_i h2; cases h; exact ih.a _ _ h2
   ·exact ih.s _ _ _ h
  ·rw [pS] at h
   split at h
   ·exact ih.s _ _ _ h
   ·cases h
  ·rw [pA] at h
   split at h
   ·cases h
   split at h
   ·cases h
   split at h
   ·exact ih.c _ _ h
   split at h
   ·cases h
   split at h
   ·split at h
    ·rename_i h2; cases h; exact agx h2
    ·split at h
     ·rename_i h2; cases h; exact ih.e _ _ _ h2
     ·split at h
      ·rename_i h2; cases h; exact ag5 h2
      ·cases h
   split at h
   ·split at h
    ·rename_i h2; cases h; exact agx h2
    ·split at h
     ·rename_i h2; cases h; exact ih.e _ _ _ h2
     ·split at h
      ·rename_i h2; cases h; exact ag5 h2
      ·cases h
   ·cases h; exact .inr ⟨.inl rfl, _, rfl⟩
  ·rw [pC] at h
   split at h
   ·rename_i h2; cases h; exact agx h2
   ·split at h
    ·rename_i h2; cases h; exact ih.r _ _ _ _ h2
    ·split at h
     ·rename_i h2; cases h; exact ag5 h2
     ·cases h
  ·rw [pR] at h
   split at h
   ·cases h
   ·split at h
    ·rename_i h2
     cases h
     split at h2
     ·exact aj0 h2
     ·cases h2
    ·split at h
     ·rename_i h2; cases h; exact ih.e _ _ _ h2
     ·exact ih.r _ _ _ _ h
theorem asx {ts : List Tok} : ∀ {f : Nat} {l : List p3} {q : PSx} {x : Int × Int}, pD ts (BIG ts) f l q = .error x → Er ts x
 | 0, _, _, _, h => by rw [pD] at h; cases h; exact .inl rfl
 | f + 1, l, q, x, h => by
  rw [ak9] at h
  split at h
  ·split at h
   ·cases h; exact .inr ⟨.inl rfl, _, rfl⟩
   ·split at h
    ·rename_i h2; cases h; exact aj0 h2
    ·split at h
     ·rename_i h2; cases h; exact (as4 ts _).e _ _ _ h2
     ·split at h
      ·rename_i h2; cases h; exact aj0 h2
      ·exact asx h
  ·cases h
theorem apt {ts : List Tok} {x : Int × Int} (h : w6 ts = .error x) : Er ts x := by
 rw [abr] at h
 unfold al9 at h
 split at h
 ·rename_i h2; cases h; exact asx h2
 ·split at h
  ·rename_i h2; cases h; exact (as4 ts _).e _ _ _ h2
  ·split at h
   ·cases h
   ·cases h; exact .inr ⟨.inl rfl, _, rfl⟩
theorem ahb {ts : List Tok} {c p : Int} (h : w6 ts = .error (c, p)) : c ≠ 0 := (apt h).nz
def n0 (t : List UInt8) : Except (Int × Int) (List p3 × Ex) := if (e6 t).2.1 = 0 then w6 (e6 t).1 else .error ((e6 t).2.1, (e6 t).2.2)
end Go.Proofs.YtifajndacnfcbaaDoor
