/-
  Merged: RdV3, Gwd, RdR, RxD, RefShow, Rback, Shows.
-/
import Derived.Recover
import Derived.Test.YtffhedoahdgniaaDoorPt2
set_option maxRecDepth 100000
namespace Go.Proofs.YtffhedoahdgniaaDoor
open Go Go.RowKit
theorem aef : abz Tryd.prog 81 = some (wl cs0) := by kernel_rfl
theorem ako : r8 Tryd.prog 73 = true := by kernel_rfl
theorem y5 : RowT Tryd.prog 81 4 := ⟨by kernel_rfl, by kernel_rfl⟩
theorem aps : r8 Tryd.prog 74 = true := by kernel_rfl
theorem axj : r8 Tryd.prog 77 = true := by kernel_rfl
theorem aae : s7 Tryd.prog 81 4 = true := by kernel_rfl
theorem ao6 : r8 Tryd.prog 46 = true := by kernel_rfl
theorem axh : r8 Tryd.prog 71 = true := by kernel_rfl
theorem awu : r8 Tryd.prog 72 = true := by kernel_rfl
def aij (r_0 : List UInt8) (r_1 : Int) (K : CS → (List UInt8) → Int → Prop) (KP : Value → (List UInt8) → Int → Prop) : Prop :=
 (0 ≤ r_1) ∧
 ∃ (J0 : Int → Prop),
  (∀ (r_1_1' : Int), J0 r_1_1' →
   ∃ (Inv : CS → Int → Prop) (mu : CS → Int → Nat),
    Inv cs0 r_1_1' ∧ ∀ (a_1' : CS) (r_1_5' : Int), Inv a_1' r_1_5' →
     (0 ≤ r_1_5') ∧
     (if ((e9 r_0 r_1_5') && (decide (a8 r_0 r_1_5' = 93))) = true then
      (I64 (r_1_5' + 1)) ∧
      (if ((e9 r_0 r_1) && (decide (a8 r_0 r_1 = 94))) = true then
       K (~~~ a_1') r_0 (r_1_5' + 1)
      else
       K a_1' r_0 (r_1_5' + 1))
     else
      (0 ≤ r_1_5' ∧ r_1_5' ≤ r_0.length ∧ r_0.length ≤ 9223372036854775807) ∧
      (∀ (r_7' : Int) (at0_12' : Int), ac7 r_0 r_1_5' ([92, 93, 91, 45, 94, 47] : List UInt8) = .ok (r_7', at0_12') →
       ∃ (J0_3' : Int → Int → Prop),
        (∀ (hi_2' : Int) (r_1_6' : Int), J0_3' hi_2' r_1_6' →
         ((0 ≤ r_7' ∧ r_7' < 256) ∧ (0 ≤ hi_2' ∧ hi_2' < 256)) ∧
         Inv (a_1' ||| (aao (r_7').toNat (hi_2').toNat)) r_1_6' ∧ mu (a_1' ||| (aao (r_7').toNat (hi_2').toNat)) r_1_6' < mu a_1' r_1_5') ∧
        (0 ≤ at0_12') ∧
        (if ((e9 r_0 at0_12') && (decide (a8 r_0 at0_12' = 45))) = true then
         (I64 (at0_12' + 1)) ∧
         (0 ≤ at0_12' + 1 ∧ at0_12' + 1 ≤ r_0.length ∧ r_0.length ≤ 9223372036854775807) ∧
         (∀ (r_9' : Int) (at0_16' : Int), ac7 r_0 (at0_12' + 1) ([92, 93, 91, 45, 94, 47] : List UInt8) = .ok (r_9', at0_16') →
          (if (decide (r_9' < r_7')) = true then
           KP (o3 10 (at0_12' + 1)) r_0 at0_16'
          else
           J0_3' r_9' at0_16')) ∧
         (∀ (e_8' : Int) (at0_17' : Int), ac7 r_0 (at0_12' + 1) ([92, 93, 91, 45, 94, 47] : List UInt8) = .error e_8' →
          KP (o3 10 e_8') r_0 at0_17')
        else
         J0_3' r_7' at0_12')) ∧
      (∀ (e_6' : Int) (at0_13' : Int), ac7 r_0 r_1_5' ([92, 93, 91, 45, 94, 47] : List UInt8) = .error e_6' →
       KP (o3 10 e_6') r_0 at0_13'))) ∧
  (if ((e9 r_0 r_1) && (decide (a8 r_0 r_1 = 94))) = true then
   (I64 (r_1 + 1)) ∧
   J0 (r_1 + 1)
  else
   J0 r_1)
theorem atu (b : Nat) (te : TypeId) (fre : Nat × Nat) (r_0 : List UInt8) (r_1 : Int) (K : CS → (List UInt8) → Int → Prop) (KP : Value → (List UInt8) → Int → Prop) (h : aij r_0 r_1 K KP) :
  d5 Tryd.prog 72 [zP b] [(0, .cells [zU 110, zU 10, zU 114, zU 13, zU 116, zU 9].toArray te fre)] [HA.blk b (.cells [st r_0, zI r_1].toArray 127 (0, 0))] (fun o => (∃ (v : CS) (d_0 : List UInt8) (d_1 : Int), K v d_0 d_1 ∧ o = .ret (Value.agg (wl v).toArray) [HA.blk b (.cells [st d_0, zI d_1].toArray 127 (0, 0))]) ∨ (∃ (pv : Value) (d_0 : List UInt8) (d_1 : Int), KP pv d_0 d_1 ∧ o = .pan [{ v := pv, recovered := false }] [HA.blk b (.cells [st d_0, zI d_1].toArray 127 (0, 0))])) := by
 unfold aij at h
 refine c8 (n := 90) (L0 := [(0, zP b)]) Tryd.func72 rfl rfl rfl rfl (fun w0 M Q hE => ?_)
 refine a6 (fun _ hK => ?_)
 refine a4 ?_
 refine WL.make (MV.alloc aef) rfl rfl rfl (fun b_1' => ?_)
 refine WL.nil ?_
 refine kg (hK [(0, zP b), (2, zP b_1')] _ ?_)
 refine a6 (fun _ hK_1' => ?_)
 refine a4 ?_
 refine WL.make (MV.alloc aef) rfl rfl rfl (fun b_2' => ?_)
 refine WL.nil ?_
 refine kg (hK_1' [(0, zP b), (2, zP b_1'), (3, zP b_2')] _ ?_)
 refine a6 (fun _ hK_2' => ?_)
 refine a4 ?_
 refine wm ?_
 obtain ⟨o, h⟩ := h
 refine WL.call (A := []) ady rfl (ad4 b r_0 r_1 o) rfl ⟨.inl ⟨2, rfl⟩, trivial⟩ rfl rfl ?_
 refine wm ?_
 refine wv (OV.extract 0 rfl rfl) ?_
 refine wv (OV.extract 1 rfl rfl) ?_
 refine wa ?_
 refine wa ?_
 refine WL.nil ?_
 refine kg (hK_2' [(0, zP b), (2, zP b_1'), (3, zP b_2'), (4, zU (a8 r_0 r_1)), (5, zB (e9 r_0 r_1))] _ ?_)
 refine a6 (fun _ hK_3' => ?_)
 refine a4 ?_
 refine wm ?_
 refine wm ?_
 refine WL.cut 3 [(0, zP b), (2, zP b_1'), (3, zP b_2'), (23, zB ((e9 r_0 r_1) && (decide (a8 r_0 r_1 = 94))))] ?_ (fun K0_4' hK_4' => ?_)
 rotate_left
 ·refine WL.split (e9 r_0 r_1) (fun hb => ?_) (fun hb => ?_)
  ·refine WL.set 20 rfl (congrArg zB hb) ?_
   refine wm ?_
   refine wv (OV.eql rfl rfl) ?_
   refine wv (OV.pickT rfl rfl) ?_
   refine WL.set 23 rfl (bT (v := decide (a8 r_0 r_1 = 94)) hb) ?_
   exact WL.end_ (kg hK_4')
  ·refine WL.set 20 rfl (congrArg zB hb) ?_
   refine wk ?_
   refine wk ?_
   refine wv (OV.pickF rfl rfl) ?_
   refine WL.set 23 rfl (bF (v := decide (a8 r_0 r_1 = 94)) hb) ?_
   exact WL.end_ (kg hK_4')
 refine wa ?_
 refine WL.nil ?_
 refine kg (hK_3' [(0, zP b), (2, zP b_1'), (3, zP b_2'), (6, zB ((e9 r_0 r_1) && (decide (a8 r_0 r_1 = 94))))] _ ?_)
 obtain ⟨J0, hJ, h⟩ := h
 refine n5 (X := Int) (fun σ => J0 σ) (fun σ => [(0, zP b), (2, zP b_1'), (3, zP b_2'), (6, zB ((e9 r_0 r_1) && (decide (a8 r_0 r_1 = 94))))]) (fun σ => [HA.blk b_2' (.cells (wl cs0).toArray 81 (0, 0)), HA.blk b_1' (.cells (wl cs0).toArray 81 (0, 0)), HA.blk b (.cells [st r_0, zI σ].toArray 127 (0, 0))]) ?_ (fun K0_6' hK_6' => ?_)
 ·rintro r_1_1' hj
  replace h := hJ r_1_1' hj
  show WC _ _ _ _ [(0, zP b), (2, zP b_1'), (3, zP b_2'), (6, zB ((e9 r_0 r_1) && (decide (a8 r_0 r_1 = 94))))] [HA.blk b_2' (.cells (wl cs0).toArray 81 (0, 0)), HA.blk b_1' (.cells (wl cs0).toArray 81 (0, 0)), HA.blk b (.cells [st r_0, zI r_1_1'].toArray 127 (0, 0))]
  refine a6 (fun _ hK_7' => ?_)
  refine d6 ?_
  obtain ⟨Inv, mu, h0, hr⟩ := h
  refine w9 (S := CS × Int) (fun σ => Inv σ.1 σ.2) (fun σ => mu σ.1 σ.2) (fun σ => [(0, zP b), (2, zP b_1'), (3, zP b_2'), (6, zB ((e9 r_0 r_1) && (decide (a8 r_0 r_1 = 94))))]) (fun σ => [HA.blk b_2' (.cells (wl σ.1).toArray 81 (0, 0)), HA.blk b_1' (.cells (wl cs0).toArray 81 (0, 0)), HA.blk b (.cells [st r_0, zI σ.2].toArray 127 (0, 0))]) (cs0, r_1_1') h0 ⟨rfl, rfl, rfl, rfl, trivial⟩ rfl ?_
  rintro ⟨a_1', r_1_5'⟩ hi K0_52' hK_52'
  have h := hr a_1' r_1_5' hi
  show WC _ _ _ _ [(0, zP b), (2, zP b_1'), (3, zP b_2'), (6, zB ((e9 r_0 r_1) && (decide (a8 r_0 r_1 = 94))))] [HA.blk b_2' (.cells (wl a_1').toArray 81 (0, 0)), HA.blk b_1' (.cells (wl cs0).toArray 81 (0, 0)), HA.blk b (.cells [st r_0, zI r_1_5'].toArray 127 (0, 0))]
  refine d6 ?_
  refine a6 (fun _ hK_53' => ?_)
  refine a6 (fun _ hK_54' => ?_)
  refine a4 ?_
  refine wm ?_
  obtain ⟨o_29', h⟩ := h
  refine WL.call (A := []) ady rfl (ad4 b r_0 r_1_5' o_29') rfl ⟨.inl ⟨2, rfl⟩, trivial⟩ rfl rfl ?_
  refine wm ?_
  refine wv (OV.extract 0 rfl rfl) ?_
  refine wv (OV.extract 1 rfl rfl) ?_
  refine wa ?_
  refine wa ?_
  refine WL.nil ?_
  refine kg (hK_54' [(0, zP b), (2, zP b_1'), (3, zP b_2'), (6, zB ((e9 r_0 r_1) && (decide (a8 r_0 r_1 = 94)))), (7, zU (a8 r_0 r_1_5')), (8, zB (e9 r_0 r_1_5'))] _ ?_)
  refine a6 (fun _ hK_55' => ?_)
  refine a4 ?_
  refine wm ?_
  refine wm ?_
  refine WL.cut 3 [(0, zP b), (2, zP b_1'), (3, zP b_2'), (6, zB ((e9 r_0 r_1) && (decide (a8 r_0 r_1 = 94)))), (41, zB ((e9 r_0 r_1_5') && (decide (a8 r_0 r_1_5' = 93))))] ?_ (fun K0_56' hK_56' => ?_)
  rotate_left
  ·refine WL.split (e9 r_0 r_1_5') (fun hb => ?_) (fun hb => ?_)
   ·refine WL.set 38 rfl (congrArg zB hb) ?_
    refine wm ?_
    refine wv (OV.eql rfl rfl) ?_
    refine wv (OV.pickT rfl rfl) ?_
    refine WL.set 41 rfl (bT (v := decide (a8 r_0 r_1_5' = 93)) hb) ?_
    exact WL.end_ (kg hK_56')
   ·refine WL.set 38 rfl (congrArg zB hb) ?_
    refine wk ?_
    refine wk ?_
    refine wv (OV.pickF rfl rfl) ?_
    refine WL.set 41 rfl (bF (v := decide (a8 r_0 r_1_5' = 93)) hb) ?_
    exact WL.end_ (kg hK_56')
  refine WL.nil ?_
  refine kg (hK_55' [(0, zP b), (2, zP b_1'), (3, zP b_2'), (6, zB ((e9 r_0 r_1) && (decide (a8 r_0 r_1 = 94)))), (41, zB ((e9 r_0 r_1_5') && (decide (a8 r_0 r_1_5' = 93))))] _ ?_)
  refine b6 (b := (e9 r_0 r_1_5') && (decide (a8 r_0 r_1_5' = 93))) rfl (fun hb => ?_) (fun hb => ?_)
  ·replace h := j4 h hb
   refine a6 (fun _ hK_57' => ?_)
   refine a4 ?_
   refine wm ?_
   refine wv (OV.nilCheck rfl) ?_
   refine wv (OV.fieldAddr0 rfl d7) ?_
   refine wv (OV.load rfl (At.own 2 rfl) rfl b5) ?_
   obtain ⟨o_31', h⟩ := h
   refine wv (OV.add rfl rfl o_31') ?_
   refine wv (OV.nilCheck rfl) ?_
   refine wv (OV.fieldAddr0 rfl d7) ?_
   refine WL.store (vs := [zI (r_1_5' + 1)]) (cs' := [st r_0, zI (r_1_5' + 1)]) 2 rfl rfl rfl rfl g9 (Nat.le_of_ble_eq_true rfl) rfl rfl rfl ?_
   refine WL.nil ?_
   refine kg (hK_57' [(2, zP b_1'), (3, zP b_2'), (6, zB ((e9 r_0 r_1) && (decide (a8 r_0 r_1 = 94))))] _ ?_)
   refine s5 ?_
   refine kg (hK_7' [(2, zP b_1'), (3, zP b_2'), (6, zB ((e9 r_0 r_1) && (decide (a8 r_0 r_1 = 94))))] _ ?_)
   refine a6 (fun _ hK_58' => ?_)
   refine a6 (fun _ hK_59' => ?_)
   refine a4 ?_
   refine wm ?_
   refine WL.nil ?_
   refine kg (hK_59' [(2, zP b_1'), (3, zP b_2'), (86, zB ((e9 r_0 r_1) && (decide (a8 r_0 r_1 = 94))))] _ ?_)
   refine b6 (b := (e9 r_0 r_1) && (decide (a8 r_0 r_1 = 94))) rfl (fun hb => ?_) (fun hb => ?_)
   ·replace h := j4 h hb
    refine a6 (fun _ hK_60' => ?_)
    refine a4 ?_
    refine wv (OV.loadR rfl (At.own 0 rfl) y5) ?_
    refine WL.call (A := []) ao6 rfl (asp a_1') rfl trivial rfl rfl ?_
    refine WL.storeW (vs := wl (~~~ a_1')) 1 rfl rfl rfl rfl rfl aae rfl rfl rfl ?_
    refine WL.nil ?_
    refine kg (hK_60' [(2, zP b_1')] _ ?_)
    refine c9 ?_
    exact hE.ret [2] rfl rfl (.inl ⟨_, _, _, h, rfl⟩) (f9.of1 rfl (RV.row rfl (At.own 1 rfl) y5))
   ·replace h := j5 h hb
    refine b7 ?_
    refine kg (hK_58' [(2, zP b_1'), (3, zP b_2')] _ ?_)
    refine a6 (fun _ hK_61' => ?_)
    refine a4 ?_
    refine wv (OV.loadR rfl (At.own 0 rfl) y5) ?_
    refine WL.storeW (vs := wl a_1') 1 rfl rfl rfl rfl rfl aae rfl rfl rfl ?_
    refine WL.nil ?_
    refine kg (hK_61' [(2, zP b_1')] _ ?_)
    refine c9 ?_
    exact hE.ret [2] rfl rfl (.inl ⟨_, _, _, h, rfl⟩) (f9.of1 rfl (RV.row rfl (At.own 1 rfl) y5))
  ·replace h := j5 h hb
   refine b7 ?_
   refine kg (hK_53' [(0, zP b), (2, zP b_1'), (3, zP b_2'), (6, zB ((e9 r_0 r_1) && (decide (a8 r_0 r_1 = 94))))] _ ?_)
   refine a6 (fun _ hK_62' => ?_)
   refine a4 ?_
   refine wm ?_
   obtain ⟨o_32', h⟩ := h
   refine WL.pick (H' := [HA.blk b (.cells [st r_0, zI r_1_5'].toArray 127 (0, 0)), HA.blk b_2' (.cells (wl a_1').toArray 81 (0, 0)), HA.blk b_1' (.cells (wl cs0).toArray 81 (0, 0))]) [2, 0, 1] rfl rfl ?_
   refine WL.callS ako rfl (am8 b te fre r_0 r_1_5' ([92, 93, 91, 45, 94, 47] : List UInt8) o_32') rfl ⟨.inr (List.mem_of_getElem? (i := 0) rfl), trivial⟩ rfl rfl (fun r H' hS => ?_) (fun c H' hS => ?_)
   ·rcases hS with ⟨r_7', at0_12', hc, ho⟩ | ⟨e_6', at0_13', hc, ho⟩ <;> cases ho
    replace h := h.1 r_7' at0_12' hc
    refine wa ?_
    refine WL.nil ?_
    refine kg (hK_62' [(0, zP b), (2, zP b_1'), (3, zP b_2'), (6, zB ((e9 r_0 r_1) && (decide (a8 r_0 r_1 = 94)))), (9, zU r_7')] _ ?_)
    refine a6 (fun _ hK_63' => ?_)
    refine a4 ?_
    refine wm ?_
    refine wa ?_
    refine WL.nil ?_
    refine kg (hK_63' [(0, zP b), (2, zP b_1'), (3, zP b_2'), (6, zB ((e9 r_0 r_1) && (decide (a8 r_0 r_1 = 94)))), (9, zU r_7'), (10, zU r_7')] _ ?_)
    obtain ⟨J0_3', hJ_3', h⟩ := h
    refine n5 (X := Int × Int) (fun σ => J0_3' σ.1 σ.2) (fun σ => [(0, zP b), (2, zP b_1'), (3, zP b_2'), (6, zB ((e9 r_0 r_1) && (decide (a8 r_0 r_1 = 94)))), (9, zU r_7'), (10, zU σ.1)]) (fun σ => [HA.blk b (.cells [st r_0, zI σ.2].toArray 127 (0, 0)), HA.blk b_2' (.cells (wl a_1').toArray 81 (0, 0)), HA.blk b_1' (.cells (wl cs0).toArray 81 (0, 0))]) ?_ (fun K0_71' hK_71' => ?_)
    ·rintro ⟨hi_2', r_1_6'⟩ hj
     replace h := hJ_3' hi_2' r_1_6' hj
     show WC _ _ _ _ [(0, zP b), (2, zP b_1'), (3, zP b_2'), (6, zB ((e9 r_0 r_1) && (decide (a8 r_0 r_1 = 94)))), (9, zU r_7'), (10, zU hi_2')] [HA.blk b (.cells [st r_0, zI r_1_6'].toArray 127 (0, 0)), HA.blk b_2' (.cells (wl a_1').toArray 81 (0, 0)), HA.blk b_1' (.cells (wl cs0).toArray 81 (0, 0))]
     refine q9 4 [] g8 (by kernel_rfl) rfl (fun T_2' hT_2' => ?_)
     refine fv (fun _ => OV.loadR rfl (At.own 1 rfl) y5) ?_
     refine fv (fun _ => OV.move rfl) ?_
     refine fv (fun _ => OV.move rfl) ?_
     obtain ⟨o_37', h⟩ := h
     refine FL.call aps (fun _ => rfl) (apz r_7' hi_2' o_37') trivial rfl (fun _ => rfl) rfl ?_
     refine FL.weak (L' := fun γ => [(0, zP b), (2, zP b_1'), (3, zP b_2'), (6, zB ((e9 r_0 r_1) && (decide (a8 r_0 r_1 = 94)))), (81, Value.agg (wl a_1').toArray), (84, Value.agg (wl (aao (r_7').toNat (hi_2').toNat)).toArray)]) (fun γ => ⟨rfl, rfl, rfl, rfl, rfl, rfl, trivial⟩) (FL.nil (hT_2' (fun γ => [(0, zP b), (2, zP b_1'), (3, zP b_2'), (6, zB ((e9 r_0 r_1) && (decide (a8 r_0 r_1 = 94)))), (81, Value.agg (wl a_1').toArray), (84, Value.agg (wl (aao (r_7').toNat (hi_2').toNat)).toArray)]) (fun γ => ?_)))
     refine WL.call (A := []) axj rfl (at9 a_1' (aao (r_7').toNat (hi_2').toNat)) rfl trivial rfl rfl ?_
     refine WL.storeW (vs := wl (a_1' ||| (aao (r_7').toNat (hi_2').toNat))) 1 rfl rfl rfl rfl rfl aae rfl rfl rfl ?_
     refine WL.nil ?_
     exact kh (hK_52' (a_1' ||| (aao (r_7').toNat (hi_2').toNat), r_1_6') h.1 h.2) [1, 2, 0]
    ·skip
     refine a6 (fun _ hK_72' => ?_)
     refine a4 ?_
     refine wm ?_
     obtain ⟨o_38', h⟩ := h
     refine WL.call (A := []) ady rfl (ad4 b r_0 at0_12' o_38') rfl ⟨.inl ⟨0, rfl⟩, trivial⟩ rfl rfl ?_
     refine wm ?_
     refine wv (OV.extract 0 rfl rfl) ?_
     refine wv (OV.extract 1 rfl rfl) ?_
     refine wa ?_
     refine wa ?_
     refine WL.nil ?_
     refine kg (hK_72' [(0, zP b), (2, zP b_1'), (3, zP b_2'), (6, zB ((e9 r_0 r_1) && (decide (a8 r_0 r_1 = 94)))), (9, zU r_7'), (10, zU r_7'), (11, zU (a8 r_0 at0_12')), (12, zB (e9 r_0 at0_12'))] _ ?_)
     refine a6 (fun _ hK_73' => ?_)
     refine a4 ?_
     refine wm ?_
     refine wm ?_
     refine WL.cut 3 [(0, zP b), (2, zP b_1'), (3, zP b_2'), (6, zB ((e9 r_0 r_1) && (decide (a8 r_0 r_1 = 94)))), (9, zU r_7'), (10, zU r_7'), (61, zB ((e9 r_0 at0_12') && (decide (a8 r_0 at0_12' = 45))))] ?_ (fun K0_74' hK_74' => ?_)
     rotate_left
     ·refine WL.split (e9 r_0 at0_12') (fun hb => ?_) (fun hb => ?_)
      ·refine WL.set 58 rfl (congrArg zB hb) ?_
       refine wm ?_
       refine wv (OV.eql rfl rfl) ?_
       refine wv (OV.pickT rfl rfl) ?_
       refine WL.set 61 rfl (bT (v := decide (a8 r_0 at0_12' = 45)) hb) ?_
       exact WL.end_ (kg hK_74')
      ·refine WL.set 58 rfl (congrArg zB hb) ?_
       refine wk ?_
       refine wk ?_
       refine wv (OV.pickF rfl rfl) ?_
       refine WL.set 61 rfl (bF (v := decide (a8 r_0 at0_12' = 45)) hb) ?_
       exact WL.end_ (kg hK_74')
     refine WL.nil ?_
     refine kg (hK_73' [(0, zP b), (2, zP b_1'), (3, zP b_2'), (6, zB ((e9 r_0 r_1) && (decide (a8 r_0 r_1 = 94)))), (9, zU r_7'), (10, zU r_7'), (61, zB ((e9 r_0 at0_12') && (decide (a8 r_0 at0_12' = 45))))] _ ?_)
     refine b6 (b := (e9 r_0 at0_12') && (decide (a8 r_0 at0_12' = 45))) rfl (fun hb => ?_) (fun hb => ?_)
     ·replace h := j4 h hb
      refine a6 (fun _ hK_75' => ?_)
      refine a4 ?_
      refine wm ?_
      refine wv (OV.nilCheck rfl) ?_
      refine wv (OV.fieldAddr0 rfl d7) ?_
      refine wv (OV.load rfl (At.own 0 rfl) rfl b5) ?_
      obtain ⟨o_40', h⟩ := h
      refine wv (OV.add rfl rfl o_40') ?_
      refine wv (OV.nilCheck rfl) ?_
      refine wv (OV.fieldAddr0 rfl d7) ?_
      refine WL.store (vs := [zI (at0_12' + 1)]) (cs' := [st r_0, zI (at0_12' + 1)]) 0 rfl rfl rfl rfl g9 (Nat.le_of_ble_eq_true rfl) rfl rfl rfl ?_
      refine WL.nil ?_
      refine kg (hK_75' [(0, zP b), (2, zP b_1'), (3, zP b_2'), (6, zB ((e9 r_0 r_1) && (decide (a8 r_0 r_1 = 94)))), (9, zU r_7')] _ ?_)
      refine a6 (fun _ hK_76' => ?_)
      refine a4 ?_
      refine wm ?_
      refine wv (OV.nilCheck rfl) ?_
      refine wv (OV.fieldAddr0 rfl d7) ?_
      refine wv (OV.load rfl (At.own 0 rfl) rfl b5) ?_
      refine wa ?_
      refine WL.nil ?_
      refine kg (hK_76' [(0, zP b), (2, zP b_1'), (3, zP b_2'), (6, zB ((e9 r_0 r_1) && (decide (a8 r_0 r_1 = 94)))), (9, zU r_7'), (13, zI (at0_12' + 1))] _ ?_)
      refine a6 (fun _ hK_77' => ?_)
      refine a4 ?_
      refine wm ?_
      obtain ⟨o_41', h⟩ := h
      refine WL.callS ako rfl (am8 b te fre r_0 (at0_12' + 1) ([92, 93, 91, 45, 94, 47] : List UInt8) o_41') rfl ⟨.inr (List.mem_of_getElem? (i := 0) rfl), trivial⟩ rfl rfl (fun r H' hS => ?_) (fun c H' hS => ?_)
      ·rcases hS with ⟨r_9', at0_16', hc, ho⟩ | ⟨e_8', at0_17', hc, ho⟩ <;> cases ho
       replace h := h.1 r_9' at0_16' hc
       refine wa ?_
       refine WL.nil ?_
       refine kg (hK_77' [(0, zP b), (2, zP b_1'), (3, zP b_2'), (6, zB ((e9 r_0 r_1) && (decide (a8 r_0 r_1 = 94)))), (9, zU r_7'), (10, zU r_9'), (13, zI (at0_12' + 1))] _ ?_)
       refine a6 (fun _ hK_78' => ?_)
       refine a4 ?_
       refine wm ?_
       refine wm ?_
       refine wv (OV.lss rfl rfl) ?_
       refine WL.nil ?_
       refine kg (hK_78' [(0, zP b), (2, zP b_1'), (3, zP b_2'), (6, zB ((e9 r_0 r_1) && (decide (a8 r_0 r_1 = 94)))), (9, zU r_7'), (10, zU r_9'), (13, zI (at0_12' + 1)), (77, zB (decide (r_9' < r_7')))] _ ?_)
       refine b6 (b := decide (r_9' < r_7')) rfl (fun hb => ?_) (fun hb => ?_)
       ·replace h := j4 h hb
        refine a4 ?_
        refine wm ?_
        refine wm ?_
        refine WL.callS afo rfl (afi b (at0_12' + 1)) rfl trivial rfl rfl (fun r H' hS => by cases hS) (fun c H' hS => ?_)
        cases hS
        exact hE.pan [0] rfl rfl (.inr ⟨_, _, _, h, rfl⟩)
       ·replace h := j5 h hb
        refine b7 ?_
        exact kh (hK_71' (r_9', at0_16') h) [0, 1, 2]
      ·rcases hS with ⟨r_9', at0_16', hc, ho⟩ | ⟨e_8', at0_17', hc, ho⟩ <;> cases ho
       replace h := h.2 e_8' at0_17' hc
       exact hE.pan [0] rfl rfl (.inr ⟨_, _, _, h, rfl⟩)
     ·replace h := j5 h hb
      refine b7 ?_
      exact kh (hK_71' (r_7', at0_12') h) [0, 1, 2]
   ·rcases hS with ⟨r_7', at0_12', hc, ho⟩ | ⟨e_6', at0_13', hc, ho⟩ <;> cases ho
    replace h := h.2 e_6' at0_13' hc
    exact hE.pan [0] rfl rfl (.inr ⟨_, _, _, h, rfl⟩)
 ·skip
  refine a6 (fun _ hK_79' => ?_)
  refine a4 ?_
  refine wm ?_
  refine WL.nil ?_
  refine kg (hK_79' [(0, zP b), (2, zP b_1'), (3, zP b_2'), (6, zB ((e9 r_0 r_1) && (decide (a8 r_0 r_1 = 94)))), (24, zB ((e9 r_0 r_1) && (decide (a8 r_0 r_1 = 94))))] _ ?_)
  refine b6 (b := (e9 r_0 r_1) && (decide (a8 r_0 r_1 = 94))) rfl (fun hb => ?_) (fun hb => ?_)
  ·replace h := j4 h hb
   refine a4 ?_
   refine wm ?_
   refine wv (OV.nilCheck rfl) ?_
   refine wv (OV.fieldAddr0 rfl d7) ?_
   refine wv (OV.load rfl (At.own 2 rfl) rfl b5) ?_
   obtain ⟨o_42', h⟩ := h
   refine wv (OV.add rfl rfl o_42') ?_
   refine wv (OV.nilCheck rfl) ?_
   refine wv (OV.fieldAddr0 rfl d7) ?_
   refine WL.store (vs := [zI (r_1 + 1)]) (cs' := [st r_0, zI (r_1 + 1)]) 2 rfl rfl rfl rfl g9 (Nat.le_of_ble_eq_true rfl) rfl rfl rfl ?_
   refine WL.nil ?_
   exact kh (hK_6' (r_1 + 1) h) [0, 1, 2]
  ·replace h := j5 h hb
   refine b7 ?_
   exact kh (hK_6' r_1 h) [0, 1, 2]
def adt (t : List UInt8) : Nat → CS → Int → Except Int (CS × Int)
 | 0, _, a => .error a
 | n + 1, s, a =>
  if a < t.length ∧ a8 t a = 93 then .ok (s, a + 1)
  else match ac7 t a inL with
   | .error e => .error e
   | .ok (lo, p) =>
    if p < t.length ∧ a8 t p = 45 then
     match ac7 t (p + 1) inL with
     | .error e => .error e
     | .ok (hi, q) => if hi < lo then .error (p + 1) else adt t n (s ||| aao lo.toNat hi.toNat) q
    else adt t n (s ||| aao lo.toNat lo.toNat) p
def ajh (t : List UInt8) (a : Int) : Except Int (CS × Int) :=
 if a < t.length ∧ a8 t a = 94 then
  match adt t (t.length + 1) cs0 (a + 1) with
  | .ok (s, q) => .ok (~~~ s, q)
  | .error e => .error e
 else adt t (t.length + 1) cs0 a
def ay4 (b : Nat) (t : List UInt8) (m : Except Int (CS × Int)) : Out → Prop := fun o =>
 (∃ r q, m = .ok (r, q) ∧ o = .ret (.agg (wl r).toArray) [ajb b t q]) ∨ (∃ e q, m = .error e ∧ o = .pan [{ v := o3 10 e, recovered := false }] [ajb b t q])
theorem a1a {t : List UInt8} {a r q : Int} (h : agd t a = .ok (r, q)) : 0 ≤ r ∧ r < 256 ∧ a < q ∧ q ≤ t.length := by
 have hb := abp t a
 unfold agd at h
 split at h
 ·rename_i h1
  simp only at h
  repeat' split at h
  all_goals first
   | (cases h; done)
   | (cases h; omega)
   | skip
  rename_i hp _ _ _ hq
  have h3 := ahh hp
  have h4 := ahh hq
  cases h
  omega
 ·cases h
theorem adw {t : List UInt8} {a r q : Int} {bar : List UInt8} (h : ac7 t a bar = .ok (r, q)) : 0 ≤ r ∧ r < 256 ∧ a < q ∧ q ≤ t.length := by
 have hb := abp t a
 unfold ac7 at h
 split at h
 ·simp only at h
  split at h
  ·have := a1a h; omega
  ·split at h
   ·cases h
   ·cases h; omega
 ·cases h
theorem ap8 (b : Nat) (te : TypeId) (fre : Nat × Nat) (t : List UInt8) (a : Int) (h : 0 ≤ a ∧ a ≤ t.length ∧ t.length ≤ 9223372036854775807) : d5 Tryd.prog 72 [.pointer (some ⟨b, 0, none⟩)] (z8 te fre) [ajb b t a] (ay4 b t (ajh t a)) := by
 refine (atu b te fre t a (fun r t' q => t' = t ∧ ajh t a = .ok (r, q)) (fun v t' _ => t' = t ∧ ∃ e, ajh t a = .error e ∧ v = o3 10 e) ?_).weak ?_
 ·unfold aij
  refine ⟨h.1, fun p => a ≤ p ∧ p ≤ t.length ∧ ajh t a = (if a < t.length ∧ a8 t a = 94 then match adt t (t.length + 1) cs0 p with
    | .ok (s, q) => .ok (~~~ s, q)
    | .error e => .error e
   else adt t (t.length + 1) cs0 p), fun p hp => ?_, ?_⟩
  ·obtain ⟨hp0, hpl, hM⟩ := hp
   obtain ⟨R, hR⟩ : ∃ R, adt t (t.length + 1) cs0 p = R := ⟨_, rfl⟩
   rw [hR] at hM
   refine ⟨fun s q => a ≤ q ∧ q ≤ t.length ∧ ∃ n, t.length - q.toNat < n ∧ R = adt t n s q, fun _ q => t.length - q.toNat, ⟨hp0, hpl, _, by omega, hR.symm⟩, ?_⟩
   rintro s q ⟨hq0, hql, n, hn, hF⟩
   obtain ⟨n, rfl⟩ : ∃ m, n = m + 1 := ⟨n - 1, by omega⟩
   rw [adt] at hF
   refine ⟨by omega, ?_⟩
   by_cases h1 : q < t.length ∧ a8 t q = 93
   ·rw [if_pos (by simpa [e9] using h1)]
    rw [if_pos h1] at hF
    refine ⟨⟨by omega, by omega⟩, ?_⟩
    by_cases h2 : a < t.length ∧ a8 t a = 94
    ·rw [if_pos (by simpa [e9] using h2)]
     rw [if_pos h2, hF] at hM
     exact ⟨rfl, hM⟩
    ·rw [if_neg (by simpa [e9] using h2)]
     rw [if_neg h2, hF] at hM
     exact ⟨rfl, hM⟩
   ·rw [if_neg (by simpa [e9] using h1)]
    rw [if_neg h1] at hF
    refine ⟨⟨by omega, hql, h.2.2⟩, fun lo p1 hlo => ?_, fun e p1 he => ?_⟩
    ·have b1 := adw hlo
     rw [show ([92, 93, 91, 45, 94, 47] : List UInt8) = inL from rfl] at hlo
     rw [hlo] at hF
     simp only at hF
     refine ⟨fun hi q' => 0 ≤ hi ∧ hi < 256 ∧ q < q' ∧ q' ≤ t.length ∧ R = adt t n (s ||| aao lo.toNat hi.toNat) q', fun hi q' hh => ?_, by omega, ?_⟩
     ·obtain ⟨c1, c2, c3, c4, c5⟩ := hh
      have d1 : q.toNat < q'.toNat := by omega
      have d2 : q'.toNat ≤ t.length := by omega
      clear hM hF
      exact ⟨⟨⟨b1.1, b1.2.1⟩, c1, c2⟩, ⟨by omega, c4, n, by omega, c5⟩, by show t.length - q'.toNat < t.length - q.toNat; omega⟩
     ·by_cases h3 : p1 < t.length ∧ a8 t p1 = 45
      ·rw [if_pos (by simpa [e9] using h3)]
       rw [if_pos h3] at hF
       refine ⟨⟨by omega, by omega⟩, ⟨by omega, by omega, h.2.2⟩, fun hi p2 hhi => ?_, fun e p2 he => ?_⟩
       ·have b2 := adw hhi
        rw [show ([92, 93, 91, 45, 94, 47] : List UInt8) = inL from rfl] at hhi
        rw [hhi] at hF
        simp only at hF
        by_cases h4 : hi < lo
        ·rw [if_pos (by simpa using h4)]
         rw [if_pos h4] at hF
         rw [hF] at hM
         refine ⟨rfl, _, ?_, rfl⟩
         rw [hM]; split <;> rfl
        ·rw [if_neg (by simpa using h4)]
         rw [if_neg h4] at hF
         exact ⟨b2.1, b2.2.1, by omega, b2.2.2.2, hF⟩
       ·rw [show ([92, 93, 91, 45, 94, 47] : List UInt8) = inL from rfl] at he
        rw [he] at hF
        simp only at hF
        rw [hF] at hM
        refine ⟨rfl, _, ?_, rfl⟩
        rw [hM]; split <;> rfl
      ·rw [if_neg (by simpa [e9] using h3)]
       rw [if_neg h3] at hF
       exact ⟨b1.1, b1.2.1, by omega, b1.2.2.2, hF⟩
    ·rw [show ([92, 93, 91, 45, 94, 47] : List UInt8) = inL from rfl] at he
     rw [he] at hF
     simp only at hF
     rw [hF] at hM
     refine ⟨rfl, _, ?_, rfl⟩
     rw [hM]; split <;> rfl
  ·by_cases h2 : a < t.length ∧ a8 t a = 94
   ·rw [if_pos (by simpa [e9] using h2)]
    refine ⟨⟨by omega, by omega⟩, by omega, by omega, ?_⟩
    rw [if_pos h2]; unfold ajh; rw [if_pos h2]
   ·rw [if_neg (by simpa [e9] using h2)]
    refine ⟨by omega, by omega, ?_⟩
    rw [if_neg h2]; unfold ajh; rw [if_neg h2]
 ·rintro o (⟨r, t', q, ⟨rfl, hm⟩, rfl⟩ | ⟨v, t', q, ⟨rfl, e, hm, rfl⟩, rfl⟩)
  ·exact .inl ⟨r, q, hm, rfl⟩
  ·exact .inr ⟨e, q, hm, rfl⟩
def ap6 (r_0 : List UInt8) (r_1 : Int) (K : CS → (List UInt8) → Int → Prop) (KP : Value → (List UInt8) → Int → Prop) : Prop :=
 (0 ≤ r_1 ∧ r_1 < r_0.length) ∧
 (if (decide (((r_0.getD r_1.toNat 0).toNat : Int) = 46)) = true then
  (I64 (r_1 + 1)) ∧
  (([10] : List UInt8).length ≤ maxLen) ∧
  K (~~~ (ofS ([10] : List UInt8))) r_0 (r_1 + 1)
 else
  (if (decide (((r_0.getD r_1.toNat 0).toNat : Int) = 91)) = true then
   (I64 (r_1 + 1)) ∧
   (0 ≤ r_1 + 1 ∧ r_1 + 1 ≤ r_0.length ∧ r_0.length ≤ 9223372036854775807) ∧
   (∀ (r_1' : CS) (at0 : Int), ajh r_0 (r_1 + 1) = .ok (r_1', at0) →
    K r_1' r_0 at0) ∧
   (∀ (e : Int) (at0_1' : Int), ajh r_0 (r_1 + 1) = .error e →
    KP (o3 10 e) r_0 at0_1')
  else
   (0 ≤ r_1 ∧ r_1 ≤ r_0.length ∧ r_0.length ≤ 9223372036854775807) ∧
   (∀ (r_2' : Int) (at0_2' : Int), ac7 r_0 r_1 ([40, 41, 91, 93, 123, 125, 124, 38, 45, 42, 43, 63, 46, 92, 47, 94] : List UInt8) = .ok (r_2', at0_2') →
    ((0 ≤ r_2' ∧ r_2' < 256) ∧ (0 ≤ r_2' ∧ r_2' < 256)) ∧
    K (aao (r_2').toNat (r_2').toNat) r_0 at0_2') ∧
   (∀ (e_1' : Int) (at0_3' : Int), ac7 r_0 r_1 ([40, 41, 91, 93, 123, 125, 124, 38, 45, 42, 43, 63, 46, 92, 47, 94] : List UInt8) = .error e_1' →
    KP (o3 10 e_1') r_0 at0_3')))
theorem a0j (b : Nat) (te : TypeId) (fre : Nat × Nat) (r_0 : List UInt8) (r_1 : Int) (K : CS → (List UInt8) → Int → Prop) (KP : Value → (List UInt8) → Int → Prop) (h : ap6 r_0 r_1 K KP) :
  d5 Tryd.prog 69 [zP b] [(0, .cells [zU 110, zU 10, zU 114, zU 13, zU 116, zU 9].toArray te fre)] [HA.blk b (.cells [st r_0, zI r_1].toArray 127 (0, 0))] (fun o => (∃ (v : CS) (d_0 : List UInt8) (d_1 : Int), K v d_0 d_1 ∧ o = .ret (Value.agg (wl v).toArray) [HA.blk b (.cells [st d_0, zI d_1].toArray 127 (0, 0))]) ∨ (∃ (pv : Value) (d_0 : List UInt8) (d_1 : Int), KP pv d_0 d_1 ∧ o = .pan [{ v := pv, recovered := false }] [HA.blk b (.cells [st d_0, zI d_1].toArray 127 (0, 0))])) := by
 unfold ap6 at h
 refine c8 (n := 42) (L0 := [(0, zP b)]) Tryd.func69 rfl rfl rfl rfl (fun w0 M Q hE => ?_)
 refine a6 (fun _ hK => ?_)
 refine a4 ?_
 refine WL.make (MV.alloc aef) rfl rfl rfl (fun b_1' => ?_)
 refine WL.nil ?_
 refine kg (hK [(0, zP b), (2, zP b_1')] _ ?_)
 refine a6 (fun _ hK_1' => ?_)
 refine a6 (fun _ hK_2' => ?_)
 refine q9 8 [] g8 (by kernel_rfl) rfl (fun T hT => ?_)
 refine fv (fun _ => OV.move rfl) ?_
 refine fv (fun _ => OV.nilCheck rfl) ?_
 refine fv (fun _ => OV.fieldAddr0 rfl aed) ?_
 refine fv (fun _ => OV.load rfl (At.own 1 rfl) rfl w6) ?_
 refine fv (fun _ => OV.move rfl) ?_
 refine fv (fun _ => OV.nilCheck rfl) ?_
 refine fv (fun _ => OV.fieldAddr0 rfl d7) ?_
 refine fv (fun _ => OV.load rfl (At.own 1 rfl) rfl b5) ?_
 refine FL.weak (L' := fun γ => [(0, zP b), (2, zP b_1'), (8, st r_0), (12, zI r_1)]) (fun γ => ⟨rfl, rfl, rfl, rfl, trivial⟩) (FL.nil (hT (fun γ => [(0, zP b), (2, zP b_1'), (8, st r_0), (12, zI r_1)]) (fun γ => ?_)))
 obtain ⟨o, h⟩ := h
 refine wv (OV.index rfl rfl j7 o) ?_
 refine wa ?_
 refine WL.nil ?_
 refine kg (hK_2' [(0, zP b), (2, zP b_1'), (3, zU ((r_0.getD r_1.toNat 0).toNat : Int))] _ ?_)
 refine a6 (fun _ hK_3' => ?_)
 refine a4 ?_
 refine wm ?_
 refine WL.nil ?_
 refine kg (hK_3' [(0, zP b), (2, zP b_1'), (14, zU ((r_0.getD r_1.toNat 0).toNat : Int))] _ ?_)
 refine d6 ?_
 refine a6 (fun _ hK_4' => ?_)
 refine a4 ?_
 refine wv (OV.eql rfl rfl) ?_
 refine wa ?_
 refine WL.nil ?_
 refine kg (hK_4' [(0, zP b), (2, zP b_1'), (14, zU ((r_0.getD r_1.toNat 0).toNat : Int)), (15, zB (decide (((r_0.getD r_1.toNat 0).toNat : Int) = 46)))] _ ?_)
 refine b6 (b := decide (((r_0.getD r_1.toNat 0).toNat : Int) = 46)) rfl (fun hb => ?_) (fun hb => ?_)
 ·replace h := j4 h hb
  refine a6 (fun _ hK_5' => ?_)
  refine a4 ?_
  refine wm ?_
  refine wv (OV.nilCheck rfl) ?_
  refine wv (OV.fieldAddr0 rfl d7) ?_
  refine wv (OV.load rfl (At.own 1 rfl) rfl b5) ?_
  obtain ⟨o_1', h⟩ := h
  refine wv (OV.add rfl rfl o_1') ?_
  refine wv (OV.nilCheck rfl) ?_
  refine wv (OV.fieldAddr0 rfl d7) ?_
  refine WL.store (vs := [zI (r_1 + 1)]) (cs' := [st r_0, zI (r_1 + 1)]) 1 rfl rfl rfl rfl g9 (Nat.le_of_ble_eq_true rfl) rfl rfl rfl ?_
  refine WL.nil ?_
  refine kg (hK_5' [(2, zP b_1')] _ ?_)
  refine a6 (fun _ hK_6' => ?_)
  refine a4 ?_
  obtain ⟨o_2', h⟩ := h
  refine WL.call (A := []) axh rfl (a0d ([10] : List UInt8) o_2') rfl trivial rfl rfl ?_
  refine WL.call (A := []) ao6 rfl (asp (ofS ([10] : List UInt8))) rfl trivial rfl rfl ?_
  refine WL.storeW (vs := wl (~~~ (ofS ([10] : List UInt8)))) 0 rfl rfl rfl rfl rfl aae rfl rfl rfl ?_
  refine WL.nil ?_
  refine kg (hK_6' [(2, zP b_1')] _ ?_)
  refine c9 ?_
  exact hE.ret [1] rfl rfl (.inl ⟨_, _, _, h, rfl⟩) (f9.of1 rfl (RV.row rfl (At.own 0 rfl) y5))
 ·replace h := j5 h hb
  refine a6 (fun _ hK_7' => ?_)
  refine a4 ?_
  refine wv (OV.eql rfl rfl) ?_
  refine wa ?_
  refine WL.nil ?_
  refine kg (hK_7' [(0, zP b), (2, zP b_1'), (26, zB (decide (((r_0.getD r_1.toNat 0).toNat : Int) = 91)))] _ ?_)
  refine b6 (b := decide (((r_0.getD r_1.toNat 0).toNat : Int) = 91)) rfl (fun hb => ?_) (fun hb => ?_)
  ·replace h := j4 h hb
   refine a6 (fun _ hK_8' => ?_)
   refine a4 ?_
   refine wm ?_
   refine wv (OV.nilCheck rfl) ?_
   refine wv (OV.fieldAddr0 rfl d7) ?_
   refine wv (OV.load rfl (At.own 1 rfl) rfl b5) ?_
   obtain ⟨o_3', h⟩ := h
   refine wv (OV.add rfl rfl o_3') ?_
   refine wv (OV.nilCheck rfl) ?_
   refine wv (OV.fieldAddr0 rfl d7) ?_
   refine WL.store (vs := [zI (r_1 + 1)]) (cs' := [st r_0, zI (r_1 + 1)]) 1 rfl rfl rfl rfl g9 (Nat.le_of_ble_eq_true rfl) rfl rfl rfl ?_
   refine WL.nil ?_
   refine kg (hK_8' [(0, zP b), (2, zP b_1')] _ ?_)
   refine a6 (fun _ hK_9' => ?_)
   refine a4 ?_
   refine wm ?_
   obtain ⟨o_4', h⟩ := h
   refine WL.pick (H' := [HA.blk b (.cells [st r_0, zI (r_1 + 1)].toArray 127 (0, 0)), HA.blk b_1' (.cells (wl cs0).toArray 81 (0, 0))]) [1, 0] rfl rfl ?_
   refine WL.callS awu rfl (ap8 b te fre r_0 (r_1 + 1) o_4') rfl ⟨.inr (List.mem_of_getElem? (i := 0) rfl), trivial⟩ rfl rfl (fun r H' hS => ?_) (fun c H' hS => ?_)
   ·rcases hS with ⟨r_1', at0, hc, ho⟩ | ⟨e, at0_1', hc, ho⟩ <;> cases ho
    replace h := h.1 r_1' at0 hc
    refine WL.storeW (vs := wl r_1') 1 rfl rfl rfl rfl rfl aae rfl rfl rfl ?_
    refine WL.nil ?_
    refine kg (hK_9' [(2, zP b_1')] _ ?_)
    refine c9 ?_
    exact hE.ret [0] rfl rfl (.inl ⟨_, _, _, h, rfl⟩) (f9.of1 rfl (RV.row rfl (At.own 1 rfl) y5))
   ·rcases hS with ⟨r_1', at0, hc, ho⟩ | ⟨e, at0_1', hc, ho⟩ <;> cases ho
    replace h := h.2 e at0_1' hc
    exact hE.pan [0] rfl rfl (.inr ⟨_, _, _, h, rfl⟩)
  ·replace h := j5 h hb
   refine b7 ?_
   refine kg (hK_1' [(0, zP b), (2, zP b_1')] _ ?_)
   refine a6 (fun _ hK_10' => ?_)
   refine a4 ?_
   refine wm ?_
   obtain ⟨o_5', h⟩ := h
   refine WL.pick (H' := [HA.blk b (.cells [st r_0, zI r_1].toArray 127 (0, 0)), HA.blk b_1' (.cells (wl cs0).toArray 81 (0, 0))]) [1, 0] rfl rfl ?_
   refine WL.callS ako rfl (am8 b te fre r_0 r_1 ([40, 41, 91, 93, 123, 125, 124, 38, 45, 42, 43, 63, 46, 92, 47, 94] : List UInt8) o_5') rfl ⟨.inr (List.mem_of_getElem? (i := 0) rfl), trivial⟩ rfl rfl (fun r H' hS => ?_) (fun c H' hS => ?_)
   ·rcases hS with ⟨r_2', at0_2', hc, ho⟩ | ⟨e_1', at0_3', hc, ho⟩ <;> cases ho
    replace h := h.1 r_2' at0_2' hc
    refine wa ?_
    refine WL.nil ?_
    refine kg (hK_10' [(2, zP b_1'), (4, zU r_2')] _ ?_)
    refine a6 (fun _ hK_11' => ?_)
    refine a4 ?_
    refine wm ?_
    refine wm ?_
    obtain ⟨o_6', h⟩ := h
    refine WL.call (A := []) aps rfl (apz r_2' r_2' o_6') rfl trivial rfl rfl ?_
    refine WL.storeW (vs := wl (aao (r_2').toNat (r_2').toNat)) 1 rfl rfl rfl rfl rfl aae rfl rfl rfl ?_
    refine WL.nil ?_
    refine kg (hK_11' [(2, zP b_1')] _ ?_)
    refine c9 ?_
    exact hE.ret [0] rfl rfl (.inl ⟨_, _, _, h, rfl⟩) (f9.of1 rfl (RV.row rfl (At.own 1 rfl) y5))
   ·rcases hS with ⟨r_2', at0_2', hc, ho⟩ | ⟨e_1', at0_3', hc, ho⟩ <;> cases ho
    replace h := h.2 e_1' at0_3' hc
    exact hE.pan [0] rfl rfl (.inr ⟨_, _, _, h, rfl⟩)
def adi (t : List UInt8) (a : Int) : Except Int (CS × Int) :=
 if a8 t a = 46 then .ok (~~~ ofS [10], a + 1)
 else if a8 t a = 91 then ajh t (a + 1)
 else match ac7 t a spL with
  | .ok (b, q) => .ok (aao b.toNat b.toNat, q)
  | .error e => .error e
theorem ax1 (b : Nat) (te : TypeId) (fre : Nat × Nat) (t : List UInt8) (a : Int) (h : 0 ≤ a ∧ a < t.length ∧ t.length ≤ 9223372036854775807) : d5 Tryd.prog 69 [.pointer (some ⟨b, 0, none⟩)] (z8 te fre) [ajb b t a] (ay4 b t (adi t a)) := by
 refine (a0j b te fre t a (fun r t' q => t' = t ∧ adi t a = .ok (r, q)) (fun v t' _ => t' = t ∧ ∃ e, adi t a = .error e ∧ v = o3 10 e) ?_).weak ?_
 ·have hp : a8 t a = ((t.getD a.toNat 0).toNat : Int) := by unfold a8; rw [if_pos h.2.1]
  unfold ap6
  rw [← hp]
  have hI : I64 (a + 1) := ⟨by omega, by omega⟩
  refine ⟨⟨h.1, h.2.1⟩, ?_⟩
  by_cases h1 : a8 t a = 46
  ·rw [if_pos (by simpa using h1)]
   exact ⟨hI, by decide, rfl, by unfold adi; rw [if_pos h1]⟩
  ·rw [if_neg (by simpa using h1)]
   by_cases h2 : a8 t a = 91
   ·rw [if_pos (by simpa using h2)]
    have hM : adi t a = ajh t (a + 1) := by unfold adi; rw [if_neg h1, if_pos h2]
    rw [hM]
    exact ⟨hI, ⟨by omega, by omega, h.2.2⟩, fun r q hr => ⟨rfl, hr⟩, fun e q he => ⟨rfl, e, he, rfl⟩⟩
   ·rw [if_neg (by simpa using h2)]
    refine ⟨⟨h.1, by omega, h.2.2⟩, fun r q hr => ?_, fun e q he => ?_⟩
    ·have b1 := adw hr
     refine ⟨⟨⟨b1.1, b1.2.1⟩, b1.1, b1.2.1⟩, rfl, ?_⟩
     unfold adi; rw [if_neg h1, if_neg h2, show spL = [40, 41, 91, 93, 123, 125, 124, 38, 45, 42, 43, 63, 46, 92, 47, 94] from rfl, hr]
    ·refine ⟨rfl, e, ?_, rfl⟩
     unfold adi; rw [if_neg h1, if_neg h2, show spL = [40, 41, 91, 93, 123, 125, 124, 38, 45, 42, 43, 63, 46, 92, 47, 94] from rfl, he]
 ·rintro o (⟨r, t', q, ⟨rfl, hm⟩, rfl⟩ | ⟨v, t', q, ⟨rfl, e, hm, rfl⟩, rfl⟩)
  ·exact .inl ⟨r, q, hm, rfl⟩
  ·exact .inr ⟨e, q, hm, rfl⟩
end Go.Proofs.YtffhedoahdgniaaDoor
namespace Go.Proofs.YtffhedoahdgniaaDoor
open Go Go.RowKit
variable {P : Program} {ops : Array Oper} {Q : Exit → Act → World → Prop} {C : Cx} {L : Sl} {H : List HA} {rest : List Oper} {o : Oper}
def ae8 (P : Program) (f : FuncId) (args : List Value) (u u' : FrameMode) (R : List (Nat × Obj)) (A : List HA) (S : Out → Prop) : Prop :=
 ∀ w M, Own w A M → M.Nodup → (∀ k ∈ M, k < w.heap.size) → (∀ p ∈ R, w.heap[p.1]? = some p.2 ∧ p.1 ∉ M) → CallsD P f args.toArray u w (fun e u'' w' => u'' = u' ∧ ∃ H', aju S e H' ∧ Hp ⟨0, [], w, M, R⟩ H' w')
def ayr (u : FrameMode) (v : Value) (u' : FrameMode) : Prop :=
 (u = .returning ∧ v = .nilIface ∧ u' = .returning) ∨ (∃ x, u = .panicking [{ v := x, recovered := false }] ∧ v = x ∧ u' = .panicking [{ v := x, recovered := true }])
theorem ahr {f : FuncId} {fn : Func} {y : Code} {args : List Value} {R : List (Nat × Obj)} {A : List HA} {S : Out → Prop} {L0 : Sl} {n id d d2 : Nat} {ats : Array TypeId} {t1 t2 : TypeId} {p1 p2 : String} {e1 e2 : Array Edge} {u u' : FrameMode} {v : Value}
  (hf : P.funcs[f]? = some fn) (hb : fn.body = some (.seq (.region id [⟨some d, .call ⟨.builtin .recover, #[], ats⟩, t1, p1, e1, none⟩, ⟨some d2, .assign (.tmp d), t2, p2, e2, none⟩].toArray false) y)) (hnt : fn.ntmps = n) (hl : Nat.ble args.length n = true)
  (hL : (List.range args.length).zip args = L0) (hd : Nat.blt d n = true) (hd2 : Nat.blt d2 n = true) (hu : ayr u v u')
  (h : ∀ w0 M Q, Ends P fn ⟨n, [], w0, M, R⟩ S Q → WC P y Q ⟨n, [], w0, M, R⟩ ((d2, v) :: (d, v) :: L0) A) : ae8 P f args u u' R A S := by
 intro w M hO hn hlt hR
 subst hnt
 have hle : args.length ≤ fn.ntmps := Nat.le_of_ble_eq_true hl
 refine callsD_of_wpS hf hb fun c₀ cs hc => ?_
 refine wpS_seq (wpS_region ?_)
 have hd' : d < fn.ntmps := Nat.blt_eq ▸ hd
 have hfr : Fr ⟨fn.ntmps, [], w, M, R⟩ L0 ⟨args.toArray ++ Array.replicate (fn.ntmps - args.toArray.size) undef, []⟩ := by
  refine ⟨rfl, by simp; omega, ?_⟩
  intro i x hg
  subst hL
  have hm := Sl.get_mem hg
  obtain ⟨j, hj⟩ := List.mem_iff_getElem?.1 hm
  rw [List.getElem?_zip_eq_some] at hj
  obtain ⟨h1, h2⟩ := hj
  have hij : j = i := by
   have h3 := (List.getElem?_eq_some_iff.1 h1)
   obtain ⟨h4, h5⟩ := h3
   simp at h5; exact h5
  subst hij
  have hjl : j < args.length := (List.getElem?_eq_some_iff.1 h2).1
  simp only [List.size_toArray]
  rw [Array.getElem?_append_left (by simpa using hjl)]
  simpa using h2
 generalize (⟨args.toArray ++ Array.replicate (fn.ntmps - args.toArray.size) undef, []⟩ : Act) = a0 at hfr ⊢
 have hfr2 := (hfr.put hd v).put hd2 v
 have hp := Hp.start fn.ntmps [] w hO hn hlt hR
 have hrun : (execOp a0.eval ⟨some d, .call ⟨.builtin .recover, #[], ats⟩, t1, p1, e1, none⟩).run P w = .ok .recover w := by
  simp [execOp, resolve, invoke, builtin]
 have hev : (a0.put (some d) v).eval (.tmp d) = v := (hfr.put hd v).ev (x := .tmp d) (by simp [ev, Sl.get])
 have hrun2 : (execOp (a0.put (some d) v).eval ⟨some d2, .assign (.tmp d), t2, p2, e2, none⟩).run P w = .ok (.value v) w := by
  simp only [execOp, hev, Sem.run_pure]
 have key : ∀ cs', (match recoverD (c₀ :: cs) with | some (x, c') => x = v ∧ c' = cs' | none => .nilIface = v ∧ (c₀ :: cs) = cs') → cs' = { c₀ with mode := u' } :: cs →
   wpOpsS P [⟨some d, .call ⟨.builtin .recover, #[], ats⟩, t1, p1, e1, none⟩, ⟨some d2, .assign (.tmp d), t2, p2, e2, none⟩].toArray (Exit.thenS (y.wpS P (bodyPostS P fn c₀ cs fun e u'' w' => u'' = u' ∧ ∃ H', aju S e H' ∧ Hp ⟨0, [], w, M, R⟩ H' w')) (bodyPostS P fn c₀ cs fun e u'' w' => u'' = u' ∧ ∃ H', aju S e H' ∧ Hp ⟨0, [], w, M, R⟩ H' w')) [0, 1] a0 (c₀ :: cs) w := by
  intro cs' hrec hcs'
  have hy : y.wpS P (bodyPostS P fn c₀ cs fun e u'' w' => u'' = u' ∧ ∃ H', aju S e H' ∧ Hp ⟨0, [], w, M, R⟩ H' w') ((a0.put (some d) v).put (some d2) v) cs' w := by
   subst hcs'
   refine wpS_of_wp ?_
   refine h w M _ ?_ _ _ hfr2 hp
   refine ⟨fun idx hi he hS hr a w' hfr hp => ?_, fun idx hi he hS hr a w' hfr hp => ?_, fun idx hi he hS a w' hfr hp => ?_⟩
   ·exact ⟨hfr.defers, u', rfl, _, hr a w' hfr hp, rfl, _, .inl ⟨_, rfl, hS⟩, he ▸ (hp.pick idx hi).ctx⟩
   ·exact ⟨hfr.defers, u', rfl, _, hr a w' hfr hp, rfl, _, .inl ⟨_, rfl, hS⟩, he ▸ (hp.pick idx hi).ctx⟩
   ·exact ⟨hfr.defers, u', rfl, rfl, _, .inr ⟨_, rfl, hS⟩, he ▸ (hp.pick idx hi).ctx⟩
  have hy2 : wpOpsS P [⟨some d, .call ⟨.builtin .recover, #[], ats⟩, t1, p1, e1, none⟩, ⟨some d2, .assign (.tmp d), t2, p2, e2, none⟩].toArray (Exit.thenS (y.wpS P (bodyPostS P fn c₀ cs fun e u'' w' => u'' = u' ∧ ∃ H', aju S e H' ∧ Hp ⟨0, [], w, M, R⟩ H' w')) (bodyPostS P fn c₀ cs fun e u'' w' => u'' = u' ∧ ∃ H', aju S e H' ∧ Hp ⟨0, [], w, M, R⟩ H' w')) [1] (a0.put (some d) v) cs' w := by
   simp only [wpOpsS, List.getElem?_toArray, List.getElem?_cons_succ, List.getElem?_cons_zero, Region.wanted, if_true, hrun2, Oper.upon]
   exact hy
  unfold wpOpsS
  simp only [List.getElem?_toArray, List.getElem?_cons_zero, Region.wanted, if_true, hrun]
  cases hr : recoverD (c₀ :: cs) with
  | none => rw [hr] at hrec; obtain ⟨rfl, rfl⟩ := hrec; exact hy2
  | some q => rw [hr] at hrec; obtain ⟨x, c'⟩ := q; obtain ⟨rfl, rfl⟩ := hrec; exact hy2
 have hrange : List.range ([⟨some d, .call ⟨.builtin .recover, #[], ats⟩, t1, p1, e1, none⟩, ⟨some d2, .assign (.tmp d), t2, p2, e2, none⟩] : List Oper).toArray.size = [0, 1] := rfl
 rw [hrange]
 rcases hu with ⟨rfl, rfl, rfl⟩ | ⟨x, rfl, rfl, rfl⟩
 ·refine key _ ?_ rfl
  have : recoverD (c₀ :: cs) = none := by simp [recoverD, hc]
  rw [this]
  exact ⟨rfl, by cases c₀; simp_all⟩
 ·refine key _ ?_ rfl
  have : recoverD (c₀ :: cs) = some (v, { c₀ with mode := .panicking [{ v, recovered := true }] } :: cs) := by simp [recoverD, hc]
  rw [this]
  exact ⟨rfl, rfl⟩
theorem avp {x y : Code} (h : ∀ K : Act → World → Prop, (∀ C L H, WC P y Q C L H → KX K C L H) → WC P x (Exit.then K Q) C L H) : WC P (.seq x y) Q C L H :=
 fun a w hf hp => wp_seq (h _ (fun _ _ _ hy => hy) a w hf hp)
theorem OV.makeFunc {f : FuncId} {xs : List Operand} {vs : List Value} {ty : TypeId} {d : Option Tmp} {p : String} {e : Array Edge} {g : Option (Nat × Bool)} (hx : evs L xs = some vs) : OV P C L H ⟨d, .makeFunc (.func f) #[] xs.toArray, ty, p, e, g⟩ (.func (.func f) #[] vs.toArray) := fun a w hf _ => by
 simp [execOp, Instr.makeFunc, agi hf hx]
theorem WL.defer {x : Operand} {ats : Array TypeId} {ty : TypeId} {p : String} {e : Array Edge} {d : Option Tmp} {f : FuncId} {vs : List Value} (hx : ev L x = some (.func (.func f) #[] vs.toArray)) (hd : d = none)
  (h : WL P ops Q { C with D := ⟨.fn (.func f) vs.toArray, #[]⟩ :: C.D } L H rest) : WL P ops Q C L H (⟨d, .defer ⟨.value x, #[], ats⟩, ty, p, e, none⟩ :: rest) := by
 intro a w hf hp
 subst hd
 refine x6 (by simp [Region.wanted]) ?_
 unfold Oper.wp
 have : (execOp a.eval ⟨none, .defer ⟨.value x, #[], ats⟩, ty, p, e, none⟩).run P w = .ok (.defer ⟨.fn (.func f) vs.toArray, #[]⟩) w := by
  simp [execOp, resolve, hf.ev hx, Deferred.ofValue]
 rw [this]
 simp only [Oper.upon, Act.put]
 exact h _ _ ⟨by simp [hf.defers], hf.size, hf.get⟩ hp.ctx
structure EndsD (P : Program) (fn : Func) (n : Nat) (w0 : World) (M : List Nat) (R : List (Nat × Obj)) (S : Out → Prop) (Q : Exit → Act → World → Prop) : Prop where
 ret : ∀ {D : List Deferred} {L : Sl} {H : List HA}, (∀ a w, Fr ⟨n, D, w0, M, R⟩ L a → Hp ⟨n, D, w0, M, R⟩ H w → Leaves P fn a.tmps (fun e w' => ∃ H', aju S e H' ∧ Hp ⟨0, [], w0, M, R⟩ H' w') D .returning w) → QX Q .ret ⟨n, D, w0, M, R⟩ L H
 norm : ∀ {D : List Deferred} {L : Sl} {H : List HA}, (∀ a w, Fr ⟨n, D, w0, M, R⟩ L a → Hp ⟨n, D, w0, M, R⟩ H w → Leaves P fn a.tmps (fun e w' => ∃ H', aju S e H' ∧ Hp ⟨0, [], w0, M, R⟩ H' w') D .returning w) → QX Q .normal ⟨n, D, w0, M, R⟩ L H
 pan : ∀ {D : List Deferred} {L : Sl} {H : List HA} {c : List PanicEntry}, (∀ a w, Fr ⟨n, D, w0, M, R⟩ L a → Hp ⟨n, D, w0, M, R⟩ H w → Leaves P fn a.tmps (fun e w' => ∃ H', aju S e H' ∧ Hp ⟨0, [], w0, M, R⟩ H' w') D (.panicking c) w) → QX Q (.panic c) ⟨n, D, w0, M, R⟩ L H
theorem alc {f : FuncId} {fn : Func} {c : Code} {args : List Value} {R : List (Nat × Obj)} {A : List HA} {S : Out → Prop} {L0 : Sl} {n : Nat} (hf : P.funcs[f]? = some fn) (hb : fn.body = some c) (hnt : fn.ntmps = n) (hl : Nat.ble args.length n = true)
  (hL : (List.range args.length).zip args = L0)
  (h : ∀ w0 M Q, EndsD P fn n w0 M R S Q → WC P c Q ⟨n, [], w0, M, R⟩ L0 A) : d5 P f args R A S := by
 intro w M hO hn hlt hR
 subst hnt
 have hle : args.length ≤ fn.ntmps := Nat.le_of_ble_eq_true hl
 refine calls_of_wp_defers hf hb ?_
 refine h w M _ ?_ _ _ ⟨rfl, ?_, ?_⟩ (Hp.start _ _ w hO hn hlt hR)
 ·refine ⟨fun hh a w' hfr hp => ?_, fun hh a w' hfr hp => ?_, fun hh a w' hfr hp => ?_⟩
  all_goals
   have := hh a w' hfr hp
   have hd := hfr.defers
   simp only at hd
   rw [← hd] at this
   exact this
 ·simp; omega
 ·intro i v hg
  subst hL
  have hm := Sl.get_mem hg
  obtain ⟨j, hj⟩ := List.mem_iff_getElem?.1 hm
  rw [List.getElem?_zip_eq_some] at hj
  obtain ⟨h1, h2⟩ := hj
  have hij : j = i := by
   have h3 := (List.getElem?_eq_some_iff.1 h1)
   obtain ⟨h4, h5⟩ := h3
   simp at h5; exact h5
  subst hij
  have hjl : j < args.length := (List.getElem?_eq_some_iff.1 h2).1
  simp only [List.size_toArray]
  rw [Array.getElem?_append_left (by simpa using hjl)]
  simpa using h2
theorem avr {fn : Func} {n : Nat} {w0 : World} {M : List Nat} {R : List (Nat × Obj)} {S : Out → Prop} {H' : List HA} {v : Value} (idx : List Nat) (hi : x2 idx = true) (he : sel H idx = H') (hS : S (.ret v H')) (hr : f9 P fn ⟨n, [], w0, M, R⟩ L H v) :
  ∀ a w, Fr ⟨n, [], w0, M, R⟩ L a → Hp ⟨n, [], w0, M, R⟩ H w → Leaves P fn a.tmps (fun e w' => ∃ H', aju S e H' ∧ Hp ⟨0, [], w0, M, R⟩ H' w') [] .returning w :=
 fun a w hf hp => ⟨v, hr a w hf hp, _, .inl ⟨_, rfl, hS⟩, he ▸ (hp.pick idx hi).ctx⟩
theorem ahc {fn : Func} {n : Nat} {w0 : World} {M : List Nat} {R R' : List (Nat × Obj)} {S : Out → Prop} {H' A A' Rest : List HA} {v vc : Value} {f : FuncId} {vs : List Value} {u u' : FrameMode} {H : List HA} (idx0 : List Nat) (hi0 : x2 idx0 = true) (hH : sel H idx0 = A ++ Rest)
  (hent : r8 P f = true) (hc : ae8 P f vs u u' R' A (Ret vc A')) (hrun : u ≠ .run) (hset : settle u' = .returning) (hR : ROk ⟨n, [⟨.fn (.func f) vs.toArray, #[]⟩], w0, M, R⟩ Rest R')
  (idx : List Nat) (hi : x2 idx = true) (he : sel (A' ++ Rest) idx = H') (hS : S (.ret v H')) (hr : f9 P fn ⟨n, [⟨.fn (.func f) vs.toArray, #[]⟩], w0, M, R⟩ L (A' ++ Rest) v) :
  ∀ a w, Fr ⟨n, [⟨.fn (.func f) vs.toArray, #[]⟩], w0, M, R⟩ L a → Hp ⟨n, [⟨.fn (.func f) vs.toArray, #[]⟩], w0, M, R⟩ H w → Leaves P fn a.tmps (fun e w' => ∃ H', aju S e H' ∧ Hp ⟨0, [], w0, M, R⟩ H' w') [⟨.fn (.func f) vs.toArray, #[]⟩] u w := by
 intro a w hf hp
 have hp := hH ▸ hp.pick idx0 hi0
 refine ⟨hrun, .func f, vs.toArray, f, vs.toArray, rfl, by simp [invoke, ahf hent], ?_⟩
 obtain ⟨F, h1, h2, h3⟩ := hp.own
 obtain ⟨F1, F2, rfl, hA, hB⟩ := h1.split
 have hnd := List.nodup_append.1 h2
 refine (hc w F1 hA hnd.1 (fun k hk => (h3 k (List.mem_append.2 (.inl hk))).1) ?_).mono ?_
 ·intro q hq
  rcases hR.all q hq with ⟨i, hi⟩ | hm
  ·refine ⟨hp.blk (i := A.length + i) (by rw [List.getElem?_append_right (by omega)]; simpa using hi), fun hm => ?_⟩
   exact hnd.2.2 q.1 hm q.1 (hB.mem_blk hi) rfl
  ·refine ⟨hp.old hm, fun hk => ?_⟩
   have hro := hp.ro q hm
   have hlt := j9 hro.1
   rcases (h3 q.1 (List.mem_append.2 (.inl hk))).2 with h4 | h4
   ·omega
   ·exact hro.2 h4
 ·rintro en u'' w' ⟨rfl, H'', hS', hh⟩
  rcases hS' with ⟨r, rfl, hS'⟩ | ⟨c, rfl, hS'⟩
  ·cases hS'
   have hp' := hp.call hB h2 h3 hh
   show Leaves P fn a.tmps _ [] (settle u'') w'
   rw [hset]
   exact ⟨v, hr a w' hf hp', _, .inl ⟨_, rfl, hS⟩, he ▸ (hp'.pick idx hi).ctx⟩
  ·cases hS'
theorem OV.assertIs {x : Operand} {t t' ty : TypeId} {d : Option Tmp} {p : String} {e : Array Edge} {g : Option (Nat × Bool)} {v : Value} {dd : TypeDesc} (hx : ev L x = some (.iface t' v)) (hu : P.underlying t' = some dd) (hn : (match dd with | .interface _ => false | _ => true) = true) : OV P C L H ⟨d, .typeAssert x t t' false, ty, p, e, g⟩ v := fun a w hf _ => by
 have : (Instr.typeAssert (.iface t' v) t t' false).run P w = .ok v w := by
  unfold Instr.typeAssert
  rw [Sem.run_bind, o6 hu]
  cases dd <;> simp_all
 simp [execOp, hf.ev hx, this]
theorem OV.neqNil {x y : Operand} {t t' ty tv : TypeId} {d : Option Tmp} {p : String} {e : Array Edge} {g : Option (Nat × Bool)} {v : Value} {ms : Array (String × TypeId)} (hx : ev L x = some (.iface tv v)) (hy : ev L y = some .nilIface) (hu : P.underlying t = some (.interface ms)) : OV P C L H ⟨d, .binOp .neq t x y t', ty, p, e, g⟩ (.bool true) := fun a w hf _ => by
 have h : binOp .neq t (.iface tv v) .nilIface = (do pure (.bool (!(← Op.equal t (.iface tv v) .nilIface)))) := rfl
 have h2 : (Op.equal t (.iface tv v) .nilIface).run P w = .ok false w := by
  unfold Op.equal Op.maxDepth Op.equalIn
  rw [Sem.run_bind, o6 hu]; rfl
 simp only [execOp, hf.ev hx, hf.ev hy, eqGuard_at_iface, h, Sem.run_bind, Sem.run_pure, Result.andThen_ok, h2]
 rfl
theorem OV.neqNil0 {x : Operand} {t t' ty : TypeId} {d : Option Tmp} {p : String} {e : Array Edge} {g : Option (Nat × Bool)} {ms : Array (String × TypeId)} (hx : ev L x = some .nilIface) (hu : P.underlying t = some (.interface ms)) : OV P C L H ⟨d, .binOp .neq t x (.const .nilIface) t', ty, p, e, g⟩ (.bool false) := fun a w hf _ => by
 have h : binOp .neq t .nilIface .nilIface = (do pure (.bool (!(← Op.equal t .nilIface .nilIface)))) := rfl
 have h2 : (Op.equal t .nilIface .nilIface).run P w = .ok true w := by
  unfold Op.equal Op.maxDepth Op.equalIn
  rw [Sem.run_bind, o6 hu]; rfl
 have hc : a.eval (.const .nilIface) = .nilIface := rfl
 simp only [execOp, hf.ev hx, hc, eqGuard_nil_constR, h, Sem.run_bind, Sem.run_pure, Result.andThen_ok, h2]
 rfl
theorem ae8.weak {f : FuncId} {args : List Value} {u u' : FrameMode} {R : List (Nat × Obj)} {A : List HA} {S S' : Out → Prop} (h : ae8 P f args u u' R A S) (hs : ∀ o, S o → S' o) : ae8 P f args u u' R A S' := fun w M hO hn hl hr => (h w M hO hn hl hr).mono fun en u'' w' ⟨hu, H', hS, hh⟩ => ⟨hu, H', by
  rcases hS with ⟨r, e1, hS⟩ | ⟨c, e1, hS⟩
  ·exact .inl ⟨r, e1, hs _ hS⟩
  ·exact .inr ⟨c, e1, hs _ hS⟩, hh⟩
end Go.Proofs.YtffhedoahdgniaaDoor
set_option maxRecDepth 100000
namespace Go.Proofs.YtffhedoahdgniaaDoor
open Go Go.RowKit
theorem aak : s7 Tryd.prog 26 3 = true := by kernel_rfl
theorem awa : abz Tryd.prog 3 = some [zI 0] := by kernel_rfl
theorem ac1 : abz Tryd.prog 26 = some [zI 0, zI 0, st []] := by kernel_rfl
theorem aab : RowT Tryd.prog 26 3 := ⟨by kernel_rfl, by kernel_rfl⟩
theorem axq : r8 Tryd.prog 69 = true := by kernel_rfl
theorem aov : r8 Tryd.prog 68 = true := by kernel_rfl
def akb (c : CS) (c_1' : Int) (c_2'_0 : Int) (c_2'_1 : Int) (c_2'_2 : List UInt8) (K : CS → Int → Int → Int → (List UInt8) → Prop) : Prop :=
 K c c_1' c_2'_0 c_2'_1 c_2'_2
theorem awv (b : Nat) (b_1' : Nat) (b_2' : Nat) (c : CS) (c_1' : Int) (c_2'_0 : Int) (c_2'_1 : Int) (c_2'_2 : List UInt8) (K : CS → Int → Int → Int → (List UInt8) → Prop) (h : akb c c_1' c_2'_0 c_2'_1 c_2'_2 K) :
  ae8 Tryd.prog 68 [zP b, zP b_1', zP b_2'] (.returning) (.returning) [] [HA.blk b (.cells (wl c).toArray 81 (0, 0)), HA.blk b_1' (.cells [zI c_1'].toArray 3 (0, 0)), HA.blk b_2' (.cells [zI c_2'_0, zI c_2'_1, st c_2'_2].toArray 26 (0, 0))] (fun o => (∃ (d : CS) (d_1' : Int) (d_2'_0 : Int) (d_2'_1 : Int) (d_2'_2 : List UInt8), K d d_1' d_2'_0 d_2'_1 d_2'_2 ∧ o = .ret (Value.tuple #[]) [HA.blk b (.cells (wl d).toArray 81 (0, 0)), HA.blk b_1' (.cells [zI d_1'].toArray 3 (0, 0)), HA.blk b_2' (.cells [zI d_2'_0, zI d_2'_1, st d_2'_2].toArray 26 (0, 0))]) ∨ (False)) := by
 unfold akb at h
 refine ahr (n := 10) (L0 := [(0, zP b), (1, zP b_1'), (2, zP b_2')]) (v := Value.nilIface) Tryd.func68 rfl rfl rfl rfl rfl rfl (.inl ⟨rfl, rfl, rfl⟩) (fun w0 M Q hE => ?_)
 refine a6 (fun _ hK => ?_)
 refine a4 ?_
 refine wm ?_
 refine wv (OV.neqNil0 rfl Tryd.underlying20) ?_
 refine WL.nil ?_
 refine kg (hK [(0, zP b), (1, zP b_1'), (2, zP b_2'), (3, Value.nilIface), (6, zB false)] _ ?_)
 refine f0 rfl ?_
 refine b7 ?_
 exact hE.norm [0, 1, 2] rfl rfl (.inl ⟨_, _, _, _, _, h, rfl⟩) (f9.none rfl)
def aj1 (_ : CS) (_ : Int) (_ : Int) (_ : Int) (_ : List UInt8) (fc : Int) (fa : Int) (ft : List UInt8) (K : CS → Int → Int → Int → (List UInt8) → Prop) : Prop :=
 K cs0 0 fc fa ft
theorem av7 (b : Nat) (b_1' : Nat) (b_2' : Nat) (c : CS) (c_1' : Int) (c_2'_0 : Int) (c_2'_1 : Int) (c_2'_2 : List UInt8) (fc : Int) (fa : Int) (ft : List UInt8) (K : CS → Int → Int → Int → (List UInt8) → Prop) (h : aj1 c c_1' c_2'_0 c_2'_1 c_2'_2 fc fa ft K) :
  ae8 Tryd.prog 68 [zP b, zP b_1', zP b_2'] (.panicking [{ v := Value.iface 26 (Value.agg [zI fc, zI fa, st ft].toArray), recovered := false }]) (.panicking [{ v := Value.iface 26 (Value.agg [zI fc, zI fa, st ft].toArray), recovered := true }]) [] [HA.blk b (.cells (wl c).toArray 81 (0, 0)), HA.blk b_1' (.cells [zI c_1'].toArray 3 (0, 0)), HA.blk b_2' (.cells [zI c_2'_0, zI c_2'_1, st c_2'_2].toArray 26 (0, 0))] (fun o => (∃ (d : CS) (d_1' : Int) (d_2'_0 : Int) (d_2'_1 : Int) (d_2'_2 : List UInt8), K d d_1' d_2'_0 d_2'_1 d_2'_2 ∧ o = .ret (Value.tuple #[]) [HA.blk b (.cells (wl d).toArray 81 (0, 0)), HA.blk b_1' (.cells [zI d_1'].toArray 3 (0, 0)), HA.blk b_2' (.cells [zI d_2'_0, zI d_2'_1, st d_2'_2].toArray 26 (0, 0))]) ∨ (False)) := by
 unfold aj1 at h
 refine ahr (n := 10) (L0 := [(0, zP b), (1, zP b_1'), (2, zP b_2')]) (v := Value.iface 26 (Value.agg [zI fc, zI fa, st ft].toArray)) Tryd.func68 rfl rfl rfl rfl rfl rfl (.inr ⟨_, rfl, rfl, rfl⟩) (fun w0 M Q hE => ?_)
 refine a6 (fun _ hK => ?_)
 refine a4 ?_
 refine wm ?_
 refine wv (OV.neqNil rfl rfl Tryd.underlying20) ?_
 refine WL.nil ?_
 refine kg (hK [(0, zP b), (1, zP b_1'), (2, zP b_2'), (3, Value.iface 26 (Value.agg [zI fc, zI fa, st ft].toArray)), (6, zB true)] _ ?_)
 refine w5 rfl ?_
 refine ai6 3 [] [] rfl rfl g8 (by kernel_rfl) (fun T hT => ?_)
 refine TW.val (OV.build rfl (cs := [Value.int .u64 0, Value.int .u64 0, Value.int .u64 0, Value.int .u64 0]) rfl) rfl rfl rfl ?_
 refine TW.val (OV.move rfl) rfl rfl rfl ?_
 refine TW.val (OV.assertIs rfl Tryd.underlying26 rfl) rfl rfl rfl ?_
 refine TW.nil (hT _ ?_)
 refine WLK.op [] rfl rfl (OpK.storeW (vs := [Value.int .u64 0, Value.int .u64 0, Value.int .u64 0, Value.int .u64 0]) 0 rfl rfl rfl rfl rfl aae rfl rfl) rfl ?_
 refine WLK.op [] rfl rfl (OpK.store (vs := [zI 0]) (cs' := [zI 0]) 1 rfl rfl rfl rfl g9 (Nat.le_of_ble_eq_true rfl) rfl rfl) rfl ?_
 refine WLK.op [] rfl rfl (OpK.storeW (vs := [zI fc, zI fa, st ft]) 2 rfl rfl rfl rfl rfl aak rfl rfl) rfl ?_
 refine WLK.nil ?_
 exact hE.norm [0, 1, 2] rfl rfl (.inl ⟨_, _, _, _, _, h, rfl⟩) (f9.none rfl)
abbrev alo (b b1 b2 : Nat) (c : CS) (n x y : Int) (z : List UInt8) : List HA :=
 [.blk b (.cells (wl c).toArray 81 (0, 0)), .blk b1 (.cells [zI n].toArray 3 (0, 0)), .blk b2 (.cells [zI x, zI y, st z].toArray 26 (0, 0))]
theorem axg (b b1 b2 : Nat) (c : CS) (n x y : Int) (z : List UInt8) : ae8 Tryd.prog 68 [.pointer (some ⟨b, 0, none⟩), .pointer (some ⟨b1, 0, none⟩), .pointer (some ⟨b2, 0, none⟩)] .returning .returning [] (alo b b1 b2 c n x y z) (Ret (.tuple #[]) (alo b b1 b2 c n x y z)) := by
 refine (awv b b1 b2 c n x y z (fun c' n' x' y' z' => c' = c ∧ n' = n ∧ x' = x ∧ y' = y ∧ z' = z) ?_).weak ?_
 ·unfold akb; exact ⟨rfl, rfl, rfl, rfl, rfl⟩
 ·rintro o (⟨c', n', x', y', z', ⟨rfl, rfl, rfl, rfl, rfl⟩, rfl⟩ | h)
  ·rfl
  ·exact h.elim
theorem axv (b b1 b2 : Nat) (c : CS) (n x y : Int) (z : List UInt8) (fc fa : Int) (ft : List UInt8) : ae8 Tryd.prog 68 [.pointer (some ⟨b, 0, none⟩), .pointer (some ⟨b1, 0, none⟩), .pointer (some ⟨b2, 0, none⟩)]
  (.panicking [{ v := .iface 26 (.agg [.int .i64 fc, .int .i64 fa, st ft].toArray), recovered := false }]) (.panicking [{ v := .iface 26 (.agg [.int .i64 fc, .int .i64 fa, st ft].toArray), recovered := true }]) [] (alo b b1 b2 c n x y z) (Ret (.tuple #[]) (alo b b1 b2 cs0 0 fc fa ft)) := by
 refine (av7 b b1 b2 c n x y z fc fa ft (fun c' n' x' y' z' => c' = cs0 ∧ n' = 0 ∧ x' = fc ∧ y' = fa ∧ z' = ft) ?_).weak ?_
 ·unfold aj1; exact ⟨rfl, rfl, rfl, rfl, rfl⟩
 ·rintro o (⟨c', n', x', y', z', ⟨rfl, rfl, rfl, rfl, rfl⟩, rfl⟩ | h)
  ·rfl
  ·exact h.elim
def ap0 (text : List UInt8) (at0 : Int) (K : CS → Int → Int → Int → (List UInt8) → Prop) : Prop :=
 (if ((decide (at0 < 0)) || (decide ((text.length : Int) ≤ at0))) = true then
  K cs0 0 2 0 []
 else
  (0 ≤ at0 ∧ at0 < text.length ∧ text.length ≤ 9223372036854775807) ∧
  (∀ (r : CS) (at0_1' : Int), adi text at0 = .ok (r, at0_1') →
   K r at0_1' 0 0 []) ∧
  (∀ (e : Int) (_at0_2' : Int), adi text at0 = .error e →
   K cs0 0 10 e []))
theorem a0y (te : TypeId) (fre : Nat × Nat) (text : List UInt8) (at0 : Int) (K : CS → Int → Int → Int → (List UInt8) → Prop) (h : ap0 text at0 K) :
  d5 Tryd.prog 63 [st text, zI at0] [(0, .cells [zU 110, zU 10, zU 114, zU 13, zU 116, zU 9].toArray te fre)] [] (fun o => (∃ (v : CS) (v_1' : Int) (v_2'_0 : Int) (v_2'_1 : Int) (v_2'_2 : List UInt8), K v v_1' v_2'_0 v_2'_1 v_2'_2 ∧ o = .ret (Value.tuple #[Value.agg (wl v).toArray, zI v_1', Value.agg [zI v_2'_0, zI v_2'_1, st v_2'_2].toArray]) []) ∨ (False)) := by
 unfold ap0 at h
 refine alc (n := 31) (L0 := [(0, st text), (1, zI at0)]) Tryd.func63 rfl rfl rfl rfl (fun w0 M Q hE => ?_)
 refine a6 (fun _ hK => ?_)
 refine a4 ?_
 refine WL.make (MV.alloc aef) rfl rfl rfl (fun b => ?_)
 refine WL.make (MV.alloc awa) rfl rfl rfl (fun b_1' => ?_)
 refine WL.make (MV.alloc ac1) rfl rfl rfl (fun b_2' => ?_)
 refine WL.nil ?_
 refine kg (hK [(0, st text), (1, zI at0), (4, zP b), (5, zP b_1'), (6, zP b_2')] _ ?_)
 refine a6 (fun _ hK_1' => ?_)
 refine a6 (fun _ hK_2' => ?_)
 refine a4 ?_
 refine wm ?_
 refine wv (OV.lss rfl rfl) ?_
 refine wm ?_
 refine WL.cut 5 [(0, st text), (1, zI at0), (4, zP b), (5, zP b_1'), (6, zP b_2'), (15, zB ((decide (at0 < 0)) || (decide ((text.length : Int) ≤ at0))))] ?_ (fun K0_3' hK_3' => ?_)
 rotate_left
 ·refine WL.split (decide (at0 < 0)) (fun hb => ?_) (fun hb => ?_)
  ·refine WL.set 10 rfl (congrArg zB hb) ?_
   refine wk ?_
   refine wk ?_
   refine wk ?_
   refine wk ?_
   refine wv (OV.pickT rfl rfl) ?_
   refine WL.set 15 rfl (oT (v := decide ((text.length : Int) ≤ at0)) hb) ?_
   exact WL.end_ (kg hK_3')
  ·refine WL.set 10 rfl (congrArg zB hb) ?_
   refine wm ?_
   refine wm ?_
   refine wv (OV.len rfl j7) ?_
   refine wv (OV.geq rfl rfl) ?_
   refine wv (OV.pickF rfl rfl) ?_
   refine WL.set 15 rfl (oF (v := decide ((text.length : Int) ≤ at0)) hb) ?_
   exact WL.end_ (kg hK_3')
 refine WL.nil ?_
 refine kg (hK_2' [(0, st text), (1, zI at0), (4, zP b), (5, zP b_1'), (6, zP b_2'), (15, zB ((decide (at0 < 0)) || (decide ((text.length : Int) ≤ at0))))] _ ?_)
 refine b6 (b := (decide (at0 < 0)) || (decide ((text.length : Int) ≤ at0))) rfl (fun hb => ?_) (fun hb => ?_)
 ·replace h := j4 h hb
  refine a6 (fun _ hK_4' => ?_)
  refine a4 ?_
  refine wv (OV.build rfl (cs := [Value.int .u64 0, Value.int .u64 0, Value.int .u64 0, Value.int .u64 0]) rfl) ?_
  refine wv (OV.build rfl (cs := [zI 2, zI 0, st []]) rfl) ?_
  refine WL.storeW (vs := [Value.int .u64 0, Value.int .u64 0, Value.int .u64 0, Value.int .u64 0]) 2 rfl rfl rfl rfl rfl aae rfl rfl rfl ?_
  refine WL.store (vs := [zI 0]) (cs' := [zI 0]) 1 rfl rfl rfl rfl g9 (Nat.le_of_ble_eq_true rfl) rfl rfl rfl ?_
  refine WL.storeW (vs := [zI 2, zI 0, st []]) 0 rfl rfl rfl rfl rfl aak rfl rfl rfl ?_
  refine WL.nil ?_
  refine kg (hK_4' [(4, zP b), (5, zP b_1'), (6, zP b_2')] _ ?_)
  refine c9 ?_
  exact hE.ret (avr [] rfl rfl (.inl ⟨_, _, _, _, _, h, rfl⟩) (f9.of3 rfl (RV.row rfl (At.own 2 rfl) y5) (RV.cell rfl (At.own 1 rfl) rfl b5) (RV.row rfl (At.own 0 rfl) aab)))
 ·replace h := j5 h hb
  refine b7 ?_
  refine kg (hK_1' [(0, st text), (1, zI at0), (4, zP b), (5, zP b_1'), (6, zP b_2')] _ ?_)
  refine avp (fun K0_5' hK_5' => ?_)
  refine a4 ?_
  refine wv (OV.makeFunc rfl) ?_
  refine WL.defer rfl rfl ?_
  refine WL.nil ?_
  refine kg (hK_5' _ [(0, st text), (1, zI at0), (4, zP b), (5, zP b_1'), (6, zP b_2')] _ ?_)
  refine a6 (fun _ hK_6' => ?_)
  refine a4 ?_
  refine wm ?_
  refine wm ?_
  refine wv (OV.build rfl (cs := [st text, zI at0]) rfl) ?_
  refine WL.make (MV.box (cs := [st text, zI at0]) rfl rfl) rfl rfl rfl (fun b_3' => ?_)
  refine wa ?_
  refine WL.nil ?_
  refine kg (hK_6' [(4, zP b), (5, zP b_1'), (6, zP b_2'), (7, zP b_3')] _ ?_)
  refine a6 (fun _ hK_7' => ?_)
  refine a4 ?_
  refine wm ?_
  obtain ⟨o_1', h⟩ := h
  refine WL.callS axq rfl (ax1 b_3' te fre text at0 o_1') rfl ⟨.inr (List.mem_of_getElem? (i := 0) rfl), trivial⟩ rfl rfl (fun r H' hS => ?_) (fun c H' hS => ?_)
  ·rcases hS with ⟨r, at0_1', hc, ho⟩ | ⟨e, at0_2', hc, ho⟩ <;> cases ho
   replace h := h.1 r at0_1' hc
   refine WL.storeW (vs := wl r) 3 rfl rfl rfl rfl rfl aae rfl rfl rfl ?_
   refine WL.nil ?_
   refine kg (hK_7' [(4, zP b), (5, zP b_1'), (6, zP b_2'), (7, zP b_3')] _ ?_)
   refine a6 (fun _ hK_8' => ?_)
   refine ai6 6 [0, 1, 3] [HA.blk b_3' (.cells [st text, zI at0_1'].toArray 127 (0, 0)), HA.blk b_2' (.cells [zI 0, zI 0, st []].toArray 26 (0, 0)), HA.blk b (.cells (wl r).toArray 81 (0, 0))] rfl rfl g8 (by kernel_rfl) (fun T hT => ?_)
   refine TW.val (OV.loadR rfl (At.own 2 rfl) y5) rfl rfl rfl ?_
   refine TW.val (OV.move rfl) rfl rfl rfl ?_
   refine TW.val (OV.nilCheck rfl) rfl rfl rfl ?_
   refine TW.val (OV.fieldAddr0 rfl d7) rfl rfl rfl ?_
   refine TW.val (OV.load rfl (At.own 0 rfl) rfl b5) rfl rfl rfl ?_
   refine TW.val (OV.build rfl (cs := [zI 0, zI 0, st []]) rfl) rfl rfl rfl ?_
   refine TW.nil (hT _ ?_)
   refine WLK.op [0, 1, 3] rfl rfl (OpK.storeW (vs := wl r) 3 rfl rfl rfl rfl rfl aae rfl rfl) rfl ?_
   refine WLK.op [0, 1, 3] rfl rfl (OpK.store (vs := [zI at0_1']) (cs' := [zI at0_1']) 2 rfl rfl rfl rfl g9 (Nat.le_of_ble_eq_true rfl) rfl rfl) rfl ?_
   refine WLK.op [0, 1, 3] rfl rfl (OpK.storeW (vs := [zI 0, zI 0, st []]) 1 rfl rfl rfl rfl rfl aak rfl rfl) rfl ?_
   refine WLK.nil ?_
   refine kg (hK_8' [(4, zP b), (5, zP b_1'), (6, zP b_2')] _ ?_)
   refine c9 ?_
   exact hE.ret (ahc (A := [HA.blk b (.cells (wl r).toArray 81 (0, 0)), HA.blk b_1' (.cells [zI at0_1'].toArray 3 (0, 0)), HA.blk b_2' (.cells [zI 0, zI 0, st []].toArray 26 (0, 0))]) (A' := [HA.blk b (.cells (wl r).toArray 81 (0, 0)), HA.blk b_1' (.cells [zI at0_1'].toArray 3 (0, 0)), HA.blk b_2' (.cells [zI 0, zI 0, st []].toArray 26 (0, 0))]) (Rest := [HA.blk b_3' (.cells [st text, zI at0_1'].toArray 127 (0, 0))]) [3, 2, 1, 0] rfl rfl aov (axg b b_1' b_2' r at0_1' 0 0 []) (by intro hx; cases hx) rfl trivial [] rfl rfl (.inl ⟨_, _, _, _, _, h, rfl⟩) (f9.of3 rfl (RV.row rfl (At.own 0 rfl) y5) (RV.cell rfl (At.own 1 rfl) rfl b5) (RV.row rfl (At.own 2 rfl) aab)))
  ·rcases hS with ⟨r, at0_1', hc, ho⟩ | ⟨e, at0_2', hc, ho⟩ <;> cases ho
   replace h := h.2 e at0_2' hc
   exact hE.pan (ahc (A := [HA.blk b (.cells (wl cs0).toArray 81 (0, 0)), HA.blk b_1' (.cells [zI 0].toArray 3 (0, 0)), HA.blk b_2' (.cells [zI 0, zI 0, st []].toArray 26 (0, 0))]) (A' := [HA.blk b (.cells (wl cs0).toArray 81 (0, 0)), HA.blk b_1' (.cells [zI 0].toArray 3 (0, 0)), HA.blk b_2' (.cells [zI 10, zI e, st []].toArray 26 (0, 0))]) (Rest := [HA.blk b_3' (.cells [st text, zI at0_2'].toArray 127 (0, 0))]) [3, 2, 1, 0] rfl rfl aov (axv b b_1' b_2' cs0 0 0 0 [] 10 e []) (by intro hx; cases hx) rfl trivial [] rfl rfl (.inl ⟨_, _, _, _, _, h, rfl⟩) (f9.of3 rfl (RV.row rfl (At.own 0 rfl) y5) (RV.cell rfl (At.own 1 rfl) rfl b5) (RV.row rfl (At.own 2 rfl) aab)))
def l8 (t : List UInt8) (a : Int) : CS × Int × Int × Int :=
 if a < 0 ∨ (t.length : Int) ≤ a then (cs0, 0, 2, 0)
 else match adi t a with
  | .ok (s, q) => (s, q, 0, 0)
  | .error e => (cs0, 0, 10, e)
def a11 (r : CS × Int × Int × Int) : Value := .tuple #[.agg (wl r.1).toArray, .int .i64 r.2.1, .agg [zI r.2.2.1, zI r.2.2.2, st []].toArray]
theorem aw3 (te : TypeId) (fre : Nat × Nat) (t : List UInt8) (a : Int) (h : t.length ≤ 9223372036854775807) : d5 Tryd.prog 63 [st t, .int .i64 a] (z8 te fre) [] (Ret (a11 (l8 t a)) []) := by
 refine (a0y te fre t a (fun s q c p x => l8 t a = (s, q, c, p) ∧ x = []) ?_).weak ?_
 ·unfold ap0 l8
  by_cases h1 : a < 0 ∨ (t.length : Int) ≤ a
  ·rw [if_pos (by simpa using h1), if_pos h1]; exact ⟨rfl, rfl⟩
  ·rw [if_neg (by simpa using h1), if_neg h1]
   exact ⟨⟨by omega, by omega, h⟩, fun r q hr => by simp [hr], fun e _ he => by simp [he]⟩
 ·rintro o (⟨s, q, c, p, x, ⟨hm, rfl⟩, rfl⟩ | h)
  ·rw [hm]; rfl
  ·exact h.elim
end Go.Proofs.YtffhedoahdgniaaDoor
namespace Go.Proofs.YtffhedoahdgniaaDoor
open Go Go.RowKit
inductive Tr where
 | none
 | eps
 | cls (s : CS)
 | cat (a b : Tr)
 | alt (a b : Tr)
 | star (a : Tr)
 | and (a b : Tr)
 | minus (a b : Tr)
 deriving DecidableEq
def Tr.val : Tr → Value
 | .none => .nilIface
 | .eps => .iface 78 (.agg ([] : List Value).toArray)
 | .cls s => .iface 83 (.agg (wl s).toArray)
 | .cat a b => .iface 89 (.agg [a.val, b.val].toArray)
 | .alt a b => .iface 86 (.agg [a.val, b.val].toArray)
 | .star a => .iface 91 (.agg [a.val].toArray)
 | .and a b => .iface 87 (.agg [a.val, b.val].toArray)
 | .minus a b => .iface 88 (.agg [a.val, b.val].toArray)
def Tr.isNone : Tr → Bool
 | .none => true
 | _ => false
def Tr.sure : Tr → Tr
 | .none => .cls cs0
 | x => x
def Tr.size : Tr → Nat
 | .none => 1
 | .eps => 1
 | .cls _ => 1
 | .cat a b => 1 + a.size + b.size
 | .alt a b => 1 + a.size + b.size
 | .star a => 1 + a.size
 | .and a b => 1 + a.size + b.size
 | .minus a b => 1 + a.size + b.size
def Tr.null : Tr → Bool
 | .none => false
 | .eps => true
 | .cls _ => false
 | .cat a b => a.null && b.null
 | .alt a b => a.null || b.null
 | .star _ => true
 | .and a b => a.null && b.null
 | .minus a b => a.null && !b.null
def Tr.whole : Tr → Tr
 | .none => .cls cs0
 | .eps => .eps
 | .cls s => .cls s
 | .cat a b => .cat a.whole b.whole
 | .alt a b => .alt a.whole b.whole
 | .star a => .star a.whole
 | .and a b => .and a.whole b.whole
 | .minus a b => .minus a.whole b.whole
def Tr.high : Tr → Nat
 | .none | .eps | .cls _ => 1
 | .cat a b => 1 + max a.high b.high
 | .alt a b => 1 + max a.high b.high
 | .star a => 1 + a.high
 | .and a b => 1 + max a.high b.high
 | .minus a b => 1 + max a.high b.high
theorem Tr.size_pos : ∀ x : Tr, 0 < x.size
 | .none | .eps | .cls _ => by simp [Tr.size]
 | .cat _ _ | .alt _ _ | .star _ | .and _ _ | .minus _ _ => by simp only [Tr.size]; omega
theorem Tr.whole_high : ∀ x : Tr, x.whole.high = x.high
 | .none | .eps | .cls _ => by simp [Tr.whole, Tr.high]
 | .cat a b | .alt a b | .and a b | .minus a b => by simp only [Tr.whole, Tr.high, a.whole_high, b.whole_high]
 | .star a => by simp only [Tr.whole, Tr.high, a.whole_high]
theorem Tr.whole_some : ∀ x : Tr, x.whole ≠ .none
 | .none | .eps | .cls _ | .cat a b | .alt a b | .and a b | .minus a b | .star a => by simp [Tr.whole]
section ov
variable {C : Cx} {L : Sl} {H : List HA} {x : Operand} {t t' ty : TypeId} {d : Option Tmp} {p : String} {e : Array Edge} {g : Option (Nat × Bool)} {ms : Array (String × TypeId)} {P : Program}
theorem OV.eqlNil {v : Value} {tv : TypeId} {y : Operand} (hx : ev L x = some (.iface tv v)) (hy : ev L y = some .nilIface) (hu : P.underlying t = some (.interface ms)) : OV P C L H ⟨d, .binOp .eql t x y t', ty, p, e, g⟩ (.bool false) := fun a w hf _ => by
 have h : binOp .eql t (.iface tv v) .nilIface = (do pure (.bool (← Op.equal t (.iface tv v) .nilIface))) := rfl
 have h2 : (Op.equal t (.iface tv v) .nilIface).run P w = .ok false w := by
  unfold Op.equal Op.maxDepth Op.equalIn
  rw [Sem.run_bind, o6 hu]; rfl
 simp only [execOp, hf.ev hx, hf.ev hy, eqGuard_at_iface, h, Sem.run_bind, Sem.run_pure, Result.andThen_ok, h2]
theorem OV.eqlNil0 (hx : ev L x = some .nilIface) (hu : P.underlying t = some (.interface ms)) : OV P C L H ⟨d, .binOp .eql t x (.const .nilIface) t', ty, p, e, g⟩ (.bool true) := fun a w hf _ => by
 have h : binOp .eql t .nilIface .nilIface = (do pure (.bool (← Op.equal t .nilIface .nilIface))) := rfl
 have h2 : (Op.equal t .nilIface .nilIface).run P w = .ok true w := by
  unfold Op.equal Op.maxDepth Op.equalIn
  rw [Sem.run_bind, o6 hu]; rfl
 have hc : a.eval (.const .nilIface) = .nilIface := rfl
 simp only [execOp, hf.ev hx, hc, eqGuard_nil_constR, h, Sem.run_bind, Sem.run_pure, Result.andThen_ok, h2]
theorem Tr.val_some {z : Tr} (h : z.isNone = false) : ∃ T r, z.val = .iface T r := by
 cases z <;> first | (cases h; done) | exact ⟨_, _, rfl⟩
theorem OV.eqlTr {z : Tr} (hx : ev L x = some z.val) (hu : P.underlying t = some (.interface ms)) : OV P C L H ⟨d, .binOp .eql t x (.const .nilIface) t', ty, p, e, g⟩ (.bool z.isNone) := by
 cases hz : z.isNone with
 | true => cases z <;> first | (cases hz; done) | exact OV.eqlNil0 hx hu
 | false => obtain ⟨T, r, hr⟩ := Tr.val_some hz; exact OV.eqlNil (hx.trans (congrArg some hr)) rfl hu
end ov
def aoq (P : Program) (T : TypeId) : Bool := match P.info? T with | some i => i.comparable | none => false
theorem y3 {P : Program} {t T U : TypeId} {ms : Array (String × TypeId)} {r s : Value} (hu : P.underlying t = some (.interface ms)) (hc : aoq P T = true) (d : Nat) (w : World) :
  (Op.equalIn (d + 1) t (.iface T r) (.iface U s)).run P w = if T = U then (Op.equalIn d T r s).run P w else .ok false w := by
 unfold aoq at hc
 cases hi : P.info? T with
 | none => rw [hi] at hc; cases hc
 | some i =>
  rw [hi] at hc
  by_cases hne : T = U
  ·simp [Op.equalIn, o6 hu, hne, typeInfo, hne ▸ hi, hc]
  ·simp [Op.equalIn, o6 hu, hne]
def aq3 (P : Program) (T : TypeId) (fs : List (TypeId × Nat)) : Bool := (match P.underlying T with | some (.struct gs) => gs.toList.map (fun f => (f.type, f.offset)) == fs && gs.toList.all (fun f => f.name != "_") | _ => false) && !P.stoodInHeld T
theorem acd {P : Program} {T : TypeId} {fs : List (TypeId × Nat)} (h : aq3 P T fs = true) (d : Nat) (xs ys : Array Value) (w : World) (q : List Bool) (hl : q.length = fs.length)
  (hq : ∀ (i : Nat) (f : TypeId × Nat) (b : Bool), fs[i]? = some f → q[i]? = some b → ∃ u v, (part f.1 xs f.2).run P w = .ok u w ∧ (part f.1 ys f.2).run P w = .ok v w ∧ (Op.equalIn d f.1 u v).run P w = .ok b w) :
  (Op.equalIn (d + 1) T (.agg xs) (.agg ys)).run P w = .ok (q.all id) w := by
 unfold aq3 at h
 rw [Bool.and_eq_true] at h
 obtain ⟨h1, h2⟩ := h
 split at h1
 ·rename_i gs hu
  rw [Bool.and_eq_true] at h1
  obtain ⟨h3, h4⟩ := h1
  have h3 : gs.toList.map (fun f => (f.type, f.offset)) = fs := by simpa using h3
  have hfo : P.fieldsOf T = gs := by simp [Program.fieldsOf, hu]
  rw [run_equalIn_agg w d T xs ys (by rw [hfo]; exact hu) (by simpa using h2), hfo]
  subst h3
  generalize gs.toList = l at *
  induction l generalizing q with
  | nil => cases q with
   | nil => simp [Op.eqFields]
   | cons b q => simp at hl
  | cons f l ih =>
   cases q with
   | nil => simp at hl
   | cons b q =>
    obtain ⟨u, v, e1, e2, e3⟩ := hq 0 _ b rfl rfl
    have hn : ¬ f.name = "_" := by
     have := List.all_eq_true.1 h4 f (by simp)
     simpa using this
    have h4' := h4
    rw [List.all_cons, Bool.and_eq_true] at h4'
    have ih' := ih q h4'.2 (by simpa using hl) (fun i f b hf hb => hq (i + 1) f b (by simpa using hf) (by simpa using hb))
    simp only [Op.eqFields, hn, ne_eq, not_false_eq_true, if_true, Sem.run_bind, e1, e2, Result.andThen_ok, e3]
    cases b
    ·simp
    ·simpa using ih'
 ·cases h1
theorem acy {P : Program} {t : TypeId} (h : aaj P t = true) {xs : Array Value} {i : Nat} {v : Value} (hv : xs[i]? = some v) (w : World) : (part t xs i).run P w = .ok v w := by
 simp [part, abs h, hv]
theorem ad2 : aaj Tryd.prog 23 = true := by kernel_rfl
theorem ai4 {T : TypeId} (h : aq3 Tryd.prog T [(23, 0), (23, 1)] = true) {a b a' b' : Tr} {n : Nat}
  (ha : ∀ w, (Op.equalIn n 23 a.val a'.val).run Tryd.prog w = .ok (decide (a = a')) w) (hb : ∀ w, (Op.equalIn n 23 b.val b'.val).run Tryd.prog w = .ok (decide (b = b')) w) (w : World) :
  (Op.equalIn (n + 1) T (.agg [a.val, b.val].toArray) (.agg [a'.val, b'.val].toArray)).run Tryd.prog w = .ok (decide (a = a' ∧ b = b')) w := by
 rw [acd h n _ _ w [decide (a = a'), decide (b = b')] rfl]
 ·simp
 ·intro i f q hf hq
  match i with
  | 0 => simp at hf hq; subst hf; subst hq; exact ⟨_, _, acy ad2 rfl w, acy ad2 rfl w, ha w⟩
  | 1 => simp at hf hq; subst hf; subst hq; exact ⟨_, _, acy ad2 rfl w, acy ad2 rfl w, hb w⟩
  | i + 2 => simp at hf
theorem a1k : ∀ (x y : Tr) (n : Nat) (w : World), 2 * x.high + 3 ≤ n → (Op.equalIn n 23 x.val y.val).run Tryd.prog w = .ok (decide (x = y)) w := by
 intro x
 have hu := Tryd.underlying23
 have hne : ∀ {T U : TypeId} {r s : Value} {d : Nat} {w : World}, aoq Tryd.prog T = true → T ≠ U → (Op.equalIn (d + 1) 23 (.iface T r) (.iface U s)).run Tryd.prog w = .ok false w := fun hc h => by rw [y3 hu hc, if_neg h]
 have hni : ∀ {T : TypeId} {r : Value} {d : Nat} {w : World}, (Op.equalIn (d + 1) 23 (.iface T r) .nilIface).run Tryd.prog w = .ok false w := fun {T r d w} => by simp [Op.equalIn, o6 hu]
 have hin : ∀ {T : TypeId} {r : Value} {d : Nat} {w : World}, (Op.equalIn (d + 1) 23 .nilIface (.iface T r)).run Tryd.prog w = .ok false w := fun {T r d w} => by simp [Op.equalIn, o6 hu]
 have c1 : aoq Tryd.prog 78 = true := by kernel_rfl
 have c2 : aoq Tryd.prog 83 = true := by kernel_rfl
 have c3 : aoq Tryd.prog 89 = true := by kernel_rfl
 have c4 : aoq Tryd.prog 86 = true := by kernel_rfl
 have c5 : aoq Tryd.prog 91 = true := by kernel_rfl
 have c6 : aoq Tryd.prog 87 = true := by kernel_rfl
 have c7 : aoq Tryd.prog 88 = true := by kernel_rfl
 induction x with
 | none =>
  intro y n w hn
  obtain ⟨d, rfl⟩ : ∃ d, n = d + 1 := ⟨n - 1, by omega⟩
  cases y with
  | none => simp [Tr.val, Op.equalIn, o6 hu]
  | _ => exact hin.trans (by simp)
 | eps =>
  intro y n w hn
  obtain ⟨d, rfl⟩ : ∃ d, n = d + 2 := ⟨n - 2, by simp [Tr.high] at hn; omega⟩
  cases y with
  | none => exact hni
  | eps =>
   show (Op.equalIn (d + 1 + 1) _ (.iface _ _) (.iface _ _)).run _ _ = _
   rw [y3 hu c1, if_pos rfl, acd (fs := []) (by kernel_rfl) d _ _ w [] rfl (fun i f b hf => by cases hf)]
   simp
  | _ => exact (hne c1 (by decide)).trans (by simp)
 | cls s =>
  intro y n w hn
  obtain ⟨d, rfl⟩ : ∃ d, n = d + 4 := ⟨n - 4, by simp [Tr.high] at hn; omega⟩
  cases y with
  | none => exact hni
  | cls s' =>
   show (Op.equalIn (d + 3 + 1) _ (.iface _ _) (.iface _ _)).run _ _ = _
   rw [y3 hu c2, if_pos rfl, acd (fs := [(81, 0)]) (by kernel_rfl) (d + 2) _ _ w [decide (s = s')] rfl]
   ·simp
   ·intro i f b hf hb
    match i with
    | 0 =>
     simp at hf hb
     subst hf; subst hb
     have hp : ∀ s : CS, (part 81 (wl s).toArray 0).run Tryd.prog w = .ok (.agg (n7 s)) w := fun s => by
      have h1 : (isAgg 81).run Tryd.prog w = .ok true w := by
       unfold isAgg
       rw [Sem.run_bind, o6 Tryd.underlying81]; rfl
      have h2 : (sizeOf 81).run Tryd.prog w = .ok 4 w := ab3 (by kernel_rfl) w
      unfold part
      simp only [Sem.run_bind, h1, Result.andThen_ok, if_true, h2, Sem.run_pure]
      rfl
     refine ⟨_, _, hp s, hp s', ?_⟩
     rw [att Tryd.underlying81 s s' d w]
     congr 1
    | i + 1 => simp at hf
  | _ => exact (hne c2 (by decide)).trans (by simp)
 | cat a b iha ihb =>
  intro y n w hn
  obtain ⟨d, rfl⟩ : ∃ d, n = d + 2 := ⟨n - 2, by simp [Tr.high] at hn; omega⟩
  simp only [Tr.high] at hn
  cases y with
  | none => exact hni
  | cat a' b' =>
   show (Op.equalIn (d + 1 + 1) _ (.iface _ _) (.iface _ _)).run _ _ = _
   rw [y3 hu c3, if_pos rfl, ai4 (by kernel_rfl) (fun w => iha a' d w (by omega)) (fun w => ihb b' d w (by omega))]
   simp
  | _ => exact (hne c3 (by decide)).trans (by simp)
 | alt a b iha ihb =>
  intro y n w hn
  obtain ⟨d, rfl⟩ : ∃ d, n = d + 2 := ⟨n - 2, by simp [Tr.high] at hn; omega⟩
  simp only [Tr.high] at hn
  cases y with
  | none => exact hni
  | alt a' b' =>
   show (Op.equalIn (d + 1 + 1) _ (.iface _ _) (.iface _ _)).run _ _ = _
   rw [y3 hu c4, if_pos rfl, ai4 (by kernel_rfl) (fun w => iha a' d w (by omega)) (fun w => ihb b' d w (by omega))]
   simp
  | _ => exact (hne c4 (by decide)).trans (by simp)
 | and a b iha ihb =>
  intro y n w hn
  obtain ⟨d, rfl⟩ : ∃ d, n = d + 2 := ⟨n - 2, by simp [Tr.high] at hn; omega⟩
  simp only [Tr.high] at hn
  cases y with
  | none => exact hni
  | and a' b' =>
   show (Op.equalIn (d + 1 + 1) _ (.iface _ _) (.iface _ _)).run _ _ = _
   rw [y3 hu c6, if_pos rfl, ai4 (by kernel_rfl) (fun w => iha a' d w (by omega)) (fun w => ihb b' d w (by omega))]
   simp
  | _ => exact (hne c6 (by decide)).trans (by simp)
 | minus a b iha ihb =>
  intro y n w hn
  obtain ⟨d, rfl⟩ : ∃ d, n = d + 2 := ⟨n - 2, by simp [Tr.high] at hn; omega⟩
  simp only [Tr.high] at hn
  cases y with
  | none => exact hni
  | minus a' b' =>
   show (Op.equalIn (d + 1 + 1) _ (.iface _ _) (.iface _ _)).run _ _ = _
   rw [y3 hu c7, if_pos rfl, ai4 (by kernel_rfl) (fun w => iha a' d w (by omega)) (fun w => ihb b' d w (by omega))]
   simp
  | _ => exact (hne c7 (by decide)).trans (by simp)
 | star a iha =>
  intro y n w hn
  obtain ⟨d, rfl⟩ : ∃ d, n = d + 2 := ⟨n - 2, by simp [Tr.high] at hn; omega⟩
  simp only [Tr.high] at hn
  cases y with
  | none => exact hni
  | star a' =>
   show (Op.equalIn (d + 1 + 1) _ (.iface _ _) (.iface _ _)).run _ _ = _
   rw [y3 hu c5, if_pos rfl, acd (fs := [(23, 0)]) (by kernel_rfl) d _ _ w [decide (a = a')] rfl]
   ·simp
   ·intro i f b hf hb
    match i with
    | 0 => simp at hf hb; subst hf; subst hb; exact ⟨_, _, acy ad2 rfl w, acy ad2 rfl w, iha a' d w (by omega)⟩
    | i + 1 => simp at hf
  | _ => exact (hne c5 (by decide)).trans (by simp)
theorem OV.eqlTrs {C : Cx} {L : Sl} {H : List HA} {x y : Operand} {t' ty : TypeId} {d : Option Tmp} {p : String} {e : Array Edge} {g : Option (Nat × Bool)} {a b : Tr} (hx : ev L x = some a.val) (hy : ev L y = some b.val) (h : a ≠ .none ∧ a.high ≤ 4000) :
  OV Tryd.prog C L H ⟨d, .binOp .eql 23 x y t', ty, p, e, g⟩ (.bool (decide (a = b))) := fun f w hf _ => by
 obtain ⟨T, r, hr⟩ := Tr.val_some (z := a) (by cases a <;> simp_all [Tr.isNone])
 have h2 : (Op.equal 23 a.val b.val).run Tryd.prog w = .ok (decide (a = b)) w := a1k a b 10000 w (by omega)
 have hg : (eqGuard .eql 23 x y a.val b.val).run Tryd.prog w = .ok () w := by
  rw [hr]; rfl
 have h3 : binOp .eql 23 a.val b.val = (do pure (.bool (← Op.equal 23 a.val b.val))) := by
  rw [hr]; rfl
 simp only [execOp, hf.ev hx, hf.ev hy, Sem.run_bind, hg, Result.andThen_ok, h3, Sem.run_pure, h2]
def nx (t : List UInt8) (j : Int) : Int := ((t.getD j.toNat 0).toNat : Int)
def ado (x y : Tr) : Nat → Tr
 | 0 => x
 | k + 1 => ado (.cat x y) y k
theorem ad5 (y : Tr) : ∀ (k : Nat) (x : Tr), ado x y (k + 1) = .cat (ado x y k) y
 | 0, _ => rfl
 | k + 1, x => by rw [ado, ad5 y k, ado]
def aal (x : Tr) (m n : Int) : Tr :=
 if m = 0 ∧ n < 0 then .star x else if m = 0 ∧ n = 0 then .eps else
  let out := ado (if m = 0 then .alt x .eps else x) x (m - 1).toNat
  if n < 0 then .cat out (.star x) else ado out (.alt x .eps) (n - max m 1).toNat
def arj (c : Int) : Bool := decide (48 ≤ c) && decide (c ≤ 57)
def ael (t : List UInt8) : Nat → Int → Int → Int × Int
 | 0, n, j => (n, j)
 | k + 1, n, j => if j < t.length ∧ arj (nx t j) = true then ael t k (10 * n + (nx t j - 48)) (j + 1) else (n, j)
def acr (t : List UInt8) (j : Int) : Except (Int × Int) (Int × Int) := if (ael t 3 0 j).2 = j then .error (20, j) else .ok (ael t 3 0 j)
def ads (t : List UInt8) (m j : Int) : Except (Int × Int) (Int × Int) :=
 if j < t.length ∧ nx t j = 44 then (if (j + 1 < t.length ∧ nx t (j + 1) = 125) then .ok (-1, j + 1) else acr t (j + 1)) else .ok (m, j)
def z7 (t : List UInt8) (x : Tr) (from_ : Int) : Except (Int × Int) (Tr × Int) :=
 match acr t (from_ + 1) with
 | .error e => .error e
 | .ok (m, j) =>
  match ads t m j with
  | .error e => .error e
  | .ok (n, k) =>
   if k < t.length ∧ nx t k = 125 then (if m > 255 ∨ n > 255 ∨ (0 ≤ n ∧ n < m) then .error (22, from_) else .ok (aal x m n, k + 1)) else .error (20, k)
def ak2 (c : Int) (x : Tr) : Tr := if c = 42 then .star x else if c = 43 then .cat x (.star x) else .alt x .eps
inductive RP (t : List UInt8) : Tr → Int → Except (Int × Int) (Tr × Int) → Prop
 | zero {x} {j : Int} : ¬ (j < t.length ∧ (nx t j = 42 ∨ nx t j = 43 ∨ nx t j = 63 ∨ nx t j = 123)) → RP t x j (.ok (x, j))
 | one {x} {j : Int} {r} : j < t.length → nx t j = 42 ∨ nx t j = 43 ∨ nx t j = 63 → RP t (ak2 (nx t j) x) (j + 1) r → RP t x j r
 | brace {x} {j : Int} {y} {k : Int} {r} : j < t.length → nx t j = 123 → z7 t x j = .ok (y, k) → RP t y k r → RP t x j r
 | braceE {x} {j : Int} {e} : j < t.length → nx t j = 123 → z7 t x j = .error e → RP t x j (.error e)
theorem RP.det {t : List UInt8} {x : Tr} {j : Int} {r : Except (Int × Int) (Tr × Int)} (h : RP t x j r) : ∀ {r' : Except (Int × Int) (Tr × Int)}, RP t x j r' → r = r' := by
 induction h with
 | zero n =>
  intro r' h'
  cases h' with
  | zero _ => rfl
  | one a b => exfalso; omega
  | brace a b => exfalso; omega
  | braceE a b => exfalso; omega
 | one h1 h2 _ ih =>
  intro r' h'
  cases h' with
  | zero n => exfalso; omega
  | one _ _ c => exact ih c
  | brace a b => exfalso; omega
  | braceE a b => exfalso; omega
 | brace h1 h2 h3 _ ih =>
  intro r' h'
  cases h' with
  | zero n => exfalso; omega
  | one a b => exfalso; omega
  | brace _ _ a b => rw [h3] at a; cases a; exact ih b
  | braceE _ _ a => rw [h3] at a; cases a
 | braceE h1 h2 h3 =>
  intro r' h'
  cases h' with
  | zero n => exfalso; omega
  | one a b => exfalso; omega
  | brace _ _ a b => rw [h3] at a; cases a
  | braceE _ _ a => rw [h3] at a; cases a; rfl
inductive Md where
 | alt
 | altL (x : Tr)
 | meet
 | meetL (x : Tr)
 | row (acc : Option Tr)
def amw (acc : Option Tr) (y : Tr) : Option Tr := match acc with
 | none => some y
 | some x => some (.cat x y)
def ary (c : Int) (x y : Tr) : Tr := if c = 38 then .and x y else .minus x y
inductive PR (t : List UInt8) : Md → Nat → Int → Except (Int × Int) (Tr × Int) → Prop
 | alt {d} {i : Int} {x} {j : Int} {r} : PR t .meet d i (.ok (x, j)) → PR t (.altL x) d j r → PR t .alt d i r
 | altE {d} {i : Int} {e} : PR t .meet d i (.error e) → PR t .alt d i (.error e)
 | altL {d x} {j : Int} {y} {k : Int} {r} : j < t.length → nx t j = 124 → PR t .meet d (j + 1) (.ok (y, k)) → PR t (.altL (.alt x y)) d k r → PR t (.altL x) d j r
 | altLE {d x} {j : Int} {e} : j < t.length → nx t j = 124 → PR t .meet d (j + 1) (.error e) → PR t (.altL x) d j (.error e)
 | altZ {d x} {j : Int} : ¬ (j < t.length ∧ nx t j = 124) → PR t (.altL x) d j (.ok (x, j))
 | meet {d} {i : Int} {x} {j : Int} {r} : PR t (.row none) d i (.ok (x, j)) → PR t (.meetL x) d j r → PR t .meet d i r
 | meetE {d} {i : Int} {e} : PR t (.row none) d i (.error e) → PR t .meet d i (.error e)
 | meetL {d x} {j : Int} {y} {k : Int} {r} : j < t.length → nx t j = 38 ∨ nx t j = 45 → PR t (.row none) d (j + 1) (.ok (y, k)) → PR t (.meetL (ary (nx t j) x y)) d k r → PR t (.meetL x) d j r
 | meetLE {d x} {j : Int} {e} : j < t.length → nx t j = 38 ∨ nx t j = 45 → PR t (.row none) d (j + 1) (.error e) → PR t (.meetL x) d j (.error e)
 | meetZ {d x} {j : Int} : ¬ (j < t.length ∧ (nx t j = 38 ∨ nx t j = 45)) → PR t (.meetL x) d j (.ok (x, j))
 | rowZ {d acc} {j : Int} : ¬ (j < t.length ∧ nx t j ≠ 124 ∧ nx t j ≠ 38 ∧ nx t j ≠ 45 ∧ nx t j ≠ 41) → PR t (.row acc) d j (.ok (acc.getD .eps, j))
 | rowB {d acc} {j : Int} : j < t.length → nx t j = 42 ∨ nx t j = 43 ∨ nx t j = 63 ∨ nx t j = 123 → PR t (.row acc) d j (.error (20, j))
 | rowC {d acc} {j : Int} {s} {k : Int} {y} {l : Int} {r} : j < t.length → nx t j ∉ [124, 38, 45, 41, 42, 43, 63, 123, 40] → l8 t j = (s, k, 0, 0) → RP t (.cls s) k (.ok (y, l)) → PR t (.row (amw acc y)) d l r → PR t (.row acc) d j r
 | rowCR {d acc} {j : Int} {s} {k : Int} {e} : j < t.length → nx t j ∉ [124, 38, 45, 41, 42, 43, 63, 123, 40] → l8 t j = (s, k, 0, 0) → RP t (.cls s) k (.error e) → PR t (.row acc) d j (.error e)
 | rowCE {d acc} {j : Int} {s} {k e p : Int} : j < t.length → nx t j ∉ [124, 38, 45, 41, 42, 43, 63, 123, 40] → l8 t j = (s, k, e, p) → ¬ (e = 0 ∧ p = 0) → PR t (.row acc) d j (.error (e, p))
 | rowN {d acc} {j : Int} : j < t.length → nx t j = 40 → 1000 ≤ d → PR t (.row acc) d j (.error (23, j))
 | rowP {d acc} {j : Int} {x} {k : Int} {y} {l : Int} {r} : j < t.length → nx t j = 40 → d < 1000 → PR t .alt (d + 1) (j + 1) (.ok (x, k)) → k < t.length → RP t x (k + 1) (.ok (y, l)) → PR t (.row (amw acc y)) d l r → PR t (.row acc) d j r
 | rowPR {d acc} {j : Int} {x} {k : Int} {e} : j < t.length → nx t j = 40 → d < 1000 → PR t .alt (d + 1) (j + 1) (.ok (x, k)) → k < t.length → RP t x (k + 1) (.error e) → PR t (.row acc) d j (.error e)
 | rowPE {d acc} {j : Int} {e} : j < t.length → nx t j = 40 → d < 1000 → PR t .alt (d + 1) (j + 1) (.error e) → PR t (.row acc) d j (.error e)
 | rowO {d acc} {j : Int} {x} {k : Int} : j < t.length → nx t j = 40 → d < 1000 → PR t .alt (d + 1) (j + 1) (.ok (x, k)) → ¬ (k < t.length) → PR t (.row acc) d j (.error (21, j))
theorem PR.det {t : List UInt8} {m : Md} {d : Nat} {i : Int} {r : Except (Int × Int) (Tr × Int)} (h : PR t m d i r) : ∀ {r' : Except (Int × Int) (Tr × Int)}, PR t m d i r' → r = r' := by
 induction h with
 | alt _ _ ih1 ih2 =>
  intro r' h'
  cases h' with
  | alt a b => cases ih1 a; exact ih2 b
  | altE a => cases ih1 a
 | altE _ ih1 =>
  intro r' h'
  cases h' with
  | alt a b => cases ih1 a
  | altE a => cases ih1 a; rfl
 | altL h1 h2 _ _ ih1 ih2 =>
  intro r' h'
  cases h' with
  | altL _ _ a b => cases ih1 a; exact ih2 b
  | altLE _ _ a => cases ih1 a
  | altZ n => exact absurd ⟨h1, h2⟩ n
 | altLE h1 h2 _ ih1 =>
  intro r' h'
  cases h' with
  | altL _ _ a b => cases ih1 a
  | altLE _ _ a => cases ih1 a; rfl
  | altZ n => exact absurd ⟨h1, h2⟩ n
 | altZ n =>
  intro r' h'
  cases h' with
  | altL h1 h2 a b => exact absurd ⟨h1, h2⟩ n
  | altLE h1 h2 a => exact absurd ⟨h1, h2⟩ n
  | altZ _ => rfl
 | «meet» _ _ ih1 ih2 =>
  intro r' h'
  cases h' with
  | «meet» a b => cases ih1 a; exact ih2 b
  | meetE a => cases ih1 a
 | meetE _ ih1 =>
  intro r' h'
  cases h' with
  | «meet» a b => cases ih1 a
  | meetE a => cases ih1 a; rfl
 | meetL h1 h2 _ _ ih1 ih2 =>
  intro r' h'
  cases h' with
  | meetL _ _ a b => cases ih1 a; exact ih2 b
  | meetLE _ _ a => cases ih1 a
  | meetZ n => exact absurd ⟨h1, h2⟩ n
 | meetLE h1 h2 _ ih1 =>
  intro r' h'
  cases h' with
  | meetL _ _ a b => cases ih1 a
  | meetLE _ _ a => cases ih1 a; rfl
  | meetZ n => exact absurd ⟨h1, h2⟩ n
 | meetZ n =>
  intro r' h'
  cases h' with
  | meetL h1 h2 a b => exact absurd ⟨h1, h2⟩ n
  | meetLE h1 h2 a => exact absurd ⟨h1, h2⟩ n
  | meetZ _ => rfl
 | rowZ n =>
  intro r' h'
  cases h' <;> first | rfl | (exfalso; simp_all; done) | (exfalso; simp_all; omega)
 | rowB h1 h2 =>
  intro r' h'
  cases h' <;> first | rfl | (exfalso; simp_all; done) | (exfalso; simp_all; omega)
 | rowC h1 h2 h3 h4 _ ih =>
  intro r' h'
  cases h' with
  | rowC _ _ a b c => rw [h3] at a; cases a; cases h4.det b; exact ih c
  | rowCR _ _ a b => rw [h3] at a; cases a; cases h4.det b
  | rowCE _ _ a n => rw [h3] at a; cases a; exact absurd ⟨rfl, rfl⟩ n
  | _ => exfalso; first | (simp_all; done) | (simp_all; omega)
 | rowCR h1 h2 h3 h4 =>
  intro r' h'
  cases h' with
  | rowC _ _ a b c => rw [h3] at a; cases a; cases h4.det b
  | rowCR _ _ a b => rw [h3] at a; cases a; cases h4.det b; rfl
  | rowCE _ _ a n => rw [h3] at a; cases a; exact absurd ⟨rfl, rfl⟩ n
  | _ => exfalso; first | (simp_all; done) | (simp_all; omega)
 | rowCE h1 h2 h3 h4 =>
  intro r' h'
  cases h' with
  | rowC _ _ a b c => rw [h3] at a; cases a; exact absurd ⟨rfl, rfl⟩ h4
  | rowCR _ _ a b => rw [h3] at a; cases a; exact absurd ⟨rfl, rfl⟩ h4
  | rowCE _ _ a n => rw [h3] at a; cases a; rfl
  | _ => exfalso; first | (simp_all; done) | (simp_all; omega)
 | rowN h1 h2 h3 =>
  intro r' h'
  cases h' <;> first | rfl | omega | (exfalso; simp_all; done) | (exfalso; simp_all; omega)
 | rowP h1 h2 h3 _ h5 h6 _ ih1 ih2 =>
  intro r' h'
  cases h' with
  | rowP _ _ _ a _ b c => cases ih1 a; cases h6.det b; exact ih2 c
  | rowPR _ _ _ a _ b => cases ih1 a; cases h6.det b
  | rowPE _ _ _ a => cases ih1 a
  | rowO _ _ _ a n => cases ih1 a; exact absurd h5 n
  | _ => exfalso; first | omega | (simp_all; done) | (simp_all; omega)
 | rowPR h1 h2 h3 _ h5 h6 ih1 =>
  intro r' h'
  cases h' with
  | rowP _ _ _ a _ b c => cases ih1 a; cases h6.det b
  | rowPR _ _ _ a _ b => cases ih1 a; cases h6.det b; rfl
  | rowPE _ _ _ a => cases ih1 a
  | rowO _ _ _ a n => cases ih1 a; exact absurd h5 n
  | _ => exfalso; first | omega | (simp_all; done) | (simp_all; omega)
 | rowPE h1 h2 h3 _ ih1 =>
  intro r' h'
  cases h' with
  | rowP _ _ _ a _ b c => cases ih1 a
  | rowPR _ _ _ a _ b => cases ih1 a
  | rowPE _ _ _ a => cases ih1 a; rfl
  | rowO _ _ _ a n => cases ih1 a
  | _ => exfalso; first | omega | (simp_all; done) | (simp_all; omega)
 | rowO h1 h2 h3 _ h5 ih1 =>
  intro r' h'
  cases h' with
  | rowP _ _ _ a k b c => cases ih1 a; exact absurd k h5
  | rowPR _ _ _ a k b => cases ih1 a; exact absurd k h5
  | rowPE _ _ _ a => cases ih1 a
  | rowO _ _ _ a n => cases ih1 a; rfl
  | _ => exfalso; first | omega | (simp_all; done) | (simp_all; omega)
theorem aln {t : List UInt8} : ∀ (n : Nat) {s s' : CS} {a q : Int}, adt t n s a = .ok (s', q) → a < q ∧ q ≤ t.length
 | 0, _, _, _, _, h => by cases h
 | n + 1, s, s', a, q, h => by
  unfold adt at h
  split at h
  ·cases h; omega
  ·split at h
   ·cases h
   ·rename_i lo p hp
    have h1 := adw hp
    split at h
    ·split at h
     ·cases h
     ·rename_i hi q' hq
      have h2 := adw hq
      split at h
      ·cases h
      ·have := aln n h; omega
    ·have := aln n h; omega
theorem ag1 {t : List UInt8} {j k : Int} {s : CS} (h : l8 t j = (s, k, 0, 0)) (_h0 : 0 ≤ j) : j < k ∧ k ≤ t.length := by
 unfold l8 at h
 split at h
 ·simp at h
 ·split at h
  ·rename_i s' q hi
   simp only [Prod.mk.injEq, and_true] at h
   obtain ⟨rfl, rfl⟩ := h
   unfold adi at hi
   split at hi
   ·cases hi; omega
   ·split at hi
    ·unfold ajh at hi
     split at hi
     ·split at hi
      ·rename_i hm; have := aln _ hm; cases hi; omega
      ·cases hi
     ·have := aln _ hi; omega
    ·split at hi
     ·rename_i ho; have := adw ho; cases hi; omega
     ·cases hi
  ·simp at h
theorem avc {t : List UInt8} : ∀ (f : Nat) {n j m k : Int}, ael t f n j = (m, k) → 0 ≤ n → 0 ≤ j → j ≤ t.length → 0 ≤ m ∧ j ≤ k ∧ k ≤ t.length
 | 0, n, j, m, k, h, hn, h0, hl => by simp only [ael, Prod.mk.injEq] at h; omega
 | f + 1, n, j, m, k, h, hn, h0, hl => by
  unfold ael at h
  split at h
  ·rename_i hc
   have hd := hc.2
   simp only [arj, Bool.and_eq_true, decide_eq_true_eq] at hd
   have := avc f h (by omega) (by omega) (by omega)
   omega
  ·simp only [Prod.mk.injEq] at h; omega
theorem alv {t : List UInt8} {j m k : Int} (h : acr t j = .ok (m, k)) (h0 : 0 ≤ j) (hl : j ≤ t.length) : 0 ≤ m ∧ j < k ∧ k ≤ t.length := by
 unfold acr at h
 split at h
 ·cases h
 ·rename_i hne
  have h2 : ael t 3 0 j = (m, k) := by injection h
  have := avc 3 h2 (by omega) h0 hl
  have h3 : ¬ k = j := fun e => hne (by rw [h2]; exact e)
  omega
theorem aiv {t : List UInt8} {x y : Tr} {j k : Int} (h : z7 t x j = .ok (y, k)) (h0 : 0 ≤ j) (hl : j < t.length) : j < k ∧ k ≤ t.length := by
 unfold z7 at h
 split at h
 ·cases h
 ·rename_i m p hm
  have h1 := alv hm (by omega) (by omega)
  split at h
  ·cases h
  ·rename_i n q hq
   have h2 : p ≤ q ∧ q ≤ t.length := by
    unfold ads at hq
    split at hq
    ·split at hq
     ·simp only [Except.ok.injEq, Prod.mk.injEq] at hq; omega
     ·have := alv hq (by omega) (by omega); omega
    ·simp only [Except.ok.injEq, Prod.mk.injEq] at hq; omega
   split at h
   ·split at h
    ·cases h
    ·simp only [Except.ok.injEq, Prod.mk.injEq] at h; omega
   ·cases h
theorem RP.ends {t : List UInt8} {x : Tr} {j : Int} {r : Except (Int × Int) (Tr × Int)} (h : RP t x j r) : 0 ≤ j → j ≤ t.length → ∀ y k, r = .ok (y, k) → j ≤ k ∧ k ≤ t.length := by
 induction h with
 | zero n => intro h0 hl y k e; cases e; omega
 | one h1 h2 _ ih => intro h0 hl y k e; have := ih (by omega) (by omega) y k e; omega
 | brace h1 h2 h3 _ ih => intro h0 hl y k e; have h4 := aiv h3 h0 h1; have := ih (by omega) (by omega) y k e; omega
 | braceE => intro h0 hl y k e; cases e
theorem PR.ends {t : List UInt8} {m : Md} {d : Nat} {i : Int} {r : Except (Int × Int) (Tr × Int)} (h : PR t m d i r) : 0 ≤ i → i ≤ t.length → ∀ y k, r = .ok (y, k) → i ≤ k ∧ k ≤ t.length := by
 induction h with
 | alt _ _ ih1 ih2 => intro h0 hl y k e; have h1 := ih1 h0 hl _ _ rfl; have := ih2 (by omega) (by omega) y k e; omega
 | altL _ _ _ _ ih1 ih2 => intro h0 hl y k e; have h1 := ih1 (by omega) (by omega) _ _ rfl; have := ih2 (by omega) (by omega) y k e; omega
 | «meet» _ _ ih1 ih2 => intro h0 hl y k e; have h1 := ih1 h0 hl _ _ rfl; have := ih2 (by omega) (by omega) y k e; omega
 | meetL _ _ _ _ ih1 ih2 => intro h0 hl y k e; have h1 := ih1 (by omega) (by omega) _ _ rfl; have := ih2 (by omega) (by omega) y k e; omega
 | altZ _ => intro h0 hl y k e; cases e; omega
 | meetZ _ => intro h0 hl y k e; cases e; omega
 | rowZ _ => intro h0 hl y k e; cases e; omega
 | rowC h1 h2 h3 h4 _ ih => intro h0 hl y k e; have h5 := ag1 h3 h0; have h6 := h4.ends (by omega) (by omega) _ _ rfl; have := ih (by omega) (by omega) y k e; omega
 | rowP h1 h2 h3 _ h5 h6 _ ih1 ih2 => intro h0 hl y k e; have h7 := ih1 (by omega) (by omega) _ _ rfl; have h8 := h6.ends (by omega) (by omega) _ _ rfl; have := ih2 (by omega) (by omega) y k e; omega
 | _ => intro h0 hl y k e; cases e
abbrev aex := Except (Int × Int) (Tr × Int)
structure AF where
 place : Int
 alt : Option Tr
 «meet» : Option Tr
 sign : Int
 row : Option Tr
 fac : Option Tr
def AF.rowS (f : AF) : Option Tr := match f.fac with
 | none => f.row
 | some y => amw f.row y
def AF.settle (f : AF) : AF := { f with row := f.rowS, fac := none }
def AF.rowT (f : AF) : Tr := f.rowS.getD .eps
def af9 (f : AF) (x : Tr) : Tr := match f.meet with
 | none => x
 | some z => ary f.sign z x
def aux (f : AF) (x : Tr) : Tr := match f.alt with
 | none => x
 | some z => .alt z x
def AF.fold (f : AF) : AF := { f with «meet» := some (af9 f f.rowT), row := none, fac := none }
def AF.whole (f : AF) : Tr := aux f (af9 f f.rowT)
def AF.close (f : AF) : AF := { f with alt := some f.whole, «meet» := none, row := none, fac := none }
def OwA (t : List UInt8) (d : Nat) (f : AF) (rm r : aex) : Prop := match rm with
 | .error e => r = .error e
 | .ok (x, k) => PR t (.altL (aux f x)) d k r
def OwM (t : List UInt8) (d : Nat) (f : AF) (rr r : aex) : Prop := match rr with
 | .error e => r = .error e
 | .ok (x, k) => ∃ rm, PR t (.meetL (af9 f x)) d k rm ∧ OwA t d f rm r
def OwN (t : List UInt8) (d : Nat) (f : AF) (acc : Option Tr) (i : Int) (r : aex) : Prop := ∃ rr, PR t (.row acc) d i rr ∧ OwM t d f rr r
def OwR (t : List UInt8) (d : Nat) (f : AF) (i : Int) (r : aex) : Prop := match f.fac with
 | none => OwN t d f f.row i r
 | some y => ∃ ry, RP t y i ry ∧ match ry with
  | .error e => r = .error e
  | .ok (z, k) => OwN t d f (amw f.row z) k r
variable {t : List UInt8} {d : Nat} {f : AF} {i : Int} {r : aex}
theorem OwR.start (h : PR t .alt d i r) {p s : Int} : OwR t d ⟨p, none, none, s, none, none⟩ i r := by
 cases h with
 | alt a b => cases a with
  | «meet» a1 a2 => exact ⟨_, a1, _, a2, b⟩
 | altE a => cases a with
  | «meet» a1 a2 => exact ⟨_, a1, _, a2, rfl⟩
  | meetE a1 => exact ⟨_, a1, rfl⟩
def afh (t : List UInt8) (i : Int) : Prop := nx t i = 42 ∨ nx t i = 43 ∨ nx t i = 63 ∨ nx t i = 123
theorem OwR.bad (h : OwR t d f i r) (hl : i < t.length) (hc : afh t i) (hf : f.fac = none) : r = .error (20, i) := by
 unfold afh at hc
 unfold OwR at h
 rw [hf] at h
 obtain ⟨rr, h1, h2⟩ := h
 cases h1 with
 | rowB => exact h2
 | _ => exfalso; first | omega | (simp_all; done) | (simp_all; omega)
theorem OwR.post (h : OwR t d f i r) {y : Tr} (hl : i < t.length) (hc : nx t i = 42 ∨ nx t i = 43 ∨ nx t i = 63) (hf : f.fac = some y) : OwR t d { f with fac := some (ak2 (nx t i) y) } (i + 1) r := by
 unfold OwR at h ⊢
 rw [hf] at h
 obtain ⟨ry, h1, h2⟩ := h
 cases h1 with
 | one _ _ c => exact ⟨_, c, h2⟩
 | _ => exfalso; omega
theorem OwR.brace (h : OwR t d f i r) {y : Tr} (hl : i < t.length) (hc : nx t i = 123) (hf : f.fac = some y) : match z7 t y i with
  | .error e => r = .error e
  | .ok (z, k) => OwR t d { f with fac := some z } k r := by
 unfold OwR at h
 rw [hf] at h
 obtain ⟨ry, h1, h2⟩ := h
 cases h1 with
 | brace _ _ a c => rw [a]; exact ⟨_, c, h2⟩
 | braceE _ _ a => rw [a]; exact h2
 | _ => exfalso; omega
theorem OwR.settle (h : OwR t d f i r) (hc : ¬ (i < t.length ∧ afh t i)) : OwN t d f f.rowS i r := by
 unfold OwR at h
 unfold afh at hc
 unfold AF.rowS
 split at h
 ·exact h
 ·rename_i y hf
  obtain ⟨ry, h1, h2⟩ := h
  cases h1 with
  | zero => exact h2
  | _ => exfalso; omega
theorem OwN.same {g : AF} {acc : Option Tr} (h : OwN t d f acc i r) (h1 : g.alt = f.alt) (h2 : g.meet = f.meet) (h3 : g.sign = f.sign) : OwN t d g acc i r := by
 have e1 : ∀ x, aux g x = aux f x := fun x => by unfold aux; rw [h1]
 have e2 : ∀ x, af9 g x = af9 f x := fun x => by unfold af9; rw [h2, h3]
 obtain ⟨rr, a, b⟩ := h
 refine ⟨rr, a, ?_⟩
 unfold OwM OwA at *
 cases rr with
 | error e => exact b
 | ok p =>
  obtain ⟨rm, c, e⟩ := b
  refine ⟨rm, by rw [e2]; exact c, ?_⟩
  cases rm with
  | error e' => exact e
  | ok q => simp only at e ⊢; rw [e1]; exact e
theorem OwN.stop {acc : Option Tr} (h : OwN t d f acc i r) (hc : ¬ (i < t.length ∧ nx t i ≠ 124 ∧ nx t i ≠ 38 ∧ nx t i ≠ 45 ∧ nx t i ≠ 41)) : OwM t d f (.ok (acc.getD .eps, i)) r := by
 obtain ⟨rr, a, b⟩ := h
 cases a with
 | rowZ => exact b
 | _ => exfalso; first | omega | (simp_all; done) | (simp_all; omega)
theorem OwR.sign (h : OwR t d f i r) (hl : i < t.length) (hc : nx t i = 38 ∨ nx t i = 45) : OwR t d { f.fold with sign := nx t i } (i + 1) r := by
 have h1 := (h.settle (by unfold afh; omega)).stop (by omega)
 obtain ⟨rm, a, b⟩ := h1
 show OwN t d { f.fold with sign := nx t i } none (i + 1) r
 cases a with
 | meetL _ _ a1 a2 => exact ⟨_, a1, rm, a2, b⟩
 | meetLE _ _ a1 => exact ⟨_, a1, b⟩
 | meetZ n => exfalso; omega
theorem OwR.shut (h : OwR t d f i r) (hc : ¬ (i < t.length ∧ nx t i ≠ 124 ∧ nx t i ≠ 41)) : PR t (.altL f.whole) d i r := by
 have h1 := (h.settle (by unfold afh; omega)).stop (by omega)
 obtain ⟨rm, a, b⟩ := h1
 cases a with
 | meetL _ hn => exfalso; omega
 | meetLE _ hn => exfalso; omega
 | meetZ n => exact b
theorem OwR.bar (h : OwR t d f i r) (hl : i < t.length) (hc : nx t i = 124) : OwR t d f.close (i + 1) r := by
 have h1 := h.shut (by omega)
 show OwN t d f.close none (i + 1) r
 cases h1 with
 | altL _ _ a b => cases a with
  | «meet» a1 a2 => exact ⟨_, a1, _, a2, b⟩
 | altLE _ _ a => cases a with
  | «meet» a1 a2 => exact ⟨_, a1, _, a2, rfl⟩
  | meetE a1 => exact ⟨_, a1, rfl⟩
 | altZ n => exfalso; omega
theorem OwR.end_ (h : OwR t d f i r) (hc : ¬ (i < t.length ∧ nx t i ≠ 41)) : r = .ok (f.whole, i) := by
 have h1 := h.shut (by omega)
 cases h1 with
 | altL _ hn => exfalso; omega
 | altLE _ hn => exfalso; omega
 | altZ n => rfl
def a1g (t : List UInt8) (i : Int) : Prop := nx t i ≠ 124 ∧ nx t i ≠ 38 ∧ nx t i ≠ 45 ∧ nx t i ≠ 41 ∧ ¬ afh t i
theorem OwR.open_ (h : OwR t d f i r) (hl : i < t.length) (hc : nx t i = 40) : if 1000 ≤ d then r = .error (23, i) else ∃ r1, PR t .alt (d + 1) (i + 1) r1 ∧ match r1 with
  | .error e => r = .error e
  | .ok (x, k) => if k < t.length then OwR t d { f.settle with fac := some x } (k + 1) r else r = .error (21, i) := by
 have h1 := (h.settle (by unfold afh; omega))
 obtain ⟨rr, a, b⟩ := h1
 cases a with
 | rowN _ _ hd => rw [if_pos hd]; exact b
 | rowP _ _ hd a1 hk a2 a3 =>
  rw [if_neg (by omega)]
  refine ⟨_, a1, ?_⟩
  simp only [if_pos hk]
  exact ⟨_, a2, OwN.same (f := f) ⟨_, a3, b⟩ rfl rfl rfl⟩
 | rowPR _ _ hd a1 hk a2 =>
  rw [if_neg (by omega)]
  refine ⟨_, a1, ?_⟩
  simp only [if_pos hk]
  exact ⟨_, a2, b⟩
 | rowPE _ _ hd a1 => rw [if_neg (by omega)]; exact ⟨_, a1, b⟩
 | rowO _ _ hd a1 hk => rw [if_neg (by omega)]; exact ⟨_, a1, by simp only [if_neg hk]; exact b⟩
 | _ => exfalso; first | omega | (simp_all; done) | (simp_all; omega)
theorem OwR.set (h : OwR t d f i r) (hl : i < t.length) (hc : a1g t i) (hp : nx t i ≠ 40) : match l8 t i with
  | (s, k, e, p) => if e = 0 ∧ p = 0 then OwR t d { f.settle with fac := some (.cls s) } k r else r = .error (e, p) := by
 have h1 := (h.settle (fun hn => hc.2.2.2.2 hn.2))
 unfold a1g afh at hc
 obtain ⟨rr, a, b⟩ := h1
 cases a with
 | rowC _ _ a1 a2 a3 =>
  rw [a1]; simp only [and_self, if_true]
  exact ⟨_, a2, OwN.same (f := f) ⟨_, a3, b⟩ rfl rfl rfl⟩
 | rowCR _ _ a1 a2 =>
  rw [a1]; simp only [and_self, if_true]
  exact ⟨_, a2, b⟩
 | rowCE _ _ a1 hn => rw [a1]; simp only [if_neg hn]; exact b
 | _ => exfalso; first | omega | (simp_all; done) | (simp_all; omega)
def OwS (t : List UInt8) : List AF → Int → aex → Except (Int × Int) Tr → Prop
 | [], _, r, R => match r with
  | .error e => R = .error e
  | .ok (x, k) => if k < t.length then R = .error (20, k) else R = .ok x
 | g :: rest, p, r, R => match r with
  | .error e => R = .error e
  | .ok (x, k) => if k < t.length then ∃ r', OwR t rest.length { g with fac := some x } (k + 1) r' ∧ OwS t rest g.place r' R else R = .error (21, p)
def a0z (t : List UInt8) : List AF → Int → Except (Int × Int) Tr → Prop
 | [], _, _ => False
 | f :: rest, i, R => ∃ r, OwR t rest.length f i r ∧ OwS t rest f.place r R
end Go.Proofs.YtffhedoahdgniaaDoor
namespace Go.Proofs.YtffhedoahdgniaaDoor
open Go Go.RowKit
set_option maxRecDepth 100000 in
theorem ar5 {s : CS} (h : ∀ i, i < 256 → s.getLsbD i = false) : y7 s = 0 := by
 unfold y7
 rw [List.countP_eq_zero]
 intro i hi
 rw [h i (List.mem_range.1 hi)]; simp
end Go.Proofs.YtffhedoahdgniaaDoor
namespace Go.Proofs.YtffhedoahdgniaaDoor
open Go Go.RowKit
def At0 (t : List UInt8) (p : Nat) (u : List UInt8) : Prop := t.drop p = u
set_option maxRecDepth 100000 in
theorem At0.cons {t : List UInt8} {p : Nat} {c : UInt8} {v : List UInt8} (h : At0 t p (c :: v)) : (p : Int) < t.length ∧ a8 t p = c.toNat ∧ At0 t (p + 1) v := by
 unfold At0 at h
 have hl : p < t.length := by
  have := congrArg List.length h
  rw [List.length_drop, List.length_cons] at this; omega
 have hg : t[p]? = some c := by
  have := congrArg (fun l => l[0]?) h
  simpa using this
 refine ⟨by omega, ?_, ?_⟩
 ·unfold a8
  rw [if_pos (by omega), Int.toNat_natCast, List.getD_eq_getElem?_getD, hg]; rfl
 ·unfold At0
  rw [← List.drop_drop, h]; rfl
set_option maxRecDepth 100000 in
theorem At0.app {t : List UInt8} {v : List UInt8} : ∀ {u : List UInt8} {p : Nat}, At0 t p (u ++ v) → At0 t (p + u.length) v
 | [], p, h => h
 | c :: u, p, h => by
  have := At0.app (u := u) h.cons.2.2
  rw [List.length_cons, show p + (u.length + 1) = p + 1 + u.length by omega]; exact this
set_option maxRecDepth 100000 in
theorem At0.len {t u : List UInt8} {p : Nat} (h : At0 t p u) : u.length ≤ t.length := by
 have := congrArg List.length h
 rw [List.length_drop] at this; omega
def azk (bar : List UInt8) : Prop := bar.contains 92 = true ∧ ∀ b, b < 256 → bar.contains b.toUInt8 = true → 32 ≤ b ∧ b ≤ 126 ∧ ¬ (48 ≤ b ∧ b ≤ 57) ∧ ¬ (97 ≤ b ∧ b ≤ 122) ∧ ¬ (65 ≤ b ∧ b ≤ 90)
set_option maxRecDepth 100000 in
theorem a2m : azk spL := ⟨by decide, by decide +kernel⟩
set_option maxRecDepth 100000 in
theorem ayt : azk inL := ⟨by decide, by decide +kernel⟩
set_option maxRecDepth 100000 in
theorem awe : ∀ n, n < 16 → t4 ((alj n).toNat : Nat) = n := by decide +kernel
set_option maxRecDepth 100000 in
theorem a15 (b : Nat) (h : b < 256) : ((b.toUInt8.toNat : Nat) : Int) = b := by
 rw [show b.toUInt8.toNat = b from Nat.mod_eq_of_lt h]
set_option maxRecDepth 100000 in
theorem ave {t : List UInt8} {p n : Nat} {v : List UInt8} (hn : n < 16) (h : At0 t p (alj n :: v)) : agp t p = .ok ((n : Int), ((p + 1 : Nat) : Int)) := by
 obtain ⟨h1, h2, _⟩ := h.cons
 unfold agp
 rw [h2, awe n hn, if_pos ⟨h1, by omega⟩]; rfl
set_option maxRecDepth 100000 in
theorem ac6 {bar : List UInt8} (hb : azk bar) {b : Nat} (h256 : b < 256) {t v : List UInt8} {p : Nat} (h : At0 t p (o4 b bar ++ v)) : ac7 t p bar = .ok ((b : Int), ((p + (o4 b bar).length : Nat) : Int)) := by
 unfold o4 at h ⊢
 unfold ac7
 have escAt : ∀ {c : UInt8} {w : List UInt8}, At0 t p (92 :: c :: w) → ac7 t p bar = agd t ((p + 1 : Nat) : Int) ∧ ((p + 1 : Nat) : Int) < t.length ∧ a8 t ((p + 1 : Nat) : Int) = c.toNat ∧ At0 t (p + 2) w := by
  intro c w h
  obtain ⟨h1, h2, h3⟩ := h.cons
  obtain ⟨h4, h5, h6⟩ := h3.cons
  refine ⟨?_, h4, h5, h6⟩
  unfold ac7
  rw [if_pos h1, h2]; rfl
 unfold ac7 at escAt
 by_cases e1 : b = 10
 ·subst e1
  obtain ⟨q1, q2, q3, _⟩ := escAt (c := 110) (w := v) h
  rw [q1, agd, if_pos q2, q3]; rfl
 by_cases e2 : b = 13
 ·subst e2
  obtain ⟨q1, q2, q3, _⟩ := escAt (c := 114) (w := v) h
  rw [q1, agd, if_pos q2, q3]; rfl
 by_cases e3 : b = 9
 ·subst e3
  obtain ⟨q1, q2, q3, _⟩ := escAt (c := 116) (w := v) h
  rw [q1, agd, if_pos q2, q3]; rfl
 rw [anl e1 e2 e3] at h ⊢
 simp only at h ⊢
 by_cases e4 : b < 32 ∨ 126 < b
 ·rw [if_pos e4] at h ⊢
  obtain ⟨q1, q2, q3, q4⟩ := escAt (c := 120) (w := alj (b / 16) :: alj (b % 16) :: v) h
  have g1 := ave (by omega) q4
  have g2 := ave (by omega) q4.cons.2.2
  rw [q1, agd, if_pos q2, q3]
  simp only [show ((120 : UInt8).toNat : Int) = 120 from rfl, show ((p + 1 : Nat) : Int) + 1 = ((p + 2 : Nat) : Int) by omega, g1, g2]
  simp
  omega
 ·rw [if_neg e4] at h ⊢
  by_cases e5 : bar.contains b.toUInt8 = true
  ·rw [if_pos e5] at h ⊢
   obtain ⟨q1, q2, q3, _⟩ := escAt (c := b.toUInt8) (w := v) h
   obtain ⟨z1, z2, z3, z4, z5⟩ := hb.2 b h256 e5
   rw [q1, agd, if_pos q2, q3, a15 b h256]
   rw [if_neg (by omega), if_neg (by omega), if_neg (by omega), if_neg (by omega), if_neg (by omega)]; rfl
  ·rw [if_neg e5] at h ⊢
   obtain ⟨q1, q2, _⟩ := At0.cons (v := v) h
   have hne : b ≠ 92 := fun e => e5 (by rw [e]; exact hb.1)
   rw [if_pos q1, q2, a15 b h256]
   rw [if_neg (by omega), if_neg (by
    rw [Int.toNat_natCast]; simp only [e5]; simp; omega)]
   rfl
set_option maxRecDepth 100000 in
theorem ak4 (b : Nat) (bar : List UInt8) : ∃ c v, o4 b bar = c :: v ∧ (c = 92 ∨ bar.contains c = false) := by
 unfold o4
 split
 ·exact ⟨_, _, rfl, .inl rfl⟩
 ·split
  ·exact ⟨_, _, rfl, .inl rfl⟩
  ·split
   ·exact ⟨_, _, rfl, .inl rfl⟩
   ·rename_i h; exact ⟨_, _, rfl, .inr (by simpa using h)⟩
set_option maxRecDepth 100000 in
theorem acs (b : Nat) : ∃ c v, o4 b inL = c :: v ∧ c ≠ 45 ∧ c ≠ 94 ∧ c ≠ 93 := by
 obtain ⟨c, v, h, h2⟩ := ak4 b inL
 refine ⟨c, v, h, ?_, ?_, ?_⟩ <;> rintro rfl <;> revert h2 <;> decide
set_option maxRecDepth 100000 in
theorem ams (b : Nat) : ∃ c v, o4 b spL = c :: v ∧ c ≠ 46 ∧ c ≠ 91 := by
 obtain ⟨c, v, h, h2⟩ := ak4 b spL
 refine ⟨c, v, h, ?_, ?_⟩ <;> rintro rfl <;> revert h2 <;> decide
def ags (s : CS) (c : Nat) : Bool := s.getLsbD c && (c == 0 || !s.getLsbD (c - 1))
def abn (s : CS) : Nat → Nat → List UInt8
 | 0, _ => []
 | n + 1, k => abk s k ++ abn s n (k + 1)
def aet (s : CS) : Nat → Nat → CS
 | 0, _ => cs0
 | n + 1, k => (if ags s k then aao k (u9 s k) else cs0) ||| aet s n (k + 1)
set_option maxRecDepth 100000 in
theorem agz (s : CS) : ∀ n k, m7 s k ++ abn s n k = m7 s (k + n)
 | 0, k => by simp [abn]
 | n + 1, k => by
  have := agz s n (k + 1)
  rw [abn, ← List.append_assoc, show m7 s k ++ abk s k = m7 s (k + 1) from rfl, this]; congr 1; omega
set_option maxRecDepth 100000 in
theorem afb {lo hi j : Nat} (hj : j < 256) : (aao lo hi).getLsbD j = decide (lo ≤ j ∧ j ≤ hi) := by rw [aao, acb _ _ hj, Bool.decide_and]
set_option maxRecDepth 100000 in
theorem akx (s : CS) {j : Nat} (hj : j < 256) : ∀ n k, (aet s n k).getLsbD j = true ↔ ∃ c, k ≤ c ∧ c < k + n ∧ ags s c = true ∧ c ≤ j ∧ j ≤ u9 s c
 | 0, k => by
  constructor
  ·intro h; simp [aet, cs0] at h
  ·rintro ⟨c, h1, h2, _⟩; omega
 | n + 1, k => by
  rw [aet, BitVec.getLsbD_or, Bool.or_eq_true, akx s hj n (k + 1)]
  constructor
  ·rintro (h | ⟨c, h1, h2, h3⟩)
   ·by_cases hs : ags s k = true
    ·rw [if_pos hs, afb hj] at h
     have := of_decide_eq_true h
     exact ⟨k, by omega, by omega, hs, this.1, this.2⟩
    ·rw [if_neg hs] at h; simp [cs0] at h
   ·exact ⟨c, by omega, by omega, h3⟩
  ·rintro ⟨c, h1, h2, h3, h4, h5⟩
   by_cases e : c = k
   ·subst e
    refine .inl ?_
    rw [if_pos h3, afb hj]
    exact decide_eq_true ⟨h4, h5⟩
   ·exact .inr ⟨c, by omega, by omega, h3, h4, h5⟩
set_option maxRecDepth 100000 in
theorem arg (s : CS) : ∀ j, s.getLsbD j = true → ∃ c, c ≤ j ∧ ags s c = true ∧ ∀ i, c ≤ i → i ≤ j → s.getLsbD i = true
 | 0, h => ⟨0, Nat.le_refl _, by simp [ags, h], fun i _ h2 => by rw [show i = 0 by omega]; exact h⟩
 | j + 1, h => by
  by_cases h2 : s.getLsbD j = true
  ·obtain ⟨c, c1, c2, c3⟩ := arg s j h2
   refine ⟨c, by omega, c2, fun i i1 i2 => ?_⟩
   by_cases e : i = j + 1
   ·rw [e]; exact h
   ·exact c3 i i1 (by omega)
  ·exact ⟨j + 1, Nat.le_refl _, by simp [ags, h, h2], fun i i1 i2 => by rw [show i = j + 1 by omega]; exact h⟩
set_option maxRecDepth 100000 in
theorem akk (s : CS) (e : Nat) (h : e ≤ 255) : e ≤ u9 s e ∧ u9 s e ≤ 255 ∧ (∀ i, e < i → i ≤ u9 s e → s.getLsbD i = true) ∧ (u9 s e < 255 → s.getLsbD (u9 s e + 1) = false) := adm s 256 e h (by omega)
set_option maxRecDepth 100000 in
theorem akv (s : CS) : aet s 256 0 = s := by
 refine adr fun j hj => ?_
 rw [Bool.eq_iff_iff, akx s hj]
 constructor
 ·rintro ⟨c, _, h2, h3, h4, h5⟩
  obtain ⟨_, _, r3, _⟩ := akk s c (by omega)
  by_cases e : c = j
  ·subst e; unfold ags at h3; simp only [Bool.and_eq_true] at h3; exact h3.1
  ·exact r3 j (by omega) h5
 ·intro h
  obtain ⟨c, c1, c2, c3⟩ := arg s j h
  obtain ⟨r1, r2, r3, r4⟩ := akk s c (by omega)
  refine ⟨c, by omega, by omega, c2, c1, ?_⟩
  rcases Nat.lt_or_ge (u9 s c) j with hlt | hge
  ·have := r4 (by omega)
   rw [c3 _ (by omega) (by omega)] at this; cases this
  ·exact hge
set_option maxRecDepth 100000 in
theorem aqc (s : CS) (v : List UInt8) : ∀ n k, ∃ c w, abn s n k ++ 93 :: v = c :: w ∧ c ≠ 45 ∧ c ≠ 94
 | 0, _ => ⟨93, v, rfl, by decide, by decide⟩
 | n + 1, k => by
  rw [abn, abk]
  split
  ·obtain ⟨c, w, h, h1, h2, _⟩ := acs k
   exact ⟨c, _, by rw [abm, h]; rfl, h1, h2⟩
  ·exact aqc s v n (k + 1)
set_option maxRecDepth 100000 in
theorem ad0 (s : CS) {t v : List UInt8} : ∀ (n k f : Nat) (S : CS) (p : Nat), n + k = 256 → At0 t p (abn s n k ++ 93 :: v) → (abn s n k).length < f →
  adt t f S p = .ok (S ||| aet s n k, ((p + (abn s n k).length + 1 : Nat) : Int))
 | 0, k, f, S, p, _, h, hf => by
  obtain ⟨f, rfl⟩ : ∃ m, f = m + 1 := ⟨f - 1, by omega⟩
  obtain ⟨h1, h2, _⟩ := At0.cons (v := v) h
  rw [adt, if_pos ⟨h1, by rw [h2]; rfl⟩, aet, show S ||| cs0 = S by simp [cs0]]; rfl
 | n + 1, k, f, S, p, hk, h, hf => by
  rw [abn] at h hf ⊢
  rw [aet]
  by_cases hs : ags s k = true
  ·have hP : abk s k = abm k (u9 s k) := by unfold abk; exact if_pos hs
   rw [if_pos hs]
   rw [hP] at h hf ⊢
   obtain ⟨e, he⟩ : ∃ e, e = u9 s k := ⟨_, rfl⟩
   obtain ⟨r1, r2, _, _⟩ := akk s k (by omega)
   rw [← he] at h hf r1 r2 ⊢
   obtain ⟨f, rfl⟩ : ∃ m, f = m + 1 := ⟨f - 1, by omega⟩
   have len1 : 0 < (o4 k inL).length := by obtain ⟨c, w, hw, _⟩ := acs k; rw [hw]; simp
   have len2 : 0 < (o4 e inL).length := by obtain ⟨c, w, hw, _⟩ := acs e; rw [hw]; simp
   have notClose : ∀ {q b : Nat} {u : List UInt8}, At0 t q (o4 b inL ++ u) → ¬ ((q : Int) < t.length ∧ a8 t q = 93) ∧ ¬ ((q : Int) < t.length ∧ a8 t q = 45) := fun {q b u} hq => by
    obtain ⟨c, w, hw, n1, _, n3⟩ := acs b
    rw [hw] at hq
    obtain ⟨_, hc, _⟩ := At0.cons (v := w ++ u) hq
    rw [hc]
    exact ⟨fun x => n3 (UInt8.toNat_inj.1 (by simpa using (Int.ofNat.inj x.2))), fun x => n1 (UInt8.toNat_inj.1 (by simpa using (Int.ofNat.inj x.2)))⟩
   have notDash : ∀ {q : Nat}, At0 t q (abn s n (k + 1) ++ 93 :: v) → ¬ ((q : Int) < t.length ∧ a8 t q = 45) := fun {q} hq => by
    obtain ⟨c, w, hw, n1, _⟩ := aqc s v n (k + 1)
    rw [hw] at hq
    obtain ⟨_, hc, _⟩ := At0.cons hq
    rw [hc]
    exact fun x => n1 (UInt8.toNat_inj.1 (by simpa using (Int.ofNat.inj x.2)))
   unfold abm at h hf ⊢
   by_cases e1 : k + 1 < e
   ·rw [if_pos e1, if_pos (by omega : k < e)] at h hf ⊢
    simp only [List.append_assoc, List.length_append, List.length_cons, List.length_nil] at h hf ⊢
    have a1 := h.app
    obtain ⟨b1, b2, b3⟩ := At0.cons a1
    rw [adt, if_neg (notClose h).1, ac6 ayt (by omega) h]
    simp only
    rw [if_pos ⟨b1, by rw [b2]; rfl⟩, show ((p + (o4 k inL).length : Nat) : Int) + 1 = ((p + (o4 k inL).length + 1 : Nat) : Int) by omega, ac6 ayt (by omega) b3]
    simp only
    rw [if_neg (by omega), Int.toNat_natCast, Int.toNat_natCast, ad0 s n (k + 1) f _ _ (by omega) (At0.app (u := o4 e inL) b3) (by omega), BitVec.or_assoc]
    congr 2; omega
   ·rw [if_neg e1] at h hf ⊢
    by_cases e2 : k < e
    ·rw [if_pos e2] at h hf ⊢
     simp only [List.append_nil, List.append_assoc, List.length_append] at h hf ⊢
     have a1 := h.app
     have a2 := a1.app
     obtain ⟨f, rfl⟩ : ∃ m, f = m + 1 := ⟨f - 1, by omega⟩
     rw [adt, if_neg (notClose h).1, ac6 ayt (by omega) h]
     simp only
     rw [if_neg (notClose a1).2, adt, if_neg (notClose a1).1, ac6 ayt (by omega) a1]
     simp only
     rw [if_neg (notDash a2), Int.toNat_natCast, Int.toNat_natCast, ad0 s n (k + 1) f _ _ (by omega) a2 (by omega), BitVec.or_assoc, BitVec.or_assoc, ← BitVec.or_assoc (aao k k)]
     have : aao k k ||| aao e e = aao k e := adr fun j hj => by
      rw [BitVec.getLsbD_or, afb hj, afb hj, afb hj, Bool.eq_iff_iff]; simp; omega
     rw [this]
     congr 2; omega
    ·rw [if_neg e2] at h hf ⊢
     simp only [List.append_nil, List.append_assoc] at h hf ⊢
     have a1 := h.app
     have : e = k := by omega
     subst this
     rw [adt, if_neg (notClose h).1, ac6 ayt (by omega) h]
     simp only [List.length_append] at hf ⊢
     rw [if_neg (notDash a1), Int.toNat_natCast, ad0 s n (e + 1) f _ _ (by omega) a1 (by omega), BitVec.or_assoc]
     congr 2; omega
  ·have hP : abk s k = [] := by unfold abk; exact if_neg hs
   rw [hP, List.nil_append] at h hf ⊢
   rw [if_neg hs, ad0 s n (k + 1) f S p (by omega) h hf]
   simp [cs0]
set_option maxRecDepth 100000 in
theorem asn {s : CS} (h : y7 s = 1) : ∃ b, b < 256 ∧ abd s 0 = some b ∧ s = aao b b := by
 cases hn : abd s 0 with
 | none => rw [ar5 fun i hi => amz hn i (by omega) hi] at h; cases h
 | some b =>
  obtain ⟨_, h2, h3, _⟩ := am9 hn
  refine ⟨b, h2, rfl, adr fun j hj => ?_⟩
  rw [afb hj, Bool.eq_iff_iff]
  constructor
  ·intro hs
   unfold y7 at h
   rw [List.countP_eq_length_filter] at h
   obtain ⟨x, hx⟩ := List.length_eq_one_iff.1 h
   have m1 : b ∈ (List.range 256).filter fun i => s.getLsbD i := List.mem_filter.2 ⟨List.mem_range.2 h2, h3⟩
   have m2 : j ∈ (List.range 256).filter fun i => s.getLsbD i := List.mem_filter.2 ⟨List.mem_range.2 hj, hs⟩
   rw [hx] at m1 m2
   have e1 := List.mem_singleton.1 m1
   have e2 := List.mem_singleton.1 m2
   exact decide_eq_true (by omega)
  ·intro hd
   have := of_decide_eq_true hd
   rw [show j = b by omega]; exact h3
set_option maxRecDepth 100000 in
theorem a0i (s : CS) {t v : List UInt8} {p : Nat} (h : At0 t p (aaf s ++ v)) : l8 t p = (s, ((p + (aaf s).length : Nat) : Int), 0, 0) := by
 unfold l8
 unfold aaf at h ⊢
 by_cases h1 : y7 s = 1
 ·rw [if_pos h1] at h ⊢
  obtain ⟨b, hb, hn, hs⟩ := asn h1
  rw [hn] at h ⊢
  simp only [Option.getD_some] at h ⊢
  obtain ⟨c, w, hw, n1, n2⟩ := ams b
  have hh := h
  rw [hw] at hh
  obtain ⟨q1, q2, _⟩ := At0.cons (v := w ++ v) hh
  rw [if_neg (by omega), adi, q2, if_neg (fun x => n1 (UInt8.toNat_inj.1 (by simpa using (Int.ofNat.inj x)))), if_neg (fun x => n2 (UInt8.toNat_inj.1 (by simpa using (Int.ofNat.inj x)))), ac6 a2m hb h]
  simp only
  rw [Int.toNat_natCast, ← hs]
 ·rw [if_neg h1] at h ⊢
  by_cases h2 : 128 < y7 s
  ·rw [if_pos h2] at h ⊢
   have e0 := agz (~~~ s) 256 0
   rw [m7, List.nil_append, Nat.zero_add] at e0
   rw [← e0] at h ⊢
   simp only [List.append_assoc, List.cons_append, List.nil_append] at h
   obtain ⟨q1, q2, q3⟩ := At0.cons h
   obtain ⟨q4, q5, q6⟩ := At0.cons q3
   have hl := h.len
   simp only [List.length_cons, List.length_append] at hl
   rw [if_neg (by omega), adi, q2, if_neg (by decide), if_pos (by decide), ajh, show (p : Int) + 1 = ((p + 1 : Nat) : Int) by omega, if_pos ⟨q4, by rw [q5]; rfl⟩, show ((p + 1 : Nat) : Int) + 1 = ((p + 1 + 1 : Nat) : Int) by omega,
    ad0 (~~~ s) 256 0 _ _ _ rfl q6 (by omega), akv]
   simp only [List.length_cons, List.length_append, List.length_nil]
   rw [show ~~~ (cs0 ||| ~~~ s) = s by simp [cs0]]
   congr 2; omega
  ·rw [if_neg h2] at h ⊢
   have e0 := agz s 256 0
   rw [m7, List.nil_append, Nat.zero_add] at e0
   rw [← e0] at h ⊢
   simp only [List.append_assoc, List.cons_append, List.nil_append] at h
   obtain ⟨q1, q2, q3⟩ := At0.cons h
   have hl := h.len
   simp only [List.length_cons, List.length_append] at hl
   obtain ⟨c, w, hw, _, n2⟩ := aqc s v 256 0
   have q3' := q3
   rw [hw] at q3'
   obtain ⟨_, q5, _⟩ := At0.cons q3'
   rw [if_neg (by omega), adi, q2, if_neg (by decide), if_pos (by decide), ajh, show (p : Int) + 1 = ((p + 1 : Nat) : Int) by omega, if_neg (by rw [q5]; exact fun x => n2 (UInt8.toNat_inj.1 (by simpa using (Int.ofNat.inj x.2)))),
    ad0 s 256 0 _ _ _ rfl q3 (by omega), akv]
   simp only [List.length_cons, List.length_append, List.length_nil]
   rw [show cs0 ||| s = s by simp [cs0]]
   congr 2; omega
set_option maxRecDepth 100000 in
theorem awp (s : CS) : (aaf s).length ≤ 4096 := by
 unfold aaf
 have h1 := u7 ((abd s 0).getD 0) spL
 have h2 := abo s 256
 have h3 := abo (~~~ s) 256
 split
 ·omega
 ·split <;> simp <;> omega
end Go.Proofs.YtffhedoahdgniaaDoor
namespace Go.Proofs.YtffhedoahdgniaaDoor
open Go Go.RowKit
set_option maxRecDepth 100000 in
theorem av8 (s : CS) : aks 30 #[.agg (n7 s)] (.string (bs (aaf s))) := by
 by_cases h : y7 s = 1
 ·exact ayo s h
 ·exact aw6 s h
end Go.Proofs.YtffhedoahdgniaaDoor
