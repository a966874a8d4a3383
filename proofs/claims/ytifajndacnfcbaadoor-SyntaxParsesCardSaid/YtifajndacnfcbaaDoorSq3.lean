/-
  Merged: TkQ, TkO, TkC, TkR.
-/
import Derived.Test.YtifajndacnfcbaaDoorSq2
set_option maxRecDepth 100000
namespace Go.Proofs.YtifajndacnfcbaaDoor
open Go Go.RowKit
theorem j6 : slB Tryd.prog 86 5 1 = true := by kernel_rfl
theorem ada : k9 Tryd.prog 37 = true := by kernel_rfl
theorem aio : k9 Tryd.prog 72 = true := by kernel_rfl
theorem abc : k9 Tryd.prog 60 = true := by kernel_rfl
theorem x5 : afi Tryd.prog 5 = some ([zU 0], 1, 1) := by kernel_rfl
theorem asp : k9 Tryd.prog 73 = true := by kernel_rfl
def ajb (s_0 : List UInt8) (s_1 : Int) (s_3 : Int) (s_4 : Int) (s_5 : List UInt8) (sl : List Tok) (K : Bool → (List UInt8) → Int → Int → Int → (List UInt8) → (List Tok) → Prop) : Prop :=
 (I64 (s_1 + 1)) ∧
 ∃ (Inv : (List UInt8) → Int → Prop) (mu : (List UInt8) → Int → Nat),
  Inv [] (s_1 + 1) ∧ ∀ (l_3' : List UInt8) (s_1_4' : Int), Inv l_3' s_1_4' →
   (if (!(decide (s_0.length ≤ s_1_4'))) = true then
    ∃ (J0_2' : (List UInt8) → Int → Prop),
     (∀ (l_4' : List UInt8) (s_1_5' : Int), J0_2' l_4' s_1_5' →
      (I64 (s_1_5' + 1)) ∧
      Inv l_4' (s_1_5' + 1) ∧ mu l_4' (s_1_5' + 1) < mu l_3' s_1_4') ∧
     (0 ≤ s_1_4' ∧ s_1_4' < s_0.length) ∧
     (if (decide (((s_0.getD s_1_4'.toNat 0).toNat : Int) = 34)) = true then
      (I64 (s_1_4' + 1)) ∧
      (sl.length ≤ 4096) ∧
      (
       K true s_0 (s_1_4' + 1) s_3 s_4 s_5 (sl ++ [((2 : Int), s_1, l_3')]))
     else
      (if (!(m9 ((s_0.getD s_1_4'.toNat 0).toNat : Int))) = true then
       K false s_0 s_1_4' 50 s_1_4' [] sl
      else
       (if (!decide (((s_0.getD s_1_4'.toNat 0).toNat : Int) = 92)) = true then
        (((l_3'.length + 1) + (l_3'.length + 1) / 4 + 192) * 1 ≤ 281474976710656 ∧ l_3'.length + 1 ≤ 9223372036854775807) ∧
        J0_2' (l_3' ++ [(s_0.getD s_1_4'.toNat 0)]) s_1_4'
       else
        (0 ≤ s_1_4' ∧ s_1_4' < s_0.length ∧ s_0.length ≤ 4096) ∧
        (∀ (b_17' : Int) (ok_5' : Bool) (at0_5' : Int), ab2 s_0 s_1_4' = (b_17', ok_5', at0_5') →
         (if (decide (s_0.length ≤ at0_5')) = true then
          K false s_0 at0_5' 51 s_1 [] sl
         else
          (if (!ok_5') = true then
           K false s_0 at0_5' 50 at0_5' [] sl
          else
           (0 ≤ b_17' ∧ b_17' < 256) ∧
           (((l_3'.length + 1) + (l_3'.length + 1) / 4 + 192) * 1 ≤ 281474976710656 ∧ l_3'.length + 1 ≤ 9223372036854775807) ∧
           J0_2' (l_3' ++ [(b_17').toNat.toUInt8]) at0_5'))))))
   else
    K false s_0 s_1_4' 51 s_1 [] sl)
theorem ati (b : Nat) (w : Value) (s_0 : List UInt8) (s_1 : Int) (s_3 : Int) (s_4 : Int) (s_5 : List UInt8) (sl : List Tok) (K : Bool → (List UInt8) → Int → Int → Int → (List UInt8) → (List Tok) → Prop) (h : ajb s_0 s_1 s_3 s_4 s_5 sl K) :
  d9 Tryd.prog 61 [zP b] [] [HA.blk b (.cells [st s_0, zI s_1, w, zI s_3, zI s_4, st s_5].toArray 100 (0, 0)), HA.row w 102 3 sl.length (sl.flatMap e6)] (fun o => (∃ (v : Bool) (d_1' : List UInt8) (d_2' : Int) (d_3' : Int) (d_4' : Int) (d_5' : List UInt8) (w_24' : Value) (d : List Tok), K v d_1' d_2' d_3' d_4' d_5' d ∧ o = .ret (zB v) [HA.blk b (.cells [st d_1', zI d_2', w_24', zI d_3', zI d_4', st d_5'].toArray 100 (0, 0)), HA.row w_24' 102 3 d.length (d.flatMap e6)]) ∨ (False)) := by
 unfold ajb at h
 refine c8 (n := 95) (L0 := [(0, zP b)]) Tryd.func61 rfl rfl rfl rfl (fun w0 M Q hE => ?_)
 refine a7 (fun _ hK => ?_)
 refine a6 ?_
 refine wA ?_
 refine WL.nil ?_
 refine kg (hK [(0, zP b)] _ ?_)
 refine a7 (fun _ hK_1' => ?_)
 refine a6 ?_
 refine wm ?_
 refine wv (OV.nilCheck rfl) ?_
 refine wv (OV.fieldAddr0 rfl c6) ?_
 refine wv (OV.load rfl (At.own 0 rfl) rfl a8) ?_
 refine wA ?_
 refine WL.nil ?_
 refine kg (hK_1' [(0, zP b), (3, zI s_1)] _ ?_)
 refine a7 (fun _ hK_2' => ?_)
 refine a6 ?_
 refine wA ?_
 refine WL.nilRow 5 1 k8 ?_
 refine WL.nil ?_
 refine kg (hK_2' [(0, zP b), (3, zI s_1), (4, Value.slice none 0 0)] _ ?_)
 refine a7 (fun _ hK_3' => ?_)
 refine a7 (fun _ hK_4' => ?_)
 refine a6 ?_
 refine wm ?_
 refine wv (OV.nilCheck rfl) ?_
 refine wv (OV.fieldAddr0 rfl c6) ?_
 refine wv (OV.load rfl (At.own 1 rfl) rfl a8) ?_
 obtain ⟨o, h⟩ := h
 refine wv (OV.add rfl rfl o) ?_
 refine wv (OV.nilCheck rfl) ?_
 refine wv (OV.fieldAddr0 rfl c6) ?_
 refine WL.store (vs := [zI (s_1 + 1)]) (cs' := [st s_0, zI (s_1 + 1), w, zI s_3, zI s_4, st s_5]) 1 rfl rfl rfl rfl f9 (Nat.le_of_ble_eq_true rfl) rfl rfl rfl ?_
 refine WL.nil ?_
 refine kg (hK_4' [(0, zP b), (3, zI s_1), (4, Value.slice none 0 0)] _ ?_)
 refine b7 ?_
 obtain ⟨Inv, mu, h0, hr⟩ := h
 refine o7 (S := Value × (List UInt8) × Int) (fun σ => Inv σ.2.1 σ.2.2) (fun σ => mu σ.2.1 σ.2.2) (fun σ => [(0, zP b), (3, zI s_1), (4, σ.1)]) (fun σ => [HA.row σ.1 5 1 σ.2.1.length (σ.2.1.flatMap k8), HA.blk b (.cells [st s_0, zI σ.2.2, w, zI s_3, zI s_4, st s_5].toArray 100 (0, 0)), HA.row w 102 3 sl.length (sl.flatMap e6)]) (Value.slice none 0 0, [], s_1 + 1) h0 ⟨rfl, rfl, rfl, trivial⟩ rfl ?_
 rintro ⟨w_16', l_3', s_1_4'⟩ hi K0_75' hK_75'
 have h := hr l_3' s_1_4' hi
 show WC _ _ _ _ [(0, zP b), (3, zI s_1), (4, w_16')] [HA.row w_16' 5 1 l_3'.length (l_3'.flatMap k8), HA.blk b (.cells [st s_0, zI s_1_4', w, zI s_3, zI s_4, st s_5].toArray 100 (0, 0)), HA.row w 102 3 sl.length (sl.flatMap e6)]
 refine a7 (fun _ hK_76' => ?_)
 refine a7 (fun _ hK_77' => ?_)
 refine a6 ?_
 refine wm ?_
 refine WL.call (A := []) aav rfl (aab b s_0 s_1_4' w s_3 s_4 s_5) rfl ⟨.inl ⟨1, rfl⟩, trivial⟩ rfl rfl ?_
 refine wv (OV.not rfl) ?_
 refine WL.nil ?_
 refine kg (hK_77' [(0, zP b), (3, zI s_1), (4, w_16'), (21, zB (!(decide (s_0.length ≤ s_1_4'))))] _ ?_)
 refine b5 (b := !(decide (s_0.length ≤ s_1_4'))) rfl (fun hb => ?_) (fun hb => ?_)
 ·replace h := e8 h hb
  refine b6 ?_
  refine kg (hK_76' [(0, zP b), (3, zI s_1), (4, w_16')] _ ?_)
  obtain ⟨J0_2', hJ_2', h⟩ := h
  refine m5 (X := Value × (List UInt8) × Int) (fun σ => J0_2' σ.2.1 σ.2.2) (fun σ => [(0, zP b), (3, zI s_1), (4, σ.1)]) (fun σ => [HA.row σ.1 5 1 σ.2.1.length (σ.2.1.flatMap k8), HA.blk b (.cells [st s_0, zI σ.2.2, w, zI s_3, zI s_4, st s_5].toArray 100 (0, 0)), HA.row w 102 3 sl.length (sl.flatMap e6)]) ?_ (fun K0_94' hK_94' => ?_)
  ·rintro ⟨w_20', l_4', s_1_5'⟩ hj
   replace h := hJ_2' l_4' s_1_5' hj
   show WC _ _ _ _ [(0, zP b), (3, zI s_1), (4, w_20')] [HA.row w_20' 5 1 l_4'.length (l_4'.flatMap k8), HA.blk b (.cells [st s_0, zI s_1_5', w, zI s_3, zI s_4, st s_5].toArray 100 (0, 0)), HA.row w 102 3 sl.length (sl.flatMap e6)]
   refine a6 ?_
   refine wm ?_
   refine wv (OV.nilCheck rfl) ?_
   refine wv (OV.fieldAddr0 rfl c6) ?_
   refine wv (OV.load rfl (At.own 1 rfl) rfl a8) ?_
   obtain ⟨o_38', h⟩ := h
   refine wv (OV.add rfl rfl o_38') ?_
   refine wv (OV.nilCheck rfl) ?_
   refine wv (OV.fieldAddr0 rfl c6) ?_
   refine WL.store (vs := [zI (s_1_5' + 1)]) (cs' := [st s_0, zI (s_1_5' + 1), w, zI s_3, zI s_4, st s_5]) 1 rfl rfl rfl rfl f9 (Nat.le_of_ble_eq_true rfl) rfl rfl rfl ?_
   refine WL.nil ?_
   exact kh (hK_75' (w_20', l_4', s_1_5' + 1) h.1 h.2) [0, 1, 2]
  ·skip
   refine b7 ?_
   refine a7 (fun _ hK_95' => ?_)
   refine m0 8 [] f0 (by kernel_rfl) rfl (fun T_5' hT_5' => ?_)
   refine fv (fun _ => OV.move rfl) ?_
   refine fv (fun _ => OV.nilCheck rfl) ?_
   refine fv (fun _ => OV.fieldAddr0 rfl j7) ?_
   refine fv (fun _ => OV.load rfl (At.own 1 rfl) rfl c7) ?_
   refine fv (fun _ => OV.move rfl) ?_
   refine fv (fun _ => OV.nilCheck rfl) ?_
   refine fv (fun _ => OV.fieldAddr0 rfl c6) ?_
   refine fv (fun _ => OV.load rfl (At.own 1 rfl) rfl a8) ?_
   refine FL.weak (L' := fun γ => [(0, zP b), (3, zI s_1), (4, w_16'), (32, st s_0), (36, zI s_1_4')]) (fun γ => ⟨rfl, rfl, rfl, rfl, rfl, trivial⟩) (FL.nil (hT_5' (fun γ => [(0, zP b), (3, zI s_1), (4, w_16'), (32, st s_0), (36, zI s_1_4')]) (fun γ => ?_)))
   obtain ⟨o_39', h⟩ := h
   refine wv (OV.index rfl rfl c9 o_39') ?_
   refine wA ?_
   refine WL.nil ?_
   refine kg (hK_95' [(0, zP b), (3, zI s_1), (4, w_16'), (5, zU ((s_0.getD s_1_4'.toNat 0).toNat : Int))] _ ?_)
   refine a7 (fun _ hK_96' => ?_)
   refine b7 ?_
   refine a7 (fun _ hK_97' => ?_)
   refine a6 ?_
   refine wm ?_
   refine wv (OV.eql rfl rfl) ?_
   refine wA ?_
   refine WL.nil ?_
   refine kg (hK_97' [(0, zP b), (3, zI s_1), (4, w_16'), (5, zU ((s_0.getD s_1_4'.toNat 0).toNat : Int)), (38, zB (decide (((s_0.getD s_1_4'.toNat 0).toNat : Int) = 34)))] _ ?_)
   refine b5 (b := decide (((s_0.getD s_1_4'.toNat 0).toNat : Int) = 34)) rfl (fun hb => ?_) (fun hb => ?_)
   ·replace h := e8 h hb
    refine a7 (fun _ hK_98' => ?_)
    refine a6 ?_
    refine wm ?_
    refine wv (OV.nilCheck rfl) ?_
    refine wv (OV.fieldAddr0 rfl c6) ?_
    refine wv (OV.load rfl (At.own 1 rfl) rfl a8) ?_
    obtain ⟨o_40', h⟩ := h
    refine wv (OV.add rfl rfl o_40') ?_
    refine wv (OV.nilCheck rfl) ?_
    refine wv (OV.fieldAddr0 rfl c6) ?_
    refine WL.store (vs := [zI (s_1_4' + 1)]) (cs' := [st s_0, zI (s_1_4' + 1), w, zI s_3, zI s_4, st s_5]) 1 rfl rfl rfl rfl f9 (Nat.le_of_ble_eq_true rfl) rfl rfl rfl ?_
    refine WL.nil ?_
    refine kg (hK_98' [(0, zP b), (3, zI s_1), (4, w_16')] _ ?_)
    refine a7 (fun _ hK_99' => ?_)
    refine a6 ?_
    refine wm ?_
    refine wm ?_
    refine wm ?_
    refine wv (OV.bytesRow (l := l_3') 0 rfl rfl j6 Tryd.underlying5 c9) ?_
    obtain ⟨o_41', h⟩ := h
    refine WL.pick (H' := [HA.blk b (.cells [st s_0, zI (s_1_4' + 1), w, zI s_3, zI s_4, st s_5].toArray 100 (0, 0)), HA.row w 102 3 sl.length (sl.flatMap e6), HA.row w_16' 5 1 l_3'.length (l_3'.flatMap k8)]) [1, 2, 0] rfl rfl ?_
    refine WL.callS ada rfl (aet b s_0 (s_1_4' + 1) w s_3 s_4 s_5 sl 2 s_1 l_3' o_41') rfl trivial rfl rfl (fun r H' hS => ?_) (fun c H' hS => ?_)
    ·obtain ⟨w_21', ho⟩ := hS
     cases ho
     refine wA ?_
     refine WL.nil ?_
     refine kg (hK_99' [(2, zB true)] _ ?_)
     refine b8 ?_
     exact hE.ret [0, 1] rfl rfl (.inl ⟨_, _, _, _, _, _, _, _, h, rfl⟩) (d7.of1 rfl (RV.tmp rfl))
    ·obtain ⟨w_21', ho⟩ := hS
     cases ho
   ·replace h := e9 h hb
    refine a7 (fun _ hK_100' => ?_)
    refine a6 ?_
    refine wm ?_
    refine WL.call (A := []) aio rfl (ab3 ((s_0.getD s_1_4'.toNat 0).toNat : Int)) rfl trivial rfl rfl ?_
    refine wv (OV.not rfl) ?_
    refine wA ?_
    refine WL.nil ?_
    refine kg (hK_100' [(0, zP b), (3, zI s_1), (4, w_16'), (5, zU ((s_0.getD s_1_4'.toNat 0).toNat : Int)), (53, zB (!(m9 ((s_0.getD s_1_4'.toNat 0).toNat : Int))))] _ ?_)
    refine b5 (b := !(m9 ((s_0.getD s_1_4'.toNat 0).toNat : Int))) rfl (fun hb => ?_) (fun hb => ?_)
    ·replace h := e8 h hb
     refine a7 (fun _ hK_101' => ?_)
     refine a6 ?_
     refine wm ?_
     refine wm ?_
     refine wv (OV.nilCheck rfl) ?_
     refine wv (OV.fieldAddr0 rfl c6) ?_
     refine wv (OV.load rfl (At.own 1 rfl) rfl a8) ?_
     refine WL.pick (H' := [HA.blk b (.cells [st s_0, zI s_1_4', w, zI s_3, zI s_4, st s_5].toArray 100 (0, 0)), HA.row w_16' 5 1 l_3'.length (l_3'.flatMap k8), HA.row w 102 3 sl.length (sl.flatMap e6)]) [1, 0, 2] rfl rfl ?_
     refine WL.call abc rfl (abd b s_0 s_1_4' w s_3 s_4 s_5 50 s_1_4') rfl trivial rfl rfl ?_
     refine wA ?_
     refine WL.nil ?_
     refine kg (hK_101' [(2, zB false)] _ ?_)
     refine b8 ?_
     exact hE.ret [0, 2] rfl rfl (.inl ⟨_, _, _, _, _, _, _, _, h, rfl⟩) (d7.of1 rfl (RV.tmp rfl))
    ·replace h := e9 h hb
     refine a7 (fun _ hK_102' => ?_)
     refine a6 ?_
     refine wm ?_
     refine wv (OV.neq rfl rfl) ?_
     refine wA ?_
     refine WL.nil ?_
     refine kg (hK_102' [(0, zP b), (3, zI s_1), (4, w_16'), (5, zU ((s_0.getD s_1_4'.toNat 0).toNat : Int)), (63, zB (!decide (((s_0.getD s_1_4'.toNat 0).toNat : Int) = 92)))] _ ?_)
     refine b5 (b := !decide (((s_0.getD s_1_4'.toNat 0).toNat : Int) = 92)) rfl (fun hb => ?_) (fun hb => ?_)
     ·replace h := e8 h hb
      refine a7 (fun _ hK_103' => ?_)
      refine a6 ?_
      refine wm ?_
      refine wm ?_
      refine WL.make (MV.buildSlice (cs := [zU ((s_0.getD s_1_4'.toNat 0).toNat : Int)]) rfl j6 (by kernel_rfl)) rfl rfl rfl (fun b_16' => ?_)
      obtain ⟨o_42', h⟩ := h
      refine WL.append (f := k8) (ms := [(s_0.getD s_1_4'.toNat 0)]) 1 0 rfl rfl rfl rfl rfl rfl w6 (by decide) rfl j6 x5 rfl o_42' rfl rfl (fun w_22' => ?_)
      refine wA ?_
      refine WL.nil ?_
      refine kg (hK_103' [(0, zP b), (3, zI s_1), (4, w_22')] _ ?_)
      refine l4 ?_
      exact kh (hK_94' (w_22', l_3' ++ [(s_0.getD s_1_4'.toNat 0)], s_1_4') h) [1, 2, 3]
     ·replace h := e9 h hb
      refine b6 ?_
      refine kg (hK_96' [(0, zP b), (3, zI s_1), (4, w_16')] _ ?_)
      refine a7 (fun _ hK_104' => ?_)
      refine a6 ?_
      refine wm ?_
      obtain ⟨o_43', h⟩ := h
      refine WL.pick (H' := [HA.blk b (.cells [st s_0, zI s_1_4', w, zI s_3, zI s_4, st s_5].toArray 100 (0, 0)), HA.row w_16' 5 1 l_3'.length (l_3'.flatMap k8), HA.row w 102 3 sl.length (sl.flatMap e6)]) [1, 0, 2] rfl rfl ?_
      refine WL.callS asp rfl (aoc b s_0 s_1_4' w s_3 s_4 s_5 o_43') rfl trivial rfl rfl (fun r H' hS => ?_) (fun c H' hS => ?_)
      ·obtain ⟨b_17', ok_5', at0_5', hc, ho⟩ := hS
       cases ho
       replace h := h b_17' ok_5' at0_5' hc
       refine wm ?_
       refine wv (OV.extract 0 rfl rfl) ?_
       refine wv (OV.extract 1 rfl rfl) ?_
       refine wA ?_
       refine wA ?_
       refine WL.nil ?_
       refine kg (hK_104' [(0, zP b), (3, zI s_1), (4, w_16'), (6, zU b_17'), (7, zB ok_5')] _ ?_)
       refine a7 (fun _ hK_105' => ?_)
       refine a7 (fun _ hK_106' => ?_)
       refine a6 ?_
       refine wm ?_
       refine WL.call (A := []) aav rfl (aab b s_0 at0_5' w s_3 s_4 s_5) rfl ⟨.inl ⟨0, rfl⟩, trivial⟩ rfl rfl ?_
       refine WL.nil ?_
       refine kg (hK_106' [(0, zP b), (3, zI s_1), (4, w_16'), (6, zU b_17'), (7, zB ok_5'), (76, zB (decide (s_0.length ≤ at0_5')))] _ ?_)
       refine b5 (b := decide (s_0.length ≤ at0_5')) rfl (fun hb => ?_) (fun hb => ?_)
       ·replace h := e8 h hb
        refine a7 (fun _ hK_107' => ?_)
        refine a6 ?_
        refine wm ?_
        refine wm ?_
        refine WL.call abc rfl (abd b s_0 at0_5' w s_3 s_4 s_5 51 s_1) rfl trivial rfl rfl ?_
        refine wA ?_
        refine WL.nil ?_
        refine kg (hK_107' [(2, zB false)] _ ?_)
        refine b8 ?_
        exact hE.ret [0, 2] rfl rfl (.inl ⟨_, _, _, _, _, _, _, _, h, rfl⟩) (d7.of1 rfl (RV.tmp rfl))
       ·replace h := e9 h hb
        refine b6 ?_
        refine kg (hK_105' [(0, zP b), (3, zI s_1), (4, w_16'), (6, zU b_17'), (7, zB ok_5')] _ ?_)
        refine a7 (fun _ hK_108' => ?_)
        refine a7 (fun _ hK_109' => ?_)
        refine a6 ?_
        refine wm ?_
        refine wv (OV.not rfl) ?_
        refine WL.nil ?_
        refine kg (hK_109' [(0, zP b), (3, zI s_1), (4, w_16'), (6, zU b_17'), (81, zB (!ok_5'))] _ ?_)
        refine b5 (b := !ok_5') rfl (fun hb => ?_) (fun hb => ?_)
        ·replace h := e8 h hb
         refine a7 (fun _ hK_110' => ?_)
         refine a6 ?_
         refine wm ?_
         refine wm ?_
         refine wv (OV.nilCheck rfl) ?_
         refine wv (OV.fieldAddr0 rfl c6) ?_
         refine wv (OV.load rfl (At.own 0 rfl) rfl a8) ?_
         refine WL.call abc rfl (abd b s_0 at0_5' w s_3 s_4 s_5 50 at0_5') rfl trivial rfl rfl ?_
         refine wA ?_
         refine WL.nil ?_
         refine kg (hK_110' [(2, zB false)] _ ?_)
         refine b8 ?_
         exact hE.ret [0, 2] rfl rfl (.inl ⟨_, _, _, _, _, _, _, _, h, rfl⟩) (d7.of1 rfl (RV.tmp rfl))
        ·replace h := e9 h hb
         refine b6 ?_
         refine kg (hK_108' [(0, zP b), (3, zI s_1), (4, w_16'), (6, zU b_17')] _ ?_)
         refine a6 ?_
         refine wm ?_
         refine wm ?_
         refine WL.make (MV.buildSlice (cs := [zU b_17']) rfl j6 (by kernel_rfl)) rfl rfl rfl (fun b_18' => ?_)
         obtain ⟨o_44', h⟩ := h
         obtain ⟨o_45', h⟩ := h
         refine WL.append (f := k8) (ms := [(b_17').toNat.toUInt8]) 2 0 rfl rfl rfl rfl (al4 o_44') rfl w6 (by decide) rfl j6 x5 rfl o_45' rfl rfl (fun w_23' => ?_)
         refine wA ?_
         refine WL.nil ?_
         exact kh (hK_94' (w_23', l_3' ++ [(b_17').toNat.toUInt8], at0_5') h) [2, 1, 3]
      ·obtain ⟨b_17', ok_5', at0_5', hc, ho⟩ := hS
       cases ho
 ·replace h := e9 h hb
  refine l4 ?_
  refine kg (hK_3' [(0, zP b), (3, zI s_1)] _ ?_)
  refine a7 (fun _ hK_111' => ?_)
  refine a6 ?_
  refine wm ?_
  refine wm ?_
  refine WL.pick (H' := [HA.blk b (.cells [st s_0, zI s_1_4', w, zI s_3, zI s_4, st s_5].toArray 100 (0, 0)), HA.row w_16' 5 1 l_3'.length (l_3'.flatMap k8), HA.row w 102 3 sl.length (sl.flatMap e6)]) [1, 0, 2] rfl rfl ?_
  refine WL.call abc rfl (abd b s_0 s_1_4' w s_3 s_4 s_5 51 s_1) rfl trivial rfl rfl ?_
  refine wA ?_
  refine WL.nil ?_
  refine kg (hK_111' [(2, zB false)] _ ?_)
  refine b8 ?_
  exact hE.ret [0, 2] rfl rfl (.inl ⟨_, _, _, _, _, _, _, _, h, rfl⟩) (d7.of1 rfl (RV.tmp rfl))
def akn (s_0 : List UInt8) (s_1 : Int) (s_3 : Int) (s_4 : Int) (s_5 : List UInt8) (sl : List Tok) (K : Bool → (List UInt8) → Int → Int → Int → (List UInt8) → (List Tok) → Prop) : Prop :=
 (I64 (s_1 + 1)) ∧
 ∃ (Inv : Int → Prop) (mu : Int → Nat),
  Inv (s_1 + 1) ∧ ∀ (s_1_4' : Int), Inv s_1_4' →
   (if (!(decide (s_0.length ≤ s_1_4'))) = true then
    (0 ≤ s_1_4' ∧ s_1_4' < s_0.length) ∧
    ∃ (J0_2' : Int → Int → Prop),
     (∀ (c_2' : Int) (s_1_5' : Int), J0_2' c_2' s_1_5' →
      (if (!(m9 c_2')) = true then
       K false s_0 s_1_5' 50 s_1_5' [] sl
      else
       (if (decide (c_2' = 47)) = true then
        (I64 (s_1_5' + 1)) ∧
        (I64 (s_1 + 1)) ∧
        (I64 ((s_1_5' + 1) - 1)) ∧
        (0 ≤ (s_1 + 1) ∧ (s_1 + 1) ≤ ((s_1_5' + 1) - 1) ∧ ((s_1_5' + 1) - 1) ≤ s_0.length) ∧
        (sl.length ≤ 4096) ∧
        (
         K true s_0 (s_1_5' + 1) s_3 s_4 s_5 (sl ++ [((3 : Int), s_1, (s_0.drop (s_1 + 1).toNat).take (((s_1_5' + 1) - 1).toNat - (s_1 + 1).toNat))]))
       else
        (I64 (s_1_5' + 1)) ∧
        Inv (s_1_5' + 1) ∧ mu (s_1_5' + 1) < mu s_1_4'))) ∧
     ((decide (((s_0.getD s_1_4'.toNat 0).toNat : Int) = 92)) = true → (I64 (s_1_4' + 1))) ∧
     (if ((decide (((s_0.getD s_1_4'.toNat 0).toNat : Int) = 92)) && (decide (s_1_4' + 1 < (s_0.length : Int)))) = true then
      (I64 (s_1_4' + 1)) ∧
      (0 ≤ (s_1_4' + 1) ∧ (s_1_4' + 1) < s_0.length) ∧
      (if (!(m9 ((s_0.getD (s_1_4' + 1).toNat 0).toNat : Int))) = true then
       K false s_0 (s_1_4' + 1) 50 (s_1_4' + 1) [] sl
      else
       J0_2' 32 (s_1_4' + 1))
     else
      J0_2' ((s_0.getD s_1_4'.toNat 0).toNat : Int) s_1_4')
   else
    K false s_0 s_1_4' 52 s_1 [] sl)
theorem au9 (b : Nat) (w : Value) (s_0 : List UInt8) (s_1 : Int) (s_3 : Int) (s_4 : Int) (s_5 : List UInt8) (sl : List Tok) (K : Bool → (List UInt8) → Int → Int → Int → (List UInt8) → (List Tok) → Prop) (h : akn s_0 s_1 s_3 s_4 s_5 sl K) :
  d9 Tryd.prog 62 [zP b] [] [HA.blk b (.cells [st s_0, zI s_1, w, zI s_3, zI s_4, st s_5].toArray 100 (0, 0)), HA.row w 102 3 sl.length (sl.flatMap e6)] (fun o => (∃ (v : Bool) (d_1' : List UInt8) (d_2' : Int) (d_3' : Int) (d_4' : Int) (d_5' : List UInt8) (w_4' : Value) (d : List Tok), K v d_1' d_2' d_3' d_4' d_5' d ∧ o = .ret (zB v) [HA.blk b (.cells [st d_1', zI d_2', w_4', zI d_3', zI d_4', st d_5'].toArray 100 (0, 0)), HA.row w_4' 102 3 d.length (d.flatMap e6)]) ∨ (False)) := by
 unfold akn at h
 refine c8 (n := 112) (L0 := [(0, zP b)]) Tryd.func62 rfl rfl rfl rfl (fun w0 M Q hE => ?_)
 refine a7 (fun _ hK => ?_)
 refine a6 ?_
 refine wA ?_
 refine WL.nil ?_
 refine kg (hK [(0, zP b)] _ ?_)
 refine a7 (fun _ hK_1' => ?_)
 refine a6 ?_
 refine wm ?_
 refine wv (OV.nilCheck rfl) ?_
 refine wv (OV.fieldAddr0 rfl c6) ?_
 refine wv (OV.load rfl (At.own 0 rfl) rfl a8) ?_
 refine wA ?_
 refine WL.nil ?_
 refine kg (hK_1' [(0, zP b), (3, zI s_1)] _ ?_)
 refine a7 (fun _ hK_2' => ?_)
 refine a7 (fun _ hK_3' => ?_)
 refine a6 ?_
 refine wm ?_
 refine wv (OV.nilCheck rfl) ?_
 refine wv (OV.fieldAddr0 rfl c6) ?_
 refine wv (OV.load rfl (At.own 0 rfl) rfl a8) ?_
 obtain ⟨o, h⟩ := h
 refine wv (OV.add rfl rfl o) ?_
 refine wv (OV.nilCheck rfl) ?_
 refine wv (OV.fieldAddr0 rfl c6) ?_
 refine WL.store (vs := [zI (s_1 + 1)]) (cs' := [st s_0, zI (s_1 + 1), w, zI s_3, zI s_4, st s_5]) 0 rfl rfl rfl rfl f9 (Nat.le_of_ble_eq_true rfl) rfl rfl rfl ?_
 refine WL.nil ?_
 refine kg (hK_3' [(0, zP b), (3, zI s_1)] _ ?_)
 refine b7 ?_
 obtain ⟨Inv, mu, h0, hr⟩ := h
 refine o7 (S := Int) (fun σ => Inv σ) (fun σ => mu σ) (fun σ => [(0, zP b), (3, zI s_1)]) (fun σ => [HA.blk b (.cells [st s_0, zI σ, w, zI s_3, zI s_4, st s_5].toArray 100 (0, 0)), HA.row w 102 3 sl.length (sl.flatMap e6)]) (s_1 + 1) h0 ⟨rfl, rfl, trivial⟩ rfl ?_
 rintro s_1_4' hi K0_48' hK_48'
 have h := hr s_1_4' hi
 show WC _ _ _ _ [(0, zP b), (3, zI s_1)] [HA.blk b (.cells [st s_0, zI s_1_4', w, zI s_3, zI s_4, st s_5].toArray 100 (0, 0)), HA.row w 102 3 sl.length (sl.flatMap e6)]
 refine a7 (fun _ hK_49' => ?_)
 refine a7 (fun _ hK_50' => ?_)
 refine a6 ?_
 refine wm ?_
 refine WL.call (A := []) aav rfl (aab b s_0 s_1_4' w s_3 s_4 s_5) rfl ⟨.inl ⟨0, rfl⟩, trivial⟩ rfl rfl ?_
 refine wv (OV.not rfl) ?_
 refine WL.nil ?_
 refine kg (hK_50' [(0, zP b), (3, zI s_1), (18, zB (!(decide (s_0.length ≤ s_1_4'))))] _ ?_)
 refine b5 (b := !(decide (s_0.length ≤ s_1_4'))) rfl (fun hb => ?_) (fun hb => ?_)
 ·replace h := e8 h hb
  refine b6 ?_
  refine kg (hK_49' [(0, zP b), (3, zI s_1)] _ ?_)
  refine a7 (fun _ hK_51' => ?_)
  refine b7 ?_
  refine a7 (fun _ hK_52' => ?_)
  refine m0 8 [] f0 (by kernel_rfl) rfl (fun T_12' hT_12' => ?_)
  refine fv (fun _ => OV.move rfl) ?_
  refine fv (fun _ => OV.nilCheck rfl) ?_
  refine fv (fun _ => OV.fieldAddr0 rfl j7) ?_
  refine fv (fun _ => OV.load rfl (At.own 0 rfl) rfl c7) ?_
  refine fv (fun _ => OV.move rfl) ?_
  refine fv (fun _ => OV.nilCheck rfl) ?_
  refine fv (fun _ => OV.fieldAddr0 rfl c6) ?_
  refine fv (fun _ => OV.load rfl (At.own 0 rfl) rfl a8) ?_
  refine FL.weak (L' := fun γ => [(0, zP b), (3, zI s_1), (29, st s_0), (33, zI s_1_4')]) (fun γ => ⟨rfl, rfl, rfl, rfl, trivial⟩) (FL.nil (hT_12' (fun γ => [(0, zP b), (3, zI s_1), (29, st s_0), (33, zI s_1_4')]) (fun γ => ?_)))
  obtain ⟨o_31', h⟩ := h
  refine wv (OV.index rfl rfl c9 o_31') ?_
  refine wA ?_
  refine WL.nil ?_
  refine kg (hK_52' [(0, zP b), (3, zI s_1), (4, zU ((s_0.getD s_1_4'.toNat 0).toNat : Int))] _ ?_)
  obtain ⟨J0_2', hJ_2', h⟩ := h
  refine m5 (X := Int × Int) (fun σ => J0_2' σ.1 σ.2) (fun σ => [(0, zP b), (3, zI s_1), (4, zU σ.1)]) (fun σ => [HA.blk b (.cells [st s_0, zI σ.2, w, zI s_3, zI s_4, st s_5].toArray 100 (0, 0)), HA.row w 102 3 sl.length (sl.flatMap e6)]) ?_ (fun K0_59' hK_59' => ?_)
  ·rintro ⟨c_2', s_1_5'⟩ hj
   replace h := hJ_2' c_2' s_1_5' hj
   show WC _ _ _ _ [(0, zP b), (3, zI s_1), (4, zU c_2')] [HA.blk b (.cells [st s_0, zI s_1_5', w, zI s_3, zI s_4, st s_5].toArray 100 (0, 0)), HA.row w 102 3 sl.length (sl.flatMap e6)]
   refine b7 ?_
   refine a7 (fun _ hK_60' => ?_)
   refine a6 ?_
   refine wm ?_
   refine WL.call (A := []) aio rfl (ab3 c_2') rfl trivial rfl rfl ?_
   refine wv (OV.not rfl) ?_
   refine wA ?_
   refine WL.nil ?_
   refine kg (hK_60' [(0, zP b), (3, zI s_1), (4, zU c_2'), (74, zB (!(m9 c_2')))] _ ?_)
   refine b5 (b := !(m9 c_2')) rfl (fun hb => ?_) (fun hb => ?_)
   ·replace h := e8 h hb
    refine a7 (fun _ hK_61' => ?_)
    refine a6 ?_
    refine wm ?_
    refine wm ?_
    refine wv (OV.nilCheck rfl) ?_
    refine wv (OV.fieldAddr0 rfl c6) ?_
    refine wv (OV.load rfl (At.own 0 rfl) rfl a8) ?_
    refine WL.call abc rfl (abd b s_0 s_1_5' w s_3 s_4 s_5 50 s_1_5') rfl trivial rfl rfl ?_
    refine wA ?_
    refine WL.nil ?_
    refine kg (hK_61' [(2, zB false)] _ ?_)
    refine b8 ?_
    exact hE.ret [0, 1] rfl rfl (.inl ⟨_, _, _, _, _, _, _, _, h, rfl⟩) (d7.of1 rfl (RV.tmp rfl))
   ·replace h := e9 h hb
    refine a7 (fun _ hK_62' => ?_)
    refine a6 ?_
    refine wm ?_
    refine wv (OV.eql rfl rfl) ?_
    refine wA ?_
    refine WL.nil ?_
    refine kg (hK_62' [(0, zP b), (3, zI s_1), (84, zB (decide (c_2' = 47)))] _ ?_)
    refine b5 (b := decide (c_2' = 47)) rfl (fun hb => ?_) (fun hb => ?_)
    ·replace h := e8 h hb
     refine a7 (fun _ hK_63' => ?_)
     refine a6 ?_
     refine wm ?_
     refine wv (OV.nilCheck rfl) ?_
     refine wv (OV.fieldAddr0 rfl c6) ?_
     refine wv (OV.load rfl (At.own 0 rfl) rfl a8) ?_
     obtain ⟨o_36', h⟩ := h
     refine wv (OV.add rfl rfl o_36') ?_
     refine wv (OV.nilCheck rfl) ?_
     refine wv (OV.fieldAddr0 rfl c6) ?_
     refine WL.store (vs := [zI (s_1_5' + 1)]) (cs' := [st s_0, zI (s_1_5' + 1), w, zI s_3, zI s_4, st s_5]) 0 rfl rfl rfl rfl f9 (Nat.le_of_ble_eq_true rfl) rfl rfl rfl ?_
     refine WL.nil ?_
     refine kg (hK_63' [(0, zP b), (3, zI s_1)] _ ?_)
     refine a7 (fun _ hK_64' => ?_)
     refine m0 14 [] f0 (by kernel_rfl) rfl (fun T_15' hT_15' => ?_)
     refine fv (fun _ => OV.move rfl) ?_
     refine fv (fun _ => OV.move rfl) ?_
     refine fv (fun _ => OV.move rfl) ?_
     refine fv (fun _ => OV.nilCheck rfl) ?_
     refine fv (fun _ => OV.fieldAddr0 rfl j7) ?_
     refine fv (fun _ => OV.load rfl (At.own 0 rfl) rfl c7) ?_
     refine fv (fun _ => OV.move rfl) ?_
     obtain ⟨o_37', h⟩ := h
     refine fv (fun _ => OV.add rfl rfl o_37') ?_
     refine fv (fun _ => OV.move rfl) ?_
     refine fv (fun _ => OV.nilCheck rfl) ?_
     refine fv (fun _ => OV.fieldAddr0 rfl c6) ?_
     refine fv (fun _ => OV.load rfl (At.own 0 rfl) rfl a8) ?_
     obtain ⟨o_38', h⟩ := h
     refine fv (fun _ => OV.sub rfl rfl o_38') ?_
     obtain ⟨o_39', h⟩ := h
     refine fv (fun _ => OV.sliceS rfl rfl rfl c9 o_39') ?_
     refine FL.weak (L' := fun γ => [(94, zP b), (95, zI s_1), (107, st ((s_0.drop (s_1 + 1).toNat).take (((s_1_5' + 1) - 1).toNat - (s_1 + 1).toNat)))]) (fun γ => ⟨rfl, rfl, rfl, trivial⟩) (FL.nil (hT_15' (fun γ => [(94, zP b), (95, zI s_1), (107, st ((s_0.drop (s_1 + 1).toNat).take (((s_1_5' + 1) - 1).toNat - (s_1 + 1).toNat)))]) (fun γ => ?_)))
     obtain ⟨o_40', h⟩ := h
     refine WL.callS ada rfl (aet b s_0 (s_1_5' + 1) w s_3 s_4 s_5 sl 3 s_1 ((s_0.drop (s_1 + 1).toNat).take (((s_1_5' + 1) - 1).toNat - (s_1 + 1).toNat)) o_40') rfl trivial rfl rfl (fun r H' hS => ?_) (fun c H' hS => ?_)
     ·obtain ⟨w_3', ho⟩ := hS
      cases ho
      refine wA ?_
      refine WL.nil ?_
      refine kg (hK_64' [(2, zB true)] _ ?_)
      refine b8 ?_
      exact hE.ret [0, 1] rfl rfl (.inl ⟨_, _, _, _, _, _, _, _, h, rfl⟩) (d7.of1 rfl (RV.tmp rfl))
     ·obtain ⟨w_3', ho⟩ := hS
      cases ho
    ·replace h := e9 h hb
     refine b6 ?_
     refine kg (hK_51' [(0, zP b), (3, zI s_1)] _ ?_)
     refine a6 ?_
     refine wm ?_
     refine wv (OV.nilCheck rfl) ?_
     refine wv (OV.fieldAddr0 rfl c6) ?_
     refine wv (OV.load rfl (At.own 0 rfl) rfl a8) ?_
     obtain ⟨o_41', h⟩ := h
     refine wv (OV.add rfl rfl o_41') ?_
     refine wv (OV.nilCheck rfl) ?_
     refine wv (OV.fieldAddr0 rfl c6) ?_
     refine WL.store (vs := [zI (s_1_5' + 1)]) (cs' := [st s_0, zI (s_1_5' + 1), w, zI s_3, zI s_4, st s_5]) 0 rfl rfl rfl rfl f9 (Nat.le_of_ble_eq_true rfl) rfl rfl rfl ?_
     refine WL.nil ?_
     exact kh (hK_48' (s_1_5' + 1) h.1 h.2) [0, 1]
  ·skip
   refine a7 (fun _ hK_65' => ?_)
   refine l8 [] f0 (by kernel_rfl) rfl (fun T_16' hT_16' => ?_)
   refine fv (fun _ => OV.move rfl) ?_
   refine fv (fun _ => OV.eql rfl rfl) ?_
   refine fv (fun _ => OV.move rfl) ?_
   obtain ⟨o_43', h⟩ := h
   refine FL.cut 12 rfl (fun _ => [(0, zP b), (3, zI s_1), (4, zU ((s_0.getD s_1_4'.toNat 0).toNat : Int)), (49, zB ((decide (((s_0.getD s_1_4'.toNat 0).toNat : Int) = 92)) && (decide (s_1_4' + 1 < (s_0.length : Int)))))]) ?_ (fun K0_66' hK_66' => ?_)
   rotate_left
   ·refine FL.split (decide (((s_0.getD s_1_4'.toNat 0).toNat : Int) = 92)) (fun hb => ?_) (fun hb => ?_)
    ·have o_42' := o_43' hb
     refine FL.set 37 (fun _ => rfl) (congrArg zB hb) ?_
     refine fv (fun _ => OV.move rfl) ?_
     refine fv (fun _ => OV.nilCheck rfl) ?_
     refine fv (fun _ => OV.fieldAddr0 rfl c6) ?_
     refine fv (fun _ => OV.load rfl (At.own 0 rfl) rfl a8) ?_
     refine fv (fun _ => OV.add rfl rfl o_42') ?_
     refine fv (fun _ => OV.move rfl) ?_
     refine fv (fun _ => OV.nilCheck rfl) ?_
     refine fv (fun _ => OV.fieldAddr0 rfl j7) ?_
     refine fv (fun _ => OV.load rfl (At.own 0 rfl) rfl c7) ?_
     refine fv (fun _ => OV.len rfl c9) ?_
     refine fv (fun _ => OV.lss rfl rfl) ?_
     refine fv (fun _ => OV.pickT rfl rfl) ?_
     refine FL.set 49 (fun _ => rfl) (bT (v := decide (s_1_4' + 1 < (s_0.length : Int))) hb) ?_
     exact FL.weak (L' := fun _ => [(0, zP b), (3, zI s_1), (4, zU ((s_0.getD s_1_4'.toNat 0).toNat : Int)), (49, zB ((decide (((s_0.getD s_1_4'.toNat 0).toNat : Int) = 92)) && (decide (s_1_4' + 1 < (s_0.length : Int)))))]) (fun _ => ⟨rfl, rfl, rfl, rfl, trivial⟩) (FL.nil hK_66')
    ·refine FL.set 37 (fun _ => rfl) (congrArg zB hb) ?_
     refine FL.skip rfl (fun _ => rfl) rfl rfl ?_
     refine FL.skip rfl (fun _ => rfl) rfl rfl ?_
     refine FL.skip rfl (fun _ => rfl) rfl rfl ?_
     refine FL.skip rfl (fun _ => rfl) rfl rfl ?_
     refine FL.skip rfl (fun _ => rfl) rfl rfl ?_
     refine FL.skip rfl (fun _ => rfl) rfl rfl ?_
     refine FL.skip rfl (fun _ => rfl) rfl rfl ?_
     refine FL.skip rfl (fun _ => rfl) rfl rfl ?_
     refine FL.skip rfl (fun _ => rfl) rfl rfl ?_
     refine FL.skip rfl (fun _ => rfl) rfl rfl ?_
     refine FL.skip rfl (fun _ => rfl) rfl rfl ?_
     refine fv (fun _ => OV.pickF rfl rfl) ?_
     refine FL.set 49 (fun _ => rfl) (bF (v := decide (s_1_4' + 1 < (s_0.length : Int))) hb) ?_
     exact FL.weak (L' := fun _ => [(0, zP b), (3, zI s_1), (4, zU ((s_0.getD s_1_4'.toNat 0).toNat : Int)), (49, zB ((decide (((s_0.getD s_1_4'.toNat 0).toNat : Int) = 92)) && (decide (s_1_4' + 1 < (s_0.length : Int)))))]) (fun _ => ⟨rfl, rfl, rfl, rfl, trivial⟩) (FL.nil hK_66')
   refine FL.weak (L' := fun _ => [(0, zP b), (3, zI s_1), (4, zU ((s_0.getD s_1_4'.toNat 0).toNat : Int)), (49, zB ((decide (((s_0.getD s_1_4'.toNat 0).toNat : Int) = 92)) && (decide (s_1_4' + 1 < (s_0.length : Int)))))]) (fun _ => ⟨rfl, rfl, rfl, rfl, trivial⟩) (FL.nil (hT_16' (fun _ => [(0, zP b), (3, zI s_1), (4, zU ((s_0.getD s_1_4'.toNat 0).toNat : Int)), (49, zB ((decide (((s_0.getD s_1_4'.toNat 0).toNat : Int) = 92)) && (decide (s_1_4' + 1 < (s_0.length : Int)))))]) (fun _ => ?_)))
   refine kg (hK_65' [(0, zP b), (3, zI s_1), (4, zU ((s_0.getD s_1_4'.toNat 0).toNat : Int)), (49, zB ((decide (((s_0.getD s_1_4'.toNat 0).toNat : Int) = 92)) && (decide (s_1_4' + 1 < (s_0.length : Int)))))] _ ?_)
   refine b5 (b := (decide (((s_0.getD s_1_4'.toNat 0).toNat : Int) = 92)) && (decide (s_1_4' + 1 < (s_0.length : Int)))) rfl (fun hb => ?_) (fun hb => ?_)
   ·replace h := e8 h hb
    refine a7 (fun _ hK_67' => ?_)
    refine a6 ?_
    refine wm ?_
    refine wv (OV.nilCheck rfl) ?_
    refine wv (OV.fieldAddr0 rfl c6) ?_
    refine wv (OV.load rfl (At.own 0 rfl) rfl a8) ?_
    obtain ⟨o_44', h⟩ := h
    refine wv (OV.add rfl rfl o_44') ?_
    refine wv (OV.nilCheck rfl) ?_
    refine wv (OV.fieldAddr0 rfl c6) ?_
    refine WL.store (vs := [zI (s_1_4' + 1)]) (cs' := [st s_0, zI (s_1_4' + 1), w, zI s_3, zI s_4, st s_5]) 0 rfl rfl rfl rfl f9 (Nat.le_of_ble_eq_true rfl) rfl rfl rfl ?_
    refine WL.nil ?_
    refine kg (hK_67' [(0, zP b), (3, zI s_1)] _ ?_)
    refine a7 (fun _ hK_68' => ?_)
    refine a6 ?_
    refine wA ?_
    refine WL.nil ?_
    refine kg (hK_68' [(0, zP b), (3, zI s_1), (4, zU 32)] _ ?_)
    refine a7 (fun _ hK_69' => ?_)
    refine m0 8 [] f0 (by kernel_rfl) rfl (fun T_17' hT_17' => ?_)
    refine fv (fun _ => OV.move rfl) ?_
    refine fv (fun _ => OV.nilCheck rfl) ?_
    refine fv (fun _ => OV.fieldAddr0 rfl j7) ?_
    refine fv (fun _ => OV.load rfl (At.own 0 rfl) rfl c7) ?_
    refine fv (fun _ => OV.move rfl) ?_
    refine fv (fun _ => OV.nilCheck rfl) ?_
    refine fv (fun _ => OV.fieldAddr0 rfl c6) ?_
    refine fv (fun _ => OV.load rfl (At.own 0 rfl) rfl a8) ?_
    refine FL.weak (L' := fun γ => [(0, zP b), (3, zI s_1), (4, zU 32), (60, st s_0), (64, zI (s_1_4' + 1))]) (fun γ => ⟨rfl, rfl, rfl, rfl, rfl, trivial⟩) (FL.nil (hT_17' (fun γ => [(0, zP b), (3, zI s_1), (4, zU 32), (60, st s_0), (64, zI (s_1_4' + 1))]) (fun γ => ?_)))
    obtain ⟨o_45', h⟩ := h
    refine wv (OV.index rfl rfl c9 o_45') ?_
    refine WL.call (A := []) aio rfl (ab3 ((s_0.getD (s_1_4' + 1).toNat 0).toNat : Int)) rfl trivial rfl rfl ?_
    refine wv (OV.not rfl) ?_
    refine WL.nil ?_
    refine kg (hK_69' [(0, zP b), (3, zI s_1), (4, zU 32), (67, zB (!(m9 ((s_0.getD (s_1_4' + 1).toNat 0).toNat : Int))))] _ ?_)
    refine b5 (b := !(m9 ((s_0.getD (s_1_4' + 1).toNat 0).toNat : Int))) rfl (fun hb => ?_) (fun hb => ?_)
    ·replace h := e8 h hb
     refine a7 (fun _ hK_70' => ?_)
     refine a6 ?_
     refine wm ?_
     refine wm ?_
     refine wv (OV.nilCheck rfl) ?_
     refine wv (OV.fieldAddr0 rfl c6) ?_
     refine wv (OV.load rfl (At.own 0 rfl) rfl a8) ?_
     refine WL.call abc rfl (abd b s_0 (s_1_4' + 1) w s_3 s_4 s_5 50 (s_1_4' + 1)) rfl trivial rfl rfl ?_
     refine wA ?_
     refine WL.nil ?_
     refine kg (hK_70' [(2, zB false)] _ ?_)
     refine b8 ?_
     exact hE.ret [0, 1] rfl rfl (.inl ⟨_, _, _, _, _, _, _, _, h, rfl⟩) (d7.of1 rfl (RV.tmp rfl))
    ·replace h := e9 h hb
     refine b6 ?_
     exact kh (hK_59' (32, s_1_4' + 1) h) [0, 1]
   ·replace h := e9 h hb
    refine b6 ?_
    exact kh (hK_59' (((s_0.getD s_1_4'.toNat 0).toNat : Int), s_1_4') h) [0, 1]
 ·replace h := e9 h hb
  refine l4 ?_
  refine kg (hK_2' [(0, zP b), (3, zI s_1)] _ ?_)
  refine a7 (fun _ hK_71' => ?_)
  refine a6 ?_
  refine wm ?_
  refine wm ?_
  refine WL.call abc rfl (abd b s_0 s_1_4' w s_3 s_4 s_5 52 s_1) rfl trivial rfl rfl ?_
  refine wA ?_
  refine WL.nil ?_
  refine kg (hK_71' [(2, zB false)] _ ?_)
  refine b8 ?_
  exact hE.ret [0, 1] rfl rfl (.inl ⟨_, _, _, _, _, _, _, _, h, rfl⟩) (d7.of1 rfl (RV.tmp rfl))
def au0 (b : Nat) (t : List UInt8) (l : List Tok) (fc fa : Int) (ft : List UInt8) (m : Except (Int × Int) (Tok × Int)) : Out → Prop := fun o =>
 ∃ (w' : Value) (ok : Bool) (q : Int) (l' : List Tok) (c x : Int) (y : List UInt8), anw m t l fc fa ft ok q l' c x y ∧ o = .ret (.bool ok) [.blk b (scB t q w' c x y), aho w' l']
theorem ao7 (b : Nat) (t : List UInt8) (a : Int) (w : Value) (fc fa : Int) (ft : List UInt8) (l : List Tok) (h : 0 ≤ a ∧ a < t.length ∧ t.length ≤ 4096 ∧ l.length ≤ 4096) :
  d9 Tryd.prog 61 [.pointer (some ⟨b, 0, none⟩)] [] [.blk b (scB t a w fc fa ft), aho w l] (au0 b t l fc fa ft (y5 t a)) := by
 refine (ati b w t a fc fa ft l (fun ok t' q c x y l' => t' = t ∧ anw (y5 t a) t l fc fa ft ok q l' c x y) ?_).weak ?_
 ·unfold ajb
  have eb : ∀ i : Int, ((t.getD i.toNat 0).toNat : Int) = bt t i := fun _ => rfl
  have eb2 : ∀ i : Int, t.getD i.toNat 0 = (bt t i).toNat.toUInt8 := fun i => by unfold bt; simp
  simp only [eb, true_and]
  refine ⟨⟨by omega, by omega⟩, fun out k => a < k ∧ k ≤ t.length + 1 ∧ out.length ≤ k ∧ ∃ n, (t.length + 1 - k).toNat < n ∧ k7 t a (t.length + 1) [] (a + 1) = k7 t a n out k, fun _ k => (t.length + 1 - k).toNat, ⟨by omega, by omega, by simp; omega, t.length + 1, by omega, rfl⟩, ?_⟩
  rintro out k ⟨k0, k1, k2, n, hn, hF⟩
  obtain ⟨n, rfl⟩ : ∃ m, n = m + 1 := ⟨n - 1, by omega⟩
  have hM : ∀ r, k7 t a (n + 1) out k = r → y5 t a = (match r with | .ok (x, q) => .ok ((2, a, x), q) | .error e => .error e) := fun r hr => by unfold y5; rw [hF, hr]; rfl
  by_cases hk : k < t.length
  ·rw [if_pos (by simp; omega)]
   have hr : out.length ≤ 4096 := by omega
   refine ⟨fun out' q => k ≤ q ∧ q < t.length ∧ out'.length ≤ k + 1 ∧ k7 t a (n + 1) out k = k7 t a n out' (q + 1), fun out' q hq => ⟨⟨by omega, by omega⟩, ⟨by omega, by omega, by omega, n, by omega, by rw [hF]; exact hq.2.2.2⟩, by show (t.length + 1 - (q + 1)).toNat < (t.length + 1 - k).toNat; omega⟩, ⟨by omega, hk⟩, ?_⟩
   by_cases e1 : bt t k = 34
   ·rw [if_pos (by simpa using e1)]
    refine ⟨⟨by omega, by omega⟩, h.2.2.2, ?_⟩
    have := hM (.ok (out, k + 1)) (by rw [k7, if_pos hk, if_pos e1])
    rw [this]
    exact ⟨rfl, rfl, rfl, rfl, rfl, rfl⟩
   ·rw [if_neg (by simpa using e1)]
    by_cases e2 : m9 (bt t k) = true
    ·rw [if_neg (by simp [e2])]
     by_cases e3 : bt t k = 92
     ·rw [if_neg (by simp [e3])]
      refine ⟨⟨by omega, hk, h.2.2.1⟩, fun c ok q he => ?_⟩
      have hq := aqo he
      by_cases e4 : (t.length : Int) ≤ q
      ·rw [if_pos (by simpa using e4)]
       rw [hM (.error (51, a)) (by rw [k7, if_pos hk, if_neg e1, if_neg (by simp [e2]), if_neg (by simp [e3]), he, if_pos e4])]
       exact ⟨rfl, rfl, rfl, rfl, rfl⟩
      ·rw [if_neg (by simpa using e4)]
       cases ok
       ·rw [hM (.error (50, q)) (by rw [k7, if_pos hk, if_neg e1, if_neg (by simp [e2]), if_neg (by simp [e3]), he, if_neg e4, if_pos rfl])]
        exact ⟨rfl, rfl, rfl, rfl, rfl⟩
       ·refine ⟨⟨hq.2.2.1, hq.2.2.2.1⟩, ⟨by omega, by omega⟩, by omega, by omega, by simp; omega, ?_⟩
        rw [k7, if_pos hk, if_neg e1, if_neg (by simp [e2]), if_neg (by simp [e3]), he, if_neg e4, if_neg (by simp)]
     ·rw [if_pos (by simpa using e3)]
      refine ⟨⟨by omega, by omega⟩, by omega, hk, by simp; omega, ?_⟩
      rw [k7, if_pos hk, if_neg e1, if_neg (by simp [e2]), if_pos e3, eb2 k]
    ·rw [if_pos (by simpa using e2)]
     rw [hM (.error (50, k)) (by rw [k7, if_pos hk, if_neg e1, if_pos (by simpa using e2)])]
     exact ⟨rfl, rfl, rfl, rfl, rfl⟩
  ·rw [if_neg (by simp; omega)]
   rw [hM (.error (51, a)) (by rw [k7, if_neg hk])]
   exact ⟨rfl, rfl, rfl, rfl, rfl⟩
 ·rintro o (⟨ok, t', q, c, x, y, w', l', ⟨rfl, hT⟩, rfl⟩ | h)
  ·exact ⟨w', ok, q, l', c, x, y, hT, rfl⟩
  ·exact h.elim
theorem aqd (b : Nat) (t : List UInt8) (a : Int) (w : Value) (fc fa : Int) (ft : List UInt8) (l : List Tok) (h : 0 ≤ a ∧ a < t.length ∧ t.length ≤ 4096 ∧ l.length ≤ 4096) :
  d9 Tryd.prog 62 [.pointer (some ⟨b, 0, none⟩)] [] [.blk b (scB t a w fc fa ft), aho w l] (au0 b t l fc fa ft (aa6 t a)) := by
 refine (au9 b w t a fc fa ft l (fun ok t' q c x y l' => t' = t ∧ anw (aa6 t a) t l fc fa ft ok q l' c x y) ?_).weak ?_
 ·unfold akn
  have eb : ∀ i : Int, ((t.getD i.toNat 0).toNat : Int) = bt t i := fun _ => rfl
  simp only [eb, true_and]
  refine ⟨⟨by omega, by omega⟩, fun k => a < k ∧ k ≤ t.length + 1 ∧ ∃ n, (t.length + 1 - k).toNat < n ∧ n7 t a (t.length + 1) (a + 1) = n7 t a n k, fun k => (t.length + 1 - k).toNat, ⟨by omega, by omega, t.length + 1, by omega, rfl⟩, ?_⟩
  rintro k ⟨k0, k1, n, hn, hF⟩
  obtain ⟨n, rfl⟩ : ∃ m, n = m + 1 := ⟨n - 1, by omega⟩
  have hM : ∀ r, n7 t a (n + 1) k = r → aa6 t a = (match r with | .ok (x, q) => .ok ((3, a, x), q) | .error e => .error e) := fun r hr => by unfold aa6; rw [hF, hr]; rfl
  by_cases hk : k < t.length
  ·rw [if_pos (by simp; omega)]
   refine ⟨⟨by omega, hk⟩, fun c q => k ≤ q ∧ q < t.length ∧ n7 t a (n + 1) k = if m9 c = false then .error (50, q) else if c = 47 then .ok (cut t (a + 1) q, q + 1) else n7 t a n (q + 1), fun c q hq => ?_, fun _ => ⟨by omega, by omega⟩, ?_⟩
   ·obtain ⟨q0, q1, hR⟩ := hq
    by_cases e1 : m9 c = true
    ·rw [if_neg (by simp [e1])]
     rw [if_neg (by simp [e1])] at hR
     by_cases e2 : c = 47
     ·rw [if_pos (by simpa using e2)]
      rw [if_pos e2] at hR
      refine ⟨⟨by omega, by omega⟩, ⟨by omega, by omega⟩, ⟨by omega, by omega⟩, ⟨by omega, by omega, by omega⟩, h.2.2.2, ?_⟩
      rw [hM _ hR, show q + 1 - 1 = q by omega]
      exact ⟨rfl, rfl, rfl, rfl, rfl, rfl⟩
     ·rw [if_neg (by simpa using e2)]
      rw [if_neg e2] at hR
      exact ⟨⟨by omega, by omega⟩, ⟨by omega, by omega, n, by omega, by rw [hF, hR]⟩, by show (t.length + 1 - (q + 1)).toNat < (t.length + 1 - k).toNat; omega⟩
    ·rw [if_pos (by simpa using e1)]
     rw [if_pos (by simpa using e1)] at hR
     rw [hM _ hR]
     exact ⟨rfl, rfl, rfl, rfl, rfl⟩
   ·by_cases e1 : bt t k = 92 ∧ k + 1 < t.length
    ·rw [if_pos (by simpa using e1)]
     refine ⟨⟨by omega, by omega⟩, ⟨by omega, e1.2⟩, ?_⟩
     by_cases e2 : m9 (bt t (k + 1)) = true
     ·rw [if_neg (by simp [e2])]
      refine ⟨by omega, e1.2, ?_⟩
      rw [n7, if_pos hk, if_pos e1, if_neg (by simp [e2]), if_neg (by decide), if_neg (by decide), show k + 1 + 1 = k + 2 by omega]
     ·rw [if_pos (by simpa using e2)]
      rw [hM (.error (50, k + 1)) (by rw [n7, if_pos hk, if_pos e1, if_pos (by simpa using e2)])]
      exact ⟨rfl, rfl, rfl, rfl, rfl⟩
    ·rw [if_neg (by simpa using e1)]
     refine ⟨Int.le_refl _, hk, ?_⟩
     rw [n7, if_pos hk, if_neg e1]
  ·rw [if_neg (by simp; omega)]
   rw [hM (.error (52, a)) (by rw [n7, if_neg hk])]
   exact ⟨rfl, rfl, rfl, rfl, rfl⟩
 ·rintro o (⟨ok, t', q, c, x, y, w', l', ⟨rfl, hT⟩, rfl⟩ | h)
  ·exact ⟨w', ok, q, l', c, x, y, hT, rfl⟩
  ·exact h.elim
end Go.Proofs.YtifajndacnfcbaaDoor
set_option maxRecDepth 100000
namespace Go.Proofs.YtifajndacnfcbaaDoor
open Go Go.RowKit
theorem ams : k9 Tryd.prog 58 = true := by kernel_rfl
theorem asb : k9 Tryd.prog 59 = true := by kernel_rfl
theorem asw : k9 Tryd.prog 61 = true := by kernel_rfl
theorem asa : k9 Tryd.prog 62 = true := by kernel_rfl
theorem as5 : k9 Tryd.prog 64 = true := by kernel_rfl
def aql (s_0 : List UInt8) (s_1 : Int) (s_3 : Int) (s_4 : Int) (s_5 : List UInt8) (sl : List Tok) (K : Bool → (List UInt8) → Int → Int → Int → (List UInt8) → (List Tok) → Prop) : Prop :=
 (0 ≤ s_1 ∧ s_1 < s_0.length) ∧
 (if (j5 ((s_0.getD s_1.toNat 0).toNat : Int)) = true then
  ∃ (Inv : Int → Prop) (mu : Int → Nat),
   Inv s_1 ∧ ∀ (s_1_2' : Int), Inv s_1_2' →
    ((!(decide (s_0.length ≤ s_1_2'))) = true → (0 ≤ s_1_2' ∧ s_1_2' < s_0.length) ∧ ((j5 ((s_0.getD s_1_2'.toNat 0).toNat : Int)) = false → (0 ≤ s_1_2' ∧ s_1_2' < s_0.length))) ∧
    (if ((!(decide (s_0.length ≤ s_1_2'))) && ((j5 ((s_0.getD s_1_2'.toNat 0).toNat : Int)) || (m8 ((s_0.getD s_1_2'.toNat 0).toNat : Int)))) = true then
     (I64 (s_1_2' + 1)) ∧
     Inv (s_1_2' + 1) ∧ mu (s_1_2' + 1) < mu s_1_2'
    else
     (I64 (s_1_2' - s_1)) ∧
     (if (decide (32 < s_1_2' - s_1)) = true then
      K false s_0 s_1_2' 1 s_1 [] sl
     else
      (0 ≤ s_1 ∧ s_1 ≤ s_1_2' ∧ s_1_2' ≤ s_0.length) ∧
      (sl.length ≤ 4096) ∧
      (
       K true s_0 s_1_2' s_3 s_4 s_5 (sl ++ [((1 : Int), s_1, (s_0.drop s_1.toNat).take (s_1_2'.toNat - s_1.toNat))]))))
 else
  (if (decide (((s_0.getD s_1.toNat 0).toNat : Int) = 34)) = true then
   (0 ≤ s_1 ∧ s_1 < s_0.length ∧ s_0.length ≤ 4096 ∧ sl.length ≤ 4096) ∧
   (∀ (ok : Bool) (at0 : Int) (l : List Tok) (fc : Int) (fa : Int) (ft : List UInt8), anw (y5 s_0 s_1) s_0 sl s_3 s_4 s_5 ok at0 l fc fa ft →
    K ok s_0 at0 fc fa ft l)
  else
   (if (decide (((s_0.getD s_1.toNat 0).toNat : Int) = 47)) = true then
    (0 ≤ s_1 ∧ s_1 < s_0.length ∧ s_0.length ≤ 4096 ∧ sl.length ≤ 4096) ∧
    (∀ (ok_1' : Bool) (at0_1' : Int) (l_1' : List Tok) (fc_1' : Int) (fa_1' : Int) (ft_1' : List UInt8), anw (aa6 s_0 s_1) s_0 sl s_3 s_4 s_5 ok_1' at0_1' l_1' fc_1' fa_1' ft_1' →
     K ok_1' s_0 at0_1' fc_1' fa_1' ft_1' l_1')
   else
    (if (decide (0 ≤ Lib.indexByte ([61, 59, 40, 41, 123, 125, 44, 124, 38, 45, 46, 126, 42, 43, 63] : List UInt8) (((s_0.getD s_1.toNat 0).toNat : Int)).toNat.toUInt8)) = true then
     (I64 (s_1 + 1)) ∧
     (0 ≤ s_1 ∧ s_1 ≤ (s_1 + 1) ∧ (s_1 + 1) ≤ s_0.length) ∧
     (sl.length ≤ 4096) ∧
     (
      K true s_0 (s_1 + 1) s_3 s_4 s_5 (sl ++ [((4 : Int), s_1, (s_0.drop s_1.toNat).take ((s_1 + 1).toNat - s_1.toNat))]))
    else
     (0 ≤ s_1 ∧ s_1 ≤ s_0.length) ∧
     (if (Lib.hasPrefix (s_0.drop s_1.toNat) ([62, 62] : List UInt8)) = true then
      (I64 (s_1 + 2)) ∧
      (sl.length ≤ 4096) ∧
      (
       K true s_0 (s_1 + 2) s_3 s_4 s_5 (sl ++ [((4 : Int), s_1, ([62, 62] : List UInt8))]))
     else
      K false s_0 s_1 50 s_1 [] sl)))))
theorem ax2 (b : Nat) (w : Value) (s_0 : List UInt8) (s_1 : Int) (s_3 : Int) (s_4 : Int) (s_5 : List UInt8) (sl : List Tok) (K : Bool → (List UInt8) → Int → Int → Int → (List UInt8) → (List Tok) → Prop) (h : aql s_0 s_1 s_3 s_4 s_5 sl K) :
  d9 Tryd.prog 36 [zP b] [] [HA.blk b (.cells [st s_0, zI s_1, w, zI s_3, zI s_4, st s_5].toArray 100 (0, 0)), HA.row w 102 3 sl.length (sl.flatMap e6)] (fun o => (∃ (v : Bool) (d_1' : List UInt8) (d_2' : Int) (d_3' : Int) (d_4' : Int) (d_5' : List UInt8) (w_6' : Value) (d : List Tok), K v d_1' d_2' d_3' d_4' d_5' d ∧ o = .ret (zB v) [HA.blk b (.cells [st d_1', zI d_2', w_6', zI d_3', zI d_4', st d_5'].toArray 100 (0, 0)), HA.row w_6' 102 3 d.length (d.flatMap e6)]) ∨ (False)) := by
 unfold aql at h
 refine c8 (n := 130) (L0 := [(0, zP b)]) Tryd.func36 rfl rfl rfl rfl (fun w0 M Q hE => ?_)
 refine a7 (fun _ hK => ?_)
 refine a6 ?_
 refine wA ?_
 refine WL.nil ?_
 refine kg (hK [(0, zP b)] _ ?_)
 refine a7 (fun _ hK_1' => ?_)
 refine a6 ?_
 refine wm ?_
 refine wv (OV.nilCheck rfl) ?_
 refine wv (OV.fieldAddr0 rfl c6) ?_
 refine wv (OV.load rfl (At.own 0 rfl) rfl a8) ?_
 refine wA ?_
 refine WL.nil ?_
 refine kg (hK_1' [(0, zP b), (3, zI s_1)] _ ?_)
 refine a7 (fun _ hK_2' => ?_)
 refine a7 (fun _ hK_3' => ?_)
 refine a6 ?_
 refine wm ?_
 refine wv (OV.nilCheck rfl) ?_
 refine wv (OV.fieldAddr0 rfl j7) ?_
 refine wv (OV.load rfl (At.own 0 rfl) rfl c7) ?_
 refine wm ?_
 obtain ⟨o, h⟩ := h
 refine wv (OV.index rfl rfl c9 o) ?_
 refine wA ?_
 refine WL.nil ?_
 refine kg (hK_3' [(0, zP b), (3, zI s_1), (4, zU ((s_0.getD s_1.toNat 0).toNat : Int))] _ ?_)
 refine b7 ?_
 refine a7 (fun _ hK_4' => ?_)
 refine a6 ?_
 refine wm ?_
 refine WL.call (A := []) ams rfl (afl ((s_0.getD s_1.toNat 0).toNat : Int)) rfl trivial rfl rfl ?_
 refine wA ?_
 refine WL.nil ?_
 refine kg (hK_4' [(0, zP b), (3, zI s_1), (4, zU ((s_0.getD s_1.toNat 0).toNat : Int)), (15, zB (j5 ((s_0.getD s_1.toNat 0).toNat : Int)))] _ ?_)
 refine b5 (b := j5 ((s_0.getD s_1.toNat 0).toNat : Int)) rfl (fun hb => ?_) (fun hb => ?_)
 ·replace h := e8 h hb
  refine a7 (fun _ hK_5' => ?_)
  refine b7 ?_
  obtain ⟨Inv, mu, h0, hr⟩ := h
  refine o7 (S := Int) (fun σ => Inv σ) (fun σ => mu σ) (fun σ => [(0, zP b), (3, zI s_1)]) (fun σ => [HA.blk b (.cells [st s_0, zI σ, w, zI s_3, zI s_4, st s_5].toArray 100 (0, 0)), HA.row w 102 3 sl.length (sl.flatMap e6)]) s_1 h0 ⟨rfl, rfl, trivial⟩ rfl ?_
  rintro s_1_2' hi K0_14' hK_14'
  have h := hr s_1_2' hi
  show WC _ _ _ _ [(0, zP b), (3, zI s_1)] [HA.blk b (.cells [st s_0, zI s_1_2', w, zI s_3, zI s_4, st s_5].toArray 100 (0, 0)), HA.row w 102 3 sl.length (sl.flatMap e6)]
  refine a7 (fun _ hK_15' => ?_)
  refine a7 (fun _ hK_16' => ?_)
  refine l8 [] f0 (by kernel_rfl) rfl (fun T_2' hT_2' => ?_)
  refine fv (fun _ => OV.move rfl) ?_
  refine FL.call aav (fun _ => rfl) (aab b s_0 s_1_2' w s_3 s_4 s_5) ⟨.inl ⟨0, rfl⟩, trivial⟩ rfl (fun _ => rfl) rfl ?_
  refine fv (fun _ => OV.not rfl) ?_
  refine fv (fun _ => OV.move rfl) ?_
  obtain ⟨o_14', h⟩ := h
  refine FL.cut 23 rfl (fun _ => [(0, zP b), (3, zI s_1), (44, zB ((!(decide (s_0.length ≤ s_1_2'))) && ((j5 ((s_0.getD s_1_2'.toNat 0).toNat : Int)) || (m8 ((s_0.getD s_1_2'.toNat 0).toNat : Int)))))]) ?_ (fun K0_18' hK_18' => ?_)
  rotate_left
  ·refine FL.split (!(decide (s_0.length ≤ s_1_2'))) (fun hb => ?_) (fun hb => ?_)
   ·obtain ⟨o_11', o_13'⟩ := o_14' hb
    refine FL.set 21 (fun _ => rfl) (congrArg zB hb) ?_
    refine fv (fun _ => OV.move rfl) ?_
    refine fv (fun _ => OV.nilCheck rfl) ?_
    refine fv (fun _ => OV.fieldAddr0 rfl j7) ?_
    refine fv (fun _ => OV.load rfl (At.own 0 rfl) rfl c7) ?_
    refine fv (fun _ => OV.move rfl) ?_
    refine fv (fun _ => OV.nilCheck rfl) ?_
    refine fv (fun _ => OV.fieldAddr0 rfl c6) ?_
    refine fv (fun _ => OV.load rfl (At.own 0 rfl) rfl a8) ?_
    refine fv (fun _ => OV.index rfl rfl c9 o_11') ?_
    refine FL.call ams (fun _ => rfl) (afl ((s_0.getD s_1_2'.toNat 0).toNat : Int)) trivial rfl (fun _ => rfl) rfl ?_
    refine fv (fun _ => OV.move rfl) ?_
    refine FL.cut 11 rfl (fun _ => [(0, zP b), (3, zI s_1), (21, zB true), (43, zB ((j5 ((s_0.getD s_1_2'.toNat 0).toNat : Int)) || (m8 ((s_0.getD s_1_2'.toNat 0).toNat : Int))))]) ?_ (fun K0_17' hK_17' => ?_)
    rotate_left
    ·refine FL.split (j5 ((s_0.getD s_1_2'.toNat 0).toNat : Int)) (fun hb => ?_) (fun hb => ?_)
     ·refine FL.set 32 (fun _ => rfl) (congrArg zB hb) ?_
      refine FL.skip rfl (fun _ => rfl) rfl rfl ?_
      refine FL.skip rfl (fun _ => rfl) rfl rfl ?_
      refine FL.skip rfl (fun _ => rfl) rfl rfl ?_
      refine FL.skip rfl (fun _ => rfl) rfl rfl ?_
      refine FL.skip rfl (fun _ => rfl) rfl rfl ?_
      refine FL.skip rfl (fun _ => rfl) rfl rfl ?_
      refine FL.skip rfl (fun _ => rfl) rfl rfl ?_
      refine FL.skip rfl (fun _ => rfl) rfl rfl ?_
      refine FL.skip rfl (fun _ => rfl) rfl rfl ?_
      refine FL.skip rfl (fun _ => rfl) rfl rfl ?_
      refine fv (fun _ => OV.pickT rfl rfl) ?_
      refine FL.set 43 (fun _ => rfl) (oT (v := m8 ((s_0.getD s_1_2'.toNat 0).toNat : Int)) hb) ?_
      exact FL.weak (L' := fun _ => [(0, zP b), (3, zI s_1), (21, zB true), (43, zB ((j5 ((s_0.getD s_1_2'.toNat 0).toNat : Int)) || (m8 ((s_0.getD s_1_2'.toNat 0).toNat : Int))))]) (fun _ => ⟨rfl, rfl, rfl, rfl, trivial⟩) (FL.nil hK_17')
     ·have o_12' := o_13' hb
      refine FL.set 32 (fun _ => rfl) (congrArg zB hb) ?_
      refine fv (fun _ => OV.move rfl) ?_
      refine fv (fun _ => OV.nilCheck rfl) ?_
      refine fv (fun _ => OV.fieldAddr0 rfl j7) ?_
      refine fv (fun _ => OV.load rfl (At.own 0 rfl) rfl c7) ?_
      refine fv (fun _ => OV.move rfl) ?_
      refine fv (fun _ => OV.nilCheck rfl) ?_
      refine fv (fun _ => OV.fieldAddr0 rfl c6) ?_
      refine fv (fun _ => OV.load rfl (At.own 0 rfl) rfl a8) ?_
      refine fv (fun _ => OV.index rfl rfl c9 o_12') ?_
      refine FL.call asb (fun _ => rfl) (alp ((s_0.getD s_1_2'.toNat 0).toNat : Int)) trivial rfl (fun _ => rfl) rfl ?_
      refine fv (fun _ => OV.pickF rfl rfl) ?_
      refine FL.set 43 (fun _ => rfl) (oF (v := m8 ((s_0.getD s_1_2'.toNat 0).toNat : Int)) hb) ?_
      exact FL.weak (L' := fun _ => [(0, zP b), (3, zI s_1), (21, zB true), (43, zB ((j5 ((s_0.getD s_1_2'.toNat 0).toNat : Int)) || (m8 ((s_0.getD s_1_2'.toNat 0).toNat : Int))))]) (fun _ => ⟨rfl, rfl, rfl, rfl, trivial⟩) (FL.nil hK_17')
    refine fv (fun _ => OV.pickT rfl rfl) ?_
    refine FL.set 44 (fun _ => rfl) (bT (v := (j5 ((s_0.getD s_1_2'.toNat 0).toNat : Int)) || (m8 ((s_0.getD s_1_2'.toNat 0).toNat : Int))) hb) ?_
    exact FL.weak (L' := fun _ => [(0, zP b), (3, zI s_1), (44, zB ((!(decide (s_0.length ≤ s_1_2'))) && ((j5 ((s_0.getD s_1_2'.toNat 0).toNat : Int)) || (m8 ((s_0.getD s_1_2'.toNat 0).toNat : Int)))))]) (fun _ => ⟨rfl, rfl, rfl, trivial⟩) (FL.nil hK_18')
   ·refine FL.set 21 (fun _ => rfl) (congrArg zB hb) ?_
    refine FL.skip rfl (fun _ => rfl) rfl rfl ?_
    refine FL.skip rfl (fun _ => rfl) rfl rfl ?_
    refine FL.skip rfl (fun _ => rfl) rfl rfl ?_
    refine FL.skip rfl (fun _ => rfl) rfl rfl ?_
    refine FL.skip rfl (fun _ => rfl) rfl rfl ?_
    refine FL.skip rfl (fun _ => rfl) rfl rfl ?_
    refine FL.skip rfl (fun _ => rfl) rfl rfl ?_
    refine FL.skip rfl (fun _ => rfl) rfl rfl ?_
    refine FL.skip rfl (fun _ => rfl) rfl rfl ?_
    refine FL.skip rfl (fun _ => rfl) rfl rfl ?_
    refine FL.skip rfl (fun _ => rfl) rfl rfl ?_
    refine FL.skip rfl (fun _ => rfl) rfl rfl ?_
    refine FL.skip rfl (fun _ => rfl) rfl rfl ?_
    refine FL.skip rfl (fun _ => rfl) rfl rfl ?_
    refine FL.skip rfl (fun _ => rfl) rfl rfl ?_
    refine FL.skip rfl (fun _ => rfl) rfl rfl ?_
    refine FL.skip rfl (fun _ => rfl) rfl rfl ?_
    refine FL.skip rfl (fun _ => rfl) rfl rfl ?_
    refine FL.skip rfl (fun _ => rfl) rfl rfl ?_
    refine FL.skip rfl (fun _ => rfl) rfl rfl ?_
    refine FL.skip rfl (fun _ => rfl) rfl rfl ?_
    refine FL.skip rfl (fun _ => rfl) rfl rfl ?_
    refine fv (fun _ => OV.pickF rfl rfl) ?_
    refine FL.set 44 (fun _ => rfl) (bF (v := (j5 ((s_0.getD s_1_2'.toNat 0).toNat : Int)) || (m8 ((s_0.getD s_1_2'.toNat 0).toNat : Int))) hb) ?_
    exact FL.weak (L' := fun _ => [(0, zP b), (3, zI s_1), (44, zB ((!(decide (s_0.length ≤ s_1_2'))) && ((j5 ((s_0.getD s_1_2'.toNat 0).toNat : Int)) || (m8 ((s_0.getD s_1_2'.toNat 0).toNat : Int)))))]) (fun _ => ⟨rfl, rfl, rfl, trivial⟩) (FL.nil hK_18')
  refine FL.weak (L' := fun _ => [(0, zP b), (3, zI s_1), (44, zB ((!(decide (s_0.length ≤ s_1_2'))) && ((j5 ((s_0.getD s_1_2'.toNat 0).toNat : Int)) || (m8 ((s_0.getD s_1_2'.toNat 0).toNat : Int)))))]) (fun _ => ⟨rfl, rfl, rfl, trivial⟩) (FL.nil (hT_2' (fun _ => [(0, zP b), (3, zI s_1), (44, zB ((!(decide (s_0.length ≤ s_1_2'))) && ((j5 ((s_0.getD s_1_2'.toNat 0).toNat : Int)) || (m8 ((s_0.getD s_1_2'.toNat 0).toNat : Int)))))]) (fun _ => ?_)))
  refine kg (hK_16' [(0, zP b), (3, zI s_1), (44, zB ((!(decide (s_0.length ≤ s_1_2'))) && ((j5 ((s_0.getD s_1_2'.toNat 0).toNat : Int)) || (m8 ((s_0.getD s_1_2'.toNat 0).toNat : Int)))))] _ ?_)
  refine b5 (b := (!(decide (s_0.length ≤ s_1_2'))) && ((j5 ((s_0.getD s_1_2'.toNat 0).toNat : Int)) || (m8 ((s_0.getD s_1_2'.toNat 0).toNat : Int)))) rfl (fun hb => ?_) (fun hb => ?_)
  ·replace h := e8 h hb
   refine b6 ?_
   refine kg (hK_15' [(0, zP b), (3, zI s_1)] _ ?_)
   refine b7 ?_
   refine a6 ?_
   refine wm ?_
   refine wv (OV.nilCheck rfl) ?_
   refine wv (OV.fieldAddr0 rfl c6) ?_
   refine wv (OV.load rfl (At.own 0 rfl) rfl a8) ?_
   obtain ⟨o_15', h⟩ := h
   refine wv (OV.add rfl rfl o_15') ?_
   refine wv (OV.nilCheck rfl) ?_
   refine wv (OV.fieldAddr0 rfl c6) ?_
   refine WL.store (vs := [zI (s_1_2' + 1)]) (cs' := [st s_0, zI (s_1_2' + 1), w, zI s_3, zI s_4, st s_5]) 0 rfl rfl rfl rfl f9 (Nat.le_of_ble_eq_true rfl) rfl rfl rfl ?_
   refine WL.nil ?_
   exact kh (hK_14' (s_1_2' + 1) h.1 h.2) [0, 1]
  ·replace h := e9 h hb
   refine l4 ?_
   refine kg (hK_5' [(0, zP b), (3, zI s_1)] _ ?_)
   refine a7 (fun _ hK_19' => ?_)
   refine a7 (fun _ hK_20' => ?_)
   refine a6 ?_
   refine wm ?_
   refine wv (OV.nilCheck rfl) ?_
   refine wv (OV.fieldAddr0 rfl c6) ?_
   refine wv (OV.load rfl (At.own 0 rfl) rfl a8) ?_
   refine wm ?_
   obtain ⟨o_16', h⟩ := h
   refine wv (OV.sub rfl rfl o_16') ?_
   refine wv (OV.gtr rfl rfl) ?_
   refine WL.nil ?_
   refine kg (hK_20' [(0, zP b), (3, zI s_1), (58, zB (decide (32 < s_1_2' - s_1)))] _ ?_)
   refine b5 (b := decide (32 < s_1_2' - s_1)) rfl (fun hb => ?_) (fun hb => ?_)
   ·replace h := e8 h hb
    refine a7 (fun _ hK_21' => ?_)
    refine a6 ?_
    refine wm ?_
    refine wm ?_
    refine WL.call abc rfl (abd b s_0 s_1_2' w s_3 s_4 s_5 1 s_1) rfl trivial rfl rfl ?_
    refine wA ?_
    refine WL.nil ?_
    refine kg (hK_21' [(2, zB false)] _ ?_)
    refine b8 ?_
    exact hE.ret [0, 1] rfl rfl (.inl ⟨_, _, _, _, _, _, _, _, h, rfl⟩) (d7.of1 rfl (RV.tmp rfl))
   ·replace h := e9 h hb
    refine b6 ?_
    refine kg (hK_19' [(0, zP b), (3, zI s_1)] _ ?_)
    refine a7 (fun _ hK_22' => ?_)
    refine m0 12 [] f0 (by kernel_rfl) rfl (fun T_3' hT_3' => ?_)
    refine fv (fun _ => OV.move rfl) ?_
    refine fv (fun _ => OV.move rfl) ?_
    refine fv (fun _ => OV.move rfl) ?_
    refine fv (fun _ => OV.nilCheck rfl) ?_
    refine fv (fun _ => OV.fieldAddr0 rfl j7) ?_
    refine fv (fun _ => OV.load rfl (At.own 0 rfl) rfl c7) ?_
    refine fv (fun _ => OV.move rfl) ?_
    refine fv (fun _ => OV.move rfl) ?_
    refine fv (fun _ => OV.nilCheck rfl) ?_
    refine fv (fun _ => OV.fieldAddr0 rfl c6) ?_
    refine fv (fun _ => OV.load rfl (At.own 0 rfl) rfl a8) ?_
    obtain ⟨o_17', h⟩ := h
    refine fv (fun _ => OV.sliceS rfl rfl rfl c9 o_17') ?_
    refine FL.weak (L' := fun γ => [(62, zP b), (63, zI s_1), (73, st ((s_0.drop s_1.toNat).take (s_1_2'.toNat - s_1.toNat)))]) (fun γ => ⟨rfl, rfl, rfl, trivial⟩) (FL.nil (hT_3' (fun γ => [(62, zP b), (63, zI s_1), (73, st ((s_0.drop s_1.toNat).take (s_1_2'.toNat - s_1.toNat)))]) (fun γ => ?_)))
    obtain ⟨o_18', h⟩ := h
    refine WL.callS ada rfl (aet b s_0 s_1_2' w s_3 s_4 s_5 sl 1 s_1 ((s_0.drop s_1.toNat).take (s_1_2'.toNat - s_1.toNat)) o_18') rfl trivial rfl rfl (fun r H' hS => ?_) (fun c H' hS => ?_)
    ·obtain ⟨w_1', ho⟩ := hS
     cases ho
     refine wA ?_
     refine WL.nil ?_
     refine kg (hK_22' [(2, zB true)] _ ?_)
     refine b8 ?_
     exact hE.ret [0, 1] rfl rfl (.inl ⟨_, _, _, _, _, _, _, _, h, rfl⟩) (d7.of1 rfl (RV.tmp rfl))
    ·obtain ⟨w_1', ho⟩ := hS
     cases ho
 ·replace h := e9 h hb
  refine a7 (fun _ hK_23' => ?_)
  refine a6 ?_
  refine wm ?_
  refine wv (OV.eql rfl rfl) ?_
  refine wA ?_
  refine WL.nil ?_
  refine kg (hK_23' [(0, zP b), (3, zI s_1), (4, zU ((s_0.getD s_1.toNat 0).toNat : Int)), (75, zB (decide (((s_0.getD s_1.toNat 0).toNat : Int) = 34)))] _ ?_)
  refine b5 (b := decide (((s_0.getD s_1.toNat 0).toNat : Int) = 34)) rfl (fun hb => ?_) (fun hb => ?_)
  ·replace h := e8 h hb
   refine a7 (fun _ hK_24' => ?_)
   refine a6 ?_
   refine wm ?_
   obtain ⟨o_19', h⟩ := h
   refine WL.callS asw rfl (ao7 b s_0 s_1 w s_3 s_4 s_5 sl o_19') rfl trivial rfl rfl (fun r H' hS => ?_) (fun c H' hS => ?_)
   ·obtain ⟨w_2', ok, at0, l, fc, fa, ft, hc, ho⟩ := hS
    cases ho
    replace h := h ok at0 l fc fa ft hc
    refine wA ?_
    refine WL.nil ?_
    refine kg (hK_24' [(2, zB ok)] _ ?_)
    refine b8 ?_
    exact hE.ret [0, 1] rfl rfl (.inl ⟨_, _, _, _, _, _, _, _, h, rfl⟩) (d7.of1 rfl (RV.tmp rfl))
   ·obtain ⟨w_2', ok, at0, l, fc, fa, ft, hc, ho⟩ := hS
    cases ho
  ·replace h := e9 h hb
   refine a7 (fun _ hK_25' => ?_)
   refine a6 ?_
   refine wm ?_
   refine wv (OV.eql rfl rfl) ?_
   refine wA ?_
   refine WL.nil ?_
   refine kg (hK_25' [(0, zP b), (3, zI s_1), (4, zU ((s_0.getD s_1.toNat 0).toNat : Int)), (80, zB (decide (((s_0.getD s_1.toNat 0).toNat : Int) = 47)))] _ ?_)
   refine b5 (b := decide (((s_0.getD s_1.toNat 0).toNat : Int) = 47)) rfl (fun hb => ?_) (fun hb => ?_)
   ·replace h := e8 h hb
    refine a7 (fun _ hK_26' => ?_)
    refine a6 ?_
    refine wm ?_
    obtain ⟨o_20', h⟩ := h
    refine WL.callS asa rfl (aqd b s_0 s_1 w s_3 s_4 s_5 sl o_20') rfl trivial rfl rfl (fun r H' hS => ?_) (fun c H' hS => ?_)
    ·obtain ⟨w_3', ok_1', at0_1', l_1', fc_1', fa_1', ft_1', hc, ho⟩ := hS
     cases ho
     replace h := h ok_1' at0_1' l_1' fc_1' fa_1' ft_1' hc
     refine wA ?_
     refine WL.nil ?_
     refine kg (hK_26' [(2, zB ok_1')] _ ?_)
     refine b8 ?_
     exact hE.ret [0, 1] rfl rfl (.inl ⟨_, _, _, _, _, _, _, _, h, rfl⟩) (d7.of1 rfl (RV.tmp rfl))
    ·obtain ⟨w_3', ok_1', at0_1', l_1', fc_1', fa_1', ft_1', hc, ho⟩ := hS
     cases ho
   ·replace h := e9 h hb
    refine a7 (fun _ hK_27' => ?_)
    refine a6 ?_
    refine wm ?_
    refine WL.call (A := []) aiv rfl (adg ([61, 59, 40, 41, 123, 125, 44, 124, 38, 45, 46, 126, 42, 43, 63] : List UInt8) ((s_0.getD s_1.toNat 0).toNat : Int)) rfl trivial rfl rfl ?_
    refine wv (OV.geq rfl rfl) ?_
    refine wA ?_
    refine WL.nil ?_
    refine kg (hK_27' [(0, zP b), (3, zI s_1), (85, zB (decide (0 ≤ Lib.indexByte ([61, 59, 40, 41, 123, 125, 44, 124, 38, 45, 46, 126, 42, 43, 63] : List UInt8) (((s_0.getD s_1.toNat 0).toNat : Int)).toNat.toUInt8)))] _ ?_)
    refine b5 (b := decide (0 ≤ Lib.indexByte ([61, 59, 40, 41, 123, 125, 44, 124, 38, 45, 46, 126, 42, 43, 63] : List UInt8) (((s_0.getD s_1.toNat 0).toNat : Int)).toNat.toUInt8)) rfl (fun hb => ?_) (fun hb => ?_)
    ·replace h := e8 h hb
     refine a7 (fun _ hK_28' => ?_)
     refine a6 ?_
     refine wm ?_
     refine wv (OV.nilCheck rfl) ?_
     refine wv (OV.fieldAddr0 rfl c6) ?_
     refine wv (OV.load rfl (At.own 0 rfl) rfl a8) ?_
     obtain ⟨o_21', h⟩ := h
     refine wv (OV.add rfl rfl o_21') ?_
     refine wv (OV.nilCheck rfl) ?_
     refine wv (OV.fieldAddr0 rfl c6) ?_
     refine WL.store (vs := [zI (s_1 + 1)]) (cs' := [st s_0, zI (s_1 + 1), w, zI s_3, zI s_4, st s_5]) 0 rfl rfl rfl rfl f9 (Nat.le_of_ble_eq_true rfl) rfl rfl rfl ?_
     refine WL.nil ?_
     refine kg (hK_28' [(0, zP b), (3, zI s_1)] _ ?_)
     refine a7 (fun _ hK_29' => ?_)
     refine m0 12 [] f0 (by kernel_rfl) rfl (fun T_4' hT_4' => ?_)
     refine fv (fun _ => OV.move rfl) ?_
     refine fv (fun _ => OV.move rfl) ?_
     refine fv (fun _ => OV.move rfl) ?_
     refine fv (fun _ => OV.nilCheck rfl) ?_
     refine fv (fun _ => OV.fieldAddr0 rfl j7) ?_
     refine fv (fun _ => OV.load rfl (At.own 0 rfl) rfl c7) ?_
     refine fv (fun _ => OV.move rfl) ?_
     refine fv (fun _ => OV.move rfl) ?_
     refine fv (fun _ => OV.nilCheck rfl) ?_
     refine fv (fun _ => OV.fieldAddr0 rfl c6) ?_
     refine fv (fun _ => OV.load rfl (At.own 0 rfl) rfl a8) ?_
     obtain ⟨o_22', h⟩ := h
     refine fv (fun _ => OV.sliceS rfl rfl rfl c9 o_22') ?_
     refine FL.weak (L' := fun γ => [(96, zP b), (97, zI s_1), (107, st ((s_0.drop s_1.toNat).take ((s_1 + 1).toNat - s_1.toNat)))]) (fun γ => ⟨rfl, rfl, rfl, trivial⟩) (FL.nil (hT_4' (fun γ => [(96, zP b), (97, zI s_1), (107, st ((s_0.drop s_1.toNat).take ((s_1 + 1).toNat - s_1.toNat)))]) (fun γ => ?_)))
     obtain ⟨o_23', h⟩ := h
     refine WL.callS ada rfl (aet b s_0 (s_1 + 1) w s_3 s_4 s_5 sl 4 s_1 ((s_0.drop s_1.toNat).take ((s_1 + 1).toNat - s_1.toNat)) o_23') rfl trivial rfl rfl (fun r H' hS => ?_) (fun c H' hS => ?_)
     ·obtain ⟨w_4', ho⟩ := hS
      cases ho
      refine wA ?_
      refine WL.nil ?_
      refine kg (hK_29' [(2, zB true)] _ ?_)
      refine b8 ?_
      exact hE.ret [0, 1] rfl rfl (.inl ⟨_, _, _, _, _, _, _, _, h, rfl⟩) (d7.of1 rfl (RV.tmp rfl))
     ·obtain ⟨w_4', ho⟩ := hS
      cases ho
    ·replace h := e9 h hb
     refine a7 (fun _ hK_30' => ?_)
     refine a6 ?_
     refine wm ?_
     refine wv (OV.nilCheck rfl) ?_
     refine wv (OV.fieldAddr0 rfl j7) ?_
     refine wv (OV.load rfl (At.own 0 rfl) rfl c7) ?_
     refine wm ?_
     obtain ⟨o_24', h⟩ := h
     refine wv (OV.sliceL rfl rfl c9 o_24') ?_
     refine WL.call (A := []) as5 rfl (aka (s_0.drop s_1.toNat) ([62, 62] : List UInt8)) rfl trivial rfl rfl ?_
     refine wA ?_
     refine WL.nil ?_
     refine kg (hK_30' [(0, zP b), (3, zI s_1), (109, zB (Lib.hasPrefix (s_0.drop s_1.toNat) ([62, 62] : List UInt8)))] _ ?_)
     refine b5 (b := Lib.hasPrefix (s_0.drop s_1.toNat) ([62, 62] : List UInt8)) rfl (fun hb => ?_) (fun hb => ?_)
     ·replace h := e8 h hb
      refine a7 (fun _ hK_31' => ?_)
      refine a6 ?_
      refine wm ?_
      refine wv (OV.nilCheck rfl) ?_
      refine wv (OV.fieldAddr0 rfl c6) ?_
      refine wv (OV.load rfl (At.own 0 rfl) rfl a8) ?_
      obtain ⟨o_25', h⟩ := h
      refine wv (OV.add rfl rfl o_25') ?_
      refine wv (OV.nilCheck rfl) ?_
      refine wv (OV.fieldAddr0 rfl c6) ?_
      refine WL.store (vs := [zI (s_1 + 2)]) (cs' := [st s_0, zI (s_1 + 2), w, zI s_3, zI s_4, st s_5]) 0 rfl rfl rfl rfl f9 (Nat.le_of_ble_eq_true rfl) rfl rfl rfl ?_
      refine WL.nil ?_
      refine kg (hK_31' [(0, zP b), (3, zI s_1)] _ ?_)
      refine a7 (fun _ hK_32' => ?_)
      refine a6 ?_
      refine wm ?_
      refine wm ?_
      obtain ⟨o_26', h⟩ := h
      refine WL.callS ada rfl (aet b s_0 (s_1 + 2) w s_3 s_4 s_5 sl 4 s_1 ([62, 62] : List UInt8) o_26') rfl trivial rfl rfl (fun r H' hS => ?_) (fun c H' hS => ?_)
      ·obtain ⟨w_5', ho⟩ := hS
       cases ho
       refine wA ?_
       refine WL.nil ?_
       refine kg (hK_32' [(2, zB true)] _ ?_)
       refine b8 ?_
       exact hE.ret [0, 1] rfl rfl (.inl ⟨_, _, _, _, _, _, _, _, h, rfl⟩) (d7.of1 rfl (RV.tmp rfl))
      ·obtain ⟨w_5', ho⟩ := hS
       cases ho
     ·replace h := e9 h hb
      refine b6 ?_
      refine kg (hK_2' [(0, zP b), (3, zI s_1)] _ ?_)
      refine a7 (fun _ hK_33' => ?_)
      refine a6 ?_
      refine wm ?_
      refine wm ?_
      refine WL.call abc rfl (abd b s_0 s_1 w s_3 s_4 s_5 50 s_1) rfl trivial rfl rfl ?_
      refine wA ?_
      refine WL.nil ?_
      refine kg (hK_33' [(2, zB false)] _ ?_)
      refine b8 ?_
      exact hE.ret [0, 1] rfl rfl (.inl ⟨_, _, _, _, _, _, _, _, h, rfl⟩) (d7.of1 rfl (RV.tmp rfl))
theorem ah7 {t : List UInt8} {p : Int} (h : 0 ≤ p ∧ p < t.length) : abq (t.drop p.toNat) = if (j5 (bt t p) || m8 (bt t p)) = true then 1 + abq (t.drop (p + 1).toNat) else 0 := by
 obtain ⟨x, hx, hb⟩ := ah6 h
 rw [hx, abq, hb]
theorem ao3 {t : List UInt8} {p : Int} (h : (t.length : Int) ≤ p) : abq (t.drop p.toNat) = 0 := by
 rw [List.drop_eq_nil_of_le (by omega)]; rfl
theorem ad0 {t : List UInt8} {fr : Int} : ∀ {n : Nat} {out : List UInt8} {k : Int} {x : List UInt8} {q : Int}, k7 t fr n out k = .ok (x, q) → k < q ∧ q ≤ t.length
 | 0, _, _, _, _, h => by cases h
 | n + 1, out, k, x, q, h => by
  rw [k7] at h
  split at h
  ·split at h
   ·simp only [Except.ok.injEq, Prod.mk.injEq] at h; omega
   ·split at h
    ·cases h
    ·split at h
     ·have := ad0 h; omega
     ·split at h
      ·cases h
      ·split at h
       ·cases h
       ·have h1 := ad0 h
        have h2 := (aqo (t := t) (a := k) (b := (ab2 t k).1) (ok := (ab2 t k).2.1) (q := (ab2 t k).2.2) rfl).1
        omega
  ·cases h
theorem ack {t : List UInt8} {fr : Int} : ∀ {n : Nat} {k : Int} {x : List UInt8} {q : Int}, n7 t fr n k = .ok (x, q) → k < q ∧ q ≤ t.length
 | 0, _, _, _, h => by cases h
 | n + 1, k, x, q, h => by
  rw [n7] at h
  split at h
  ·split at h
   ·split at h
    ·cases h
    ·have := ack h; omega
   ·split at h
    ·cases h
    ·split at h
     ·simp only [Except.ok.injEq, Prod.mk.injEq] at h; omega
     ·have := ack h; omega
  ·cases h
theorem afc {t : List UInt8} {a : Int} (hb : 0 ≤ a ∧ a < t.length) {k : Tok} {q : Int} (h : ab8 t a = .ok (k, q)) : a < q ∧ q ≤ t.length := by
 unfold ab8 at h
 split at h
 ·rename_i hl
  split at h
  ·cases h
  ·simp only [Except.ok.injEq, Prod.mk.injEq] at h
   have h1 := ah7 hb
   rw [if_pos (by simp [hl])] at h1
   have h2 := aoo (t.drop a.toNat)
   rw [List.length_drop] at h2
   omega
 ·split at h
  ·unfold y5 at h
   split at h
   ·rename_i he
    have := ad0 he
    simp only [Except.ok.injEq, Prod.mk.injEq] at h; omega
   ·cases h
  ·split at h
   ·unfold aa6 at h
    split at h
    ·rename_i he
     have := ack he
     simp only [Except.ok.injEq, Prod.mk.injEq] at h; omega
    ·cases h
   ·split at h
    ·simp only [Except.ok.injEq, Prod.mk.injEq] at h; omega
    ·split at h
     ·simp only [Except.ok.injEq, Prod.mk.injEq] at h; omega
     ·cases h
theorem av6 {t : List UInt8} {a : Int} (hb : 0 ≤ a ∧ a < t.length) : Lib.hasPrefix (t.drop a.toNat) ([62, 62] : List UInt8) = decide (a + 1 < t.length ∧ bt t a = 62 ∧ bt t (a + 1) = 62) := by
 obtain ⟨x, hx, hbx⟩ := ah6 hb
 rw [hx, hbx]
 by_cases h1 : a + 1 < t.length
 ·obtain ⟨y, hy, hby⟩ := ah6 (t := t) (p := a + 1) ⟨by omega, h1⟩
  rw [hy, hby, Bool.eq_iff_iff]
  have e1 := apo x 62
  have e2 := apo y 62
  simp only [Lib.hasPrefix, List.isPrefixOf, Bool.and_true, Bool.and_eq_true, decide_eq_true_eq, h1, true_and]
  constructor
  ·rintro ⟨p1, p2⟩
   have p1 : x = 62 := (by simpa using p1 : (62 : UInt8) = x).symm
   have p2 : y = 62 := (by simpa using p2 : (62 : UInt8) = y).symm
   subst p1; subst p2; exact ⟨rfl, rfl⟩
  ·rintro ⟨p1, p2⟩
   have p1 : x = 62 := UInt8.toNat_inj.1 (by have : (62 : UInt8).toNat = 62 := rfl; omega)
   have p2 : y = 62 := UInt8.toNat_inj.1 (by have : (62 : UInt8).toNat = 62 := rfl; omega)
   subst p1; subst p2; exact ⟨rfl, rfl⟩
 ·rw [List.drop_eq_nil_of_le (by omega)]
  simp [Lib.hasPrefix, List.isPrefixOf, h1]
theorem aum (b : Nat) (t : List UInt8) (a : Int) (w : Value) (fc fa : Int) (ft : List UInt8) (l : List Tok) (h : 0 ≤ a ∧ a < t.length ∧ t.length ≤ 4096 ∧ l.length ≤ 4096) :
  d9 Tryd.prog 36 [.pointer (some ⟨b, 0, none⟩)] [] [.blk b (scB t a w fc fa ft), aho w l] (au0 b t l fc fa ft (ab8 t a)) := by
 refine (ax2 b w t a fc fa ft l (fun ok t' q c x y l' => t' = t ∧ anw (ab8 t a) t l fc fa ft ok q l' c x y) ?_).weak ?_
 ·unfold aql
  have eb : ∀ i : Int, ((t.getD i.toNat 0).toNat : Int) = bt t i := fun _ => rfl
  simp only [eb, true_and]
  have hb : 0 ≤ a ∧ a < t.length := ⟨h.1, h.2.1⟩
  refine ⟨hb, ?_⟩
  by_cases e1 : j5 (bt t a) = true
  ·rw [if_pos e1]
   refine ⟨fun q => a ≤ q ∧ q ≤ t.length ∧ q + abq (t.drop q.toNat) = a + abq (t.drop a.toNat), fun q => (t.length - q).toNat, ⟨Int.le_refl _, by omega, rfl⟩, ?_⟩
   rintro q ⟨q0, q1, hq⟩
   refine ⟨fun hh => ⟨⟨by omega, by simpa using hh⟩, fun _ => ⟨by omega, by simpa using hh⟩⟩, ?_⟩
   have hend : q = a + abq (t.drop a.toNat) → (I64 (q - a)) ∧ (if decide (32 < q - a) = true then t = t ∧ anw (ab8 t a) t l fc fa ft false q l 1 a [] else (0 ≤ a ∧ a ≤ q ∧ q ≤ t.length) ∧ l.length ≤ 4096 ∧ anw (ab8 t a) t l fc fa ft true q (l ++ [((1 : Int), a, (t.drop a.toNat).take (q.toNat - a.toNat))]) fc fa ft) := fun hqe => by
    refine ⟨⟨by omega, by omega⟩, ?_⟩
    unfold ab8
    rw [if_pos e1]
    by_cases e2 : 32 < q - a
    ·rw [if_pos (by simpa using e2), if_pos (by omega)]
     exact ⟨rfl, rfl, rfl, rfl, rfl, rfl⟩
    ·rw [if_neg (by simpa using e2), if_neg (by omega)]
     refine ⟨⟨by omega, q0, q1⟩, h.2.2.2, rfl, hqe, ?_, rfl, rfl, rfl⟩
     rw [← hqe]; rfl
   simp only [true_and] at hend
   by_cases hql : q < t.length
   ·have hqb : 0 ≤ q ∧ q < t.length := ⟨by omega, hql⟩
    have hs := ah7 hqb
    by_cases e3 : (j5 (bt t q) || m8 (bt t q)) = true
    ·rw [if_pos (by rw [e3]; simp; omega)]
     rw [if_pos e3] at hs
     exact ⟨⟨by omega, by omega⟩, ⟨by omega, by omega, by omega⟩, by show (t.length - (q + 1)).toNat < (t.length - q).toNat; omega⟩
    ·rw [if_neg (by rw [Bool.eq_false_iff.2 e3]; simp)]
     rw [if_neg e3] at hs
     exact hend (by omega)
   ·rw [if_neg (by simp; omega)]
    have := ao3 (t := t) (p := q) (by omega)
    exact hend (by omega)
  ·rw [if_neg e1]
   have hone : ab8 t a = if bt t a = 34 then y5 t a else if bt t a = 47 then aa6 t a else if aah.contains (bt t a).toNat.toUInt8 = true then .ok ((4, a, cut t a (a + 1)), a + 1) else if a + 1 < t.length ∧ bt t a = 62 ∧ bt t (a + 1) = 62 then .ok ((4, a, [62, 62]), a + 2) else .error (50, a) := by
    unfold ab8; rw [if_neg e1]
   by_cases e2 : bt t a = 34
   ·rw [if_pos (by simpa using e2)]
    rw [if_pos e2] at hone
    rw [hone]
    exact ⟨h, fun ok q l' c x y hT => hT⟩
   ·rw [if_neg (by simpa using e2)]
    rw [if_neg e2] at hone
    by_cases e3 : bt t a = 47
    ·rw [if_pos (by simpa using e3)]
     rw [if_pos e3] at hone
     rw [hone]
     exact ⟨h, fun ok q l' c x y hT => hT⟩
    ·rw [if_neg (by simpa using e3)]
     rw [if_neg e3] at hone
     have hm : (0 ≤ Lib.indexByte ([61, 59, 40, 41, 123, 125, 44, 124, 38, 45, 46, 126, 42, 43, 63] : List UInt8) (bt t a).toNat.toUInt8) ↔ aah.contains (bt t a).toNat.toUInt8 = true := acb _ _
     by_cases e4 : aah.contains (bt t a).toNat.toUInt8 = true
     ·rw [if_pos (by simpa using hm.2 e4)]
      rw [if_pos e4] at hone
      rw [hone]
      exact ⟨⟨by omega, by omega⟩, ⟨by omega, by omega, by omega⟩, h.2.2.2, rfl, rfl, rfl, rfl, rfl, rfl⟩
     ·rw [if_neg (by simpa using fun x => e4 (hm.1 x))]
      rw [if_neg e4] at hone
      refine ⟨⟨by omega, by omega⟩, ?_⟩
      rw [av6 hb]
      by_cases e5 : a + 1 < t.length ∧ bt t a = 62 ∧ bt t (a + 1) = 62
      ·rw [if_pos (by simpa using e5)]
       rw [if_pos e5] at hone
       rw [hone]
       exact ⟨⟨by omega, by omega⟩, h.2.2.2, rfl, rfl, rfl, rfl, rfl, rfl⟩
      ·rw [if_neg (by simpa using e5)]
       rw [if_neg e5] at hone
       rw [hone]
       exact ⟨rfl, rfl, rfl, rfl, rfl⟩
 ·rintro o (⟨ok, t', q, c, x, y, w', l', ⟨rfl, hT⟩, rfl⟩ | h)
  ·exact ⟨w', ok, q, l', c, x, y, hT, rfl⟩
  ·exact h.elim
end Go.Proofs.YtifajndacnfcbaaDoor
set_option maxRecDepth 100000
namespace Go.Proofs.YtifajndacnfcbaaDoor
open Go Go.RowKit
theorem ad1 : ab0 Tryd.prog 26 = some [zI 0, zI 0, st []] := by kernel_rfl
theorem x0 : RowT Tryd.prog 26 3 := ⟨by kernel_rfl, by kernel_rfl⟩
theorem amx : k9 Tryd.prog 34 = true := by kernel_rfl
theorem ar9 : k9 Tryd.prog 36 = true := by kernel_rfl
def anz (text : List UInt8) (K : (List Tok) → Int → Int → (List UInt8) → Prop) : Prop :=
 (if (decide (4096 < (text.length : Int))) = true then
  K ([] : List Tok) 1 0 []
 else
  (0 ≤ (0 : Int) ∧ (0 : Int) ≤ text.length ∧ text.length ≤ 4096) ∧
  ∃ (Inv : Int → Int → Int → (List UInt8) → (List Tok) → Prop) (mu : Int → Int → Int → (List UInt8) → (List Tok) → Nat),
   Inv (aaj text 0) 0 0 [] [] ∧ ∀ (c_1_1' : Int) (c_3_1' : Int) (c_4_1' : Int) (c_5_1' : List UInt8) (l_3' : List Tok), Inv c_1_1' c_3_1' c_4_1' c_5_1' l_3' →
    (if (!(decide (text.length ≤ c_1_1'))) = true then
     (0 ≤ c_1_1' ∧ c_1_1' < text.length ∧ text.length ≤ 4096 ∧ l_3'.length ≤ 4096) ∧
     (∀ (ok_2' : Bool) (at0_2' : Int) (l_4' : List Tok) (fc_2' : Int) (fa_2' : Int) (ft_2' : List UInt8), anw (ab8 text c_1_1') text l_3' c_3_1' c_4_1' c_5_1' ok_2' at0_2' l_4' fc_2' fa_2' ft_2' →
      (if (!ok_2') = true then
       K ([] : List Tok) fc_2' fa_2' ft_2'
      else
       (0 ≤ at0_2' ∧ at0_2' ≤ text.length ∧ text.length ≤ 4096) ∧
       Inv (aaj text at0_2') fc_2' fa_2' ft_2' l_4' ∧ mu (aaj text at0_2') fc_2' fa_2' ft_2' l_4' < mu c_1_1' c_3_1' c_4_1' c_5_1' l_3'))
    else
     (l_3'.length ≤ 4096) ∧
     (
      K (l_3' ++ [((0 : Int), (text.length : Int), [])]) 0 0 [])))
theorem awp  (text : List UInt8) (K : (List Tok) → Int → Int → (List UInt8) → Prop) (h : anz text K) :
  d9 Tryd.prog 15 [st text] [] [] (fun o => (∃ (w_6' : Value) (v : List Tok) (v_1'_0 : Int) (v_1'_1 : Int) (v_1'_2 : List UInt8), K v v_1'_0 v_1'_1 v_1'_2 ∧ o = .ret (Value.tuple #[w_6', Value.agg [zI v_1'_0, zI v_1'_1, st v_1'_2].toArray]) [HA.row w_6' 102 3 v.length (v.flatMap e6)]) ∨ (False)) := by
 unfold anz at h
 refine c8 (n := 35) (L0 := [(0, st text)]) Tryd.func15 rfl rfl rfl rfl (fun w0 M Q hE => ?_)
 refine a7 (fun _ hK => ?_)
 refine a6 ?_
 refine wA ?_
 refine WL.nilRow 102 3 e6 ?_
 refine WL.make (MV.alloc ad1) rfl rfl rfl (fun b => ?_)
 refine WL.nil ?_
 refine kg (hK [(0, st text), (3, zP b)] _ ?_)
 refine a7 (fun _ hK_1' => ?_)
 refine a7 (fun _ hK_2' => ?_)
 refine a6 ?_
 refine wm ?_
 refine wv (OV.len rfl c9) ?_
 refine wv (OV.gtr rfl rfl) ?_
 refine WL.nil ?_
 refine kg (hK_2' [(0, st text), (3, zP b), (7, zB (decide (4096 < (text.length : Int))))] _ ?_)
 refine b5 (b := decide (4096 < (text.length : Int))) rfl (fun hb => ?_) (fun hb => ?_)
 ·replace h := e8 h hb
  refine a7 (fun _ hK_3' => ?_)
  refine a6 ?_
  refine wv (OV.build rfl (cs := [zI 1, zI 0, st []]) rfl) ?_
  refine wA ?_
  refine WL.nilRow 102 3 e6 ?_
  refine WL.storeW (vs := [zI 1, zI 0, st []]) 1 rfl rfl rfl rfl rfl w8 rfl rfl rfl ?_
  refine WL.nil ?_
  refine kg (hK_3' [(2, Value.slice none 0 0), (3, zP b)] _ ?_)
  refine b8 ?_
  exact hE.ret [0] rfl rfl (.inl ⟨_, _, _, _, _, h, rfl⟩) (d7.of2 rfl (RV.tmp rfl) (RV.row rfl (At.own 1 rfl) x0))
 ·replace h := e9 h hb
  refine b6 ?_
  refine kg (hK_1' [(0, st text), (3, zP b)] _ ?_)
  refine a7 (fun _ hK_4' => ?_)
  refine a6 ?_
  refine wm ?_
  refine wv (OV.build rfl (cs := [st text, zI 0, Value.slice none 0 0, zI 0, zI 0, st []]) rfl) ?_
  refine WL.make (MV.box (cs := [st text, zI 0, Value.slice none 0 0, zI 0, zI 0, st []]) rfl rfl) rfl rfl rfl (fun b_1' => ?_)
  refine WL.nilRow 102 3 e6 ?_
  refine wA ?_
  refine WL.nil ?_
  refine kg (hK_4' [(0, st text), (3, zP b), (4, zP b_1')] _ ?_)
  refine a7 (fun _ hK_5' => ?_)
  refine a7 (fun _ hK_6' => ?_)
  refine a6 ?_
  refine wm ?_
  obtain ⟨o, h⟩ := h
  refine WL.pick (H' := [HA.blk b_1' (.cells [st text, zI 0, Value.slice none 0 0, zI 0, zI 0, st []].toArray 100 (0, 0)), HA.row (Value.slice none 0 0) 102 3 ([] : List Tok).length (([] : List Tok).flatMap e6), HA.blk b (.cells [zI 0, zI 0, st []].toArray 26 (0, 0)), HA.row (Value.slice none 0 0) 102 3 ([] : List Tok).length (([] : List Tok).flatMap e6)]) [1, 0, 2, 3] rfl rfl ?_
  refine WL.call amx rfl (amm b_1' text 0 (Value.slice none 0 0) 0 0 [] o) rfl trivial rfl rfl ?_
  refine WL.nil ?_
  refine kg (hK_6' [(0, st text), (3, zP b), (4, zP b_1')] _ ?_)
  refine b7 ?_
  refine WC.pick (H' := [HA.blk b_1' (.cells [st text, zI (aaj text 0), Value.slice none 0 0, zI 0, zI 0, st []].toArray 100 (0, 0)), HA.row (Value.slice none 0 0) 102 3 ([] : List Tok).length (([] : List Tok).flatMap e6), HA.blk b (.cells [zI 0, zI 0, st []].toArray 26 (0, 0))]) [0, 1, 2] rfl rfl ?_
  obtain ⟨Inv, mu, h0, hr⟩ := h
  refine o7 (S := Int × Int × Int × (List UInt8) × Value × (List Tok)) (fun σ => Inv σ.1 σ.2.1 σ.2.2.1 σ.2.2.2.1 σ.2.2.2.2.2) (fun σ => mu σ.1 σ.2.1 σ.2.2.1 σ.2.2.2.1 σ.2.2.2.2.2) (fun σ => [(0, st text), (3, zP b), (4, zP b_1')]) (fun σ => [HA.blk b_1' (.cells [st text, zI σ.1, σ.2.2.2.2.1, zI σ.2.1, zI σ.2.2.1, st σ.2.2.2.1].toArray 100 (0, 0)), HA.row σ.2.2.2.2.1 102 3 σ.2.2.2.2.2.length (σ.2.2.2.2.2.flatMap e6), HA.blk b (.cells [zI 0, zI 0, st []].toArray 26 (0, 0))]) (aaj text 0, 0, 0, [], Value.slice none 0 0, []) h0 ⟨rfl, rfl, rfl, trivial⟩ rfl ?_
  rintro ⟨c_1_1', c_3_1', c_4_1', c_5_1', w_3', l_3'⟩ hi K0_17' hK_17'
  have h := hr c_1_1' c_3_1' c_4_1' c_5_1' l_3' hi
  show WC _ _ _ _ [(0, st text), (3, zP b), (4, zP b_1')] [HA.blk b_1' (.cells [st text, zI c_1_1', w_3', zI c_3_1', zI c_4_1', st c_5_1'].toArray 100 (0, 0)), HA.row w_3' 102 3 l_3'.length (l_3'.flatMap e6), HA.blk b (.cells [zI 0, zI 0, st []].toArray 26 (0, 0))]
  refine a7 (fun _ hK_18' => ?_)
  refine a7 (fun _ hK_19' => ?_)
  refine a6 ?_
  refine wm ?_
  refine WL.call (A := []) aav rfl (aab b_1' text c_1_1' w_3' c_3_1' c_4_1' c_5_1') rfl ⟨.inl ⟨0, rfl⟩, trivial⟩ rfl rfl ?_
  refine wv (OV.not rfl) ?_
  refine WL.nil ?_
  refine kg (hK_19' [(0, st text), (3, zP b), (4, zP b_1'), (16, zB (!(decide (text.length ≤ c_1_1'))))] _ ?_)
  refine b5 (b := !(decide (text.length ≤ c_1_1'))) rfl (fun hb => ?_) (fun hb => ?_)
  ·replace h := e8 h hb
   refine b6 ?_
   refine kg (hK_18' [(0, st text), (3, zP b), (4, zP b_1')] _ ?_)
   refine a7 (fun _ hK_20' => ?_)
   refine b7 ?_
   refine a7 (fun _ hK_21' => ?_)
   refine a6 ?_
   refine wm ?_
   obtain ⟨o_5', h⟩ := h
   refine WL.callS ar9 rfl (aum b_1' text c_1_1' w_3' c_3_1' c_4_1' c_5_1' l_3' o_5') rfl trivial rfl rfl (fun r H' hS => ?_) (fun c H' hS => ?_)
   ·obtain ⟨w_4', ok_2', at0_2', l_4', fc_2', fa_2', ft_2', hc, ho⟩ := hS
    cases ho
    replace h := h ok_2' at0_2' l_4' fc_2' fa_2' ft_2' hc
    refine wv (OV.not rfl) ?_
    refine WL.nil ?_
    refine kg (hK_21' [(0, st text), (3, zP b), (4, zP b_1'), (21, zB (!ok_2'))] _ ?_)
    refine b5 (b := !ok_2') rfl (fun hb => ?_) (fun hb => ?_)
    ·replace h := e8 h hb
     refine a7 (fun _ hK_22' => ?_)
     refine m0 5 [] f0 (by kernel_rfl) rfl (fun T_2' hT_2' => ?_)
     refine fv (fun _ => OV.move rfl) ?_
     refine fv (fun _ => OV.nilCheck rfl) ?_
     refine fv (fun _ => OV.fieldAddr0 rfl afm) ?_
     refine fv (fun _ => OV.loadM (vs := [zI fc_2', zI fa_2', st ft_2']) rfl (At.own 0 rfl) rfl x0) ?_
     refine fv (fun _ => OV.assign rfl) ?_
     refine FL.weak (L' := fun γ => [(2, Value.slice none 0 0), (3, zP b), (25, Value.agg [zI fc_2', zI fa_2', st ft_2'].toArray)]) (fun γ => ⟨rfl, rfl, rfl, trivial⟩) (FL.nil (hT_2' (fun γ => [(2, Value.slice none 0 0), (3, zP b), (25, Value.agg [zI fc_2', zI fa_2', st ft_2'].toArray)]) (fun γ => ?_)))
     refine WL.storeW (vs := [zI fc_2', zI fa_2', st ft_2']) 2 rfl rfl rfl rfl rfl w8 rfl rfl rfl ?_
     refine WL.nil ?_
     refine kg (hK_22' [(2, Value.slice none 0 0), (3, zP b)] _ ?_)
     refine b8 ?_
     refine QX.nilRow 102 3 e6 ?_
     exact hE.ret [0] rfl rfl (.inl ⟨_, _, _, _, _, h, rfl⟩) (d7.of2 rfl (RV.tmp rfl) (RV.row rfl (At.own 3 rfl) x0))
    ·replace h := e9 h hb
     refine b6 ?_
     refine kg (hK_20' [(0, st text), (3, zP b), (4, zP b_1')] _ ?_)
     refine a6 ?_
     refine wm ?_
     obtain ⟨o_6', h⟩ := h
     refine WL.call amx rfl (amm b_1' text at0_2' w_4' fc_2' fa_2' ft_2' o_6') rfl trivial rfl rfl ?_
     refine WL.nil ?_
     exact kh (hK_17' (aaj text at0_2', fc_2', fa_2', ft_2', w_4', l_4') h.1 h.2) [0, 1, 2]
   ·obtain ⟨w_4', ok_2', at0_2', l_4', fc_2', fa_2', ft_2', hc, ho⟩ := hS
    cases ho
  ·replace h := e9 h hb
   refine l4 ?_
   refine kg (hK_5' [(0, st text), (3, zP b), (4, zP b_1')] _ ?_)
   refine a7 (fun _ hK_23' => ?_)
   refine a6 ?_
   refine wm ?_
   refine wm ?_
   refine wv (OV.len rfl c9) ?_
   obtain ⟨o_7', h⟩ := h
   refine WL.callS ada rfl (aet b_1' text c_1_1' w_3' c_3_1' c_4_1' c_5_1' l_3' 0 (text.length : Int) [] o_7') rfl trivial rfl rfl (fun r H' hS => ?_) (fun c H' hS => ?_)
   ·obtain ⟨w_5', ho⟩ := hS
    cases ho
    refine WL.nil ?_
    refine kg (hK_23' [(3, zP b), (4, zP b_1')] _ ?_)
    refine a7 (fun _ hK_24' => ?_)
    refine a6 ?_
    refine wm ?_
    refine wv (OV.nilCheck rfl) ?_
    refine wv (OV.fieldAddr0 rfl adw) ?_
    refine wv (OV.load rfl (At.own 0 rfl) rfl adt) ?_
    refine wv (OV.build rfl (cs := [zI 0, zI 0, st []]) rfl) ?_
    refine wA ?_
    refine WL.storeW (vs := [zI 0, zI 0, st []]) 2 rfl rfl rfl rfl rfl w8 rfl rfl rfl ?_
    refine WL.nil ?_
    refine kg (hK_24' [(2, w_5'), (3, zP b)] _ ?_)
    refine b8 ?_
    exact hE.ret [1] rfl rfl (.inl ⟨_, _, _, _, _, h, rfl⟩) (d7.of2 rfl (RV.tmp rfl) (RV.row rfl (At.own 2 rfl) x0))
   ·obtain ⟨w_5', ho⟩ := hS
    cases ho
theorem atv (t : List UInt8) : d9 Tryd.prog 15 [st t] [] [] (fun o => ∃ w : Value, o = .ret (.tuple #[w, .agg [zI (b9 t).2.1, zI (b9 t).2.2, st []].toArray]) [aho w (b9 t).1]) := by
 refine (awp t (fun l c p x => (l, c, p) = b9 t ∧ x = []) ?_).weak ?_
 ·unfold anz b9
  by_cases h0 : 4096 < t.length
  ·rw [if_pos (by simp; omega), if_pos h0]; exact ⟨rfl, rfl⟩
  ·rw [if_neg (by simp; omega), if_neg h0]
   have hg0 := aa4 (t := t) (a := 0) ⟨by omega, by omega⟩
   refine ⟨⟨by omega, by omega, by omega⟩, fun a c p x l => 0 ≤ a ∧ a ≤ t.length ∧ c = 0 ∧ p = 0 ∧ x = [] ∧ l.length ≤ a ∧ ∃ n, (t.length - a).toNat < n ∧ aa3 t (t.length + 1) [] (aaj t 0) = aa3 t n l a, fun a _ _ _ _ => (t.length - a).toNat, ⟨by omega, by omega, rfl, rfl, rfl, by simp; omega, t.length + 1, by omega, rfl⟩, ?_⟩
   rintro a c p x l ⟨a0, a1, rfl, rfl, rfl, hl, n, hn, hF⟩
   obtain ⟨n, rfl⟩ : ∃ m, n = m + 1 := ⟨n - 1, by omega⟩
   by_cases ha : a < t.length
   ·rw [if_pos (by simp; omega)]
    refine ⟨⟨a0, ha, by omega, by omega⟩, fun ok q l' c' p' x' hT => ?_⟩
    cases ho : ab8 t a with
    | error e =>
     rw [ho] at hT
     obtain ⟨rfl, rfl, rfl, rfl, rfl⟩ := hT
     rw [if_pos (show (!false) = true from rfl), hF, aa3, if_pos ha, ho]
     exact ⟨rfl, rfl⟩
    | ok r =>
     rw [ho] at hT
     obtain ⟨rfl, rfl, rfl, rfl, rfl, rfl⟩ := hT
     have hq := afc ⟨a0, ha⟩ ho
     have hg := aa4 (t := t) (a := r.2) ⟨by omega, hq.2⟩
     rw [if_neg (by simp)]
     refine ⟨⟨by omega, hq.2, by omega⟩, ⟨by omega, hg.2, rfl, rfl, rfl, by simp; omega, n, by omega, ?_⟩, by show (t.length - aaj t r.2).toNat < (t.length - a).toNat; omega⟩
     rw [hF, aa3, if_pos ha, ho]
   ·rw [if_neg (by simp; omega)]
    refine ⟨by omega, ?_⟩
    rw [hF, aa3, if_neg ha]
    exact ⟨rfl, rfl⟩
 ·rintro o (⟨w, l, c, p, x, ⟨he, rfl⟩, rfl⟩ | h)
  ·rw [← he]; exact ⟨w, rfl⟩
  ·exact h.elim
end Go.Proofs.YtifajndacnfcbaaDoor
set_option maxRecDepth 100000
namespace Go.Proofs.YtifajndacnfcbaaDoor
open Go Go.RowKit
theorem air : k9 Tryd.prog 67 = true := by kernel_rfl
theorem ai9 : k9 Tryd.prog 68 = true := by kernel_rfl
def rOf (m : Except (Int × Int) (Tok × Int)) : List UInt8 × Int × Int × Int := match m with
 | .ok (k, q) => (k.2.2, q, 0, 0)
 | .error (e, p) => ([], 0, e, p)
def rqM (t : List UInt8) (i : Int) : List UInt8 × Int × Int × Int := rOf (y5 t i)
def rrM (t : List UInt8) (i : Int) : List UInt8 × Int × Int × Int := rOf (aa6 t i)
def aex (s : List UInt8) (i : Int) (K : (List UInt8) → Int → Int → Int → Prop) : Prop :=
 (I64 (i + 1)) ∧
 ∃ (Inv_4' : Int → (List UInt8) → Prop) (mu_4' : Int → (List UInt8) → Nat),
  Inv_4' (i + 1) [] ∧ ∀ (k_3' : Int) (l_3' : List UInt8), Inv_4' k_3' l_3' →
   (if (decide (k_3' < (s.length : Int))) = true then
    (0 ≤ k_3' ∧ k_3' < s.length) ∧
    (if (decide (((s.getD k_3'.toNat 0).toNat : Int) = 34)) = true then
     (I64 (k_3' + 1)) ∧
     K l_3' (k_3' + 1) 0 0
    else
     (if (!(m9 ((s.getD k_3'.toNat 0).toNat : Int))) = true then
      K [] 0 50 k_3'
     else
      (if (!decide (((s.getD k_3'.toNat 0).toNat : Int) = 92)) = true then
       (((l_3'.length + 1) + (l_3'.length + 1) / 4 + 192) * 1 ≤ 281474976710656 ∧ l_3'.length + 1 ≤ 9223372036854775807) ∧
       (I64 (k_3' + 1)) ∧
       Inv_4' (k_3' + 1) (l_3' ++ [(s.getD k_3'.toNat 0)]) ∧ mu_4' (k_3' + 1) (l_3' ++ [(s.getD k_3'.toNat 0)]) < mu_4' k_3' l_3'
      else
       (I64 (k_3' + 1)) ∧
       (if (decide ((s.length : Int) ≤ k_3' + 1)) = true then
        K [] 0 51 i
       else
        ∃ (J0_7' : Int → (List UInt8) → Prop),
         (∀ (k_4' : Int) (l_4' : List UInt8), J0_7' k_4' l_4' →
          (I64 (k_4' + 2)) ∧
          Inv_4' (k_4' + 2) l_4' ∧ mu_4' (k_4' + 2) l_4' < mu_4' k_3' l_3') ∧
         (I64 (k_3' + 1)) ∧
         (0 ≤ (k_3' + 1) ∧ (k_3' + 1) < s.length) ∧
         (if (decide (((s.getD (k_3' + 1).toNat 0).toNat : Int) = 110)) = true then
          (((l_3'.length + 1) + (l_3'.length + 1) / 4 + 192) * 1 ≤ 281474976710656 ∧ l_3'.length + 1 ≤ 9223372036854775807) ∧
          J0_7' k_3' (l_3' ++ [10])
         else
          (if (decide (((s.getD (k_3' + 1).toNat 0).toNat : Int) = 114)) = true then
           (((l_3'.length + 1) + (l_3'.length + 1) / 4 + 192) * 1 ≤ 281474976710656 ∧ l_3'.length + 1 ≤ 9223372036854775807) ∧
           J0_7' k_3' (l_3' ++ [13])
          else
           (if (decide (((s.getD (k_3' + 1).toNat 0).toNat : Int) = 116)) = true then
            (((l_3'.length + 1) + (l_3'.length + 1) / 4 + 192) * 1 ≤ 281474976710656 ∧ l_3'.length + 1 ≤ 9223372036854775807) ∧
            J0_7' k_3' (l_3' ++ [9])
           else
            ∃ (J0_8' : Bool → Prop),
             (∀ (t66_5' : Bool), J0_8' t66_5' →
              (if t66_5' = true then
               (I64 (k_3' + 1)) ∧
               (0 ≤ (k_3' + 1) ∧ (k_3' + 1) < s.length) ∧
               (((l_3'.length + 1) + (l_3'.length + 1) / 4 + 192) * 1 ≤ 281474976710656 ∧ l_3'.length + 1 ≤ 9223372036854775807) ∧
               J0_7' k_3' (l_3' ++ [(s.getD (k_3' + 1).toNat 0)])
              else
               (if (decide (((s.getD (k_3' + 1).toNat 0).toNat : Int) = 120)) = true then
                ∃ (Inv_6' : Int → Prop) (mu_6' : Int → Nat),
                 Inv_6' 2 ∧ ∀ (d_11' : Int), Inv_6' d_11' →
                  (if (decide (d_11' < 4)) = true then
                   (I64 (k_3' + d_11')) ∧
                   (if (decide ((s.length : Int) ≤ k_3' + d_11')) = true then
                    K [] 0 51 i
                   else
                    (I64 (k_3' + d_11')) ∧
                    (0 ≤ (k_3' + d_11') ∧ (k_3' + d_11') < s.length) ∧
                    (0 ≤ ((s.getD (k_3' + d_11').toNat 0).toNat : Int) ∧ ((s.getD (k_3' + d_11').toNat 0).toNat : Int) < 256) ∧
                    (if (decide (k6 ((s.getD (k_3' + d_11').toNat 0).toNat : Int) < 0)) = true then
                     (I64 (k_3' + d_11')) ∧
                     K [] 0 50 (k_3' + d_11')
                    else
                     (I64 (d_11' + 1)) ∧
                     Inv_6' (d_11' + 1) ∧ mu_6' (d_11' + 1) < mu_6' d_11'))
                  else
                   (I64 (k_3' + 2)) ∧
                   (0 ≤ (k_3' + 2) ∧ (k_3' + 2) < s.length) ∧
                   (0 ≤ ((s.getD (k_3' + 2).toNat 0).toNat : Int) ∧ ((s.getD (k_3' + 2).toNat 0).toNat : Int) < 256) ∧
                   (I64 (16 * (k6 ((s.getD (k_3' + 2).toNat 0).toNat : Int)))) ∧
                   (I64 (k_3' + 3)) ∧
                   (0 ≤ (k_3' + 3) ∧ (k_3' + 3) < s.length) ∧
                   (0 ≤ ((s.getD (k_3' + 3).toNat 0).toNat : Int) ∧ ((s.getD (k_3' + 3).toNat 0).toNat : Int) < 256) ∧
                   (I64 ((16 * (k6 ((s.getD (k_3' + 2).toNat 0).toNat : Int))) + (k6 ((s.getD (k_3' + 3).toNat 0).toNat : Int)))) ∧
                   (0 ≤ IntKind.wrap .u8 ((16 * (k6 ((s.getD (k_3' + 2).toNat 0).toNat : Int))) + (k6 ((s.getD (k_3' + 3).toNat 0).toNat : Int))) ∧ IntKind.wrap .u8 ((16 * (k6 ((s.getD (k_3' + 2).toNat 0).toNat : Int))) + (k6 ((s.getD (k_3' + 3).toNat 0).toNat : Int))) < 256) ∧
                   (((l_3'.length + 1) + (l_3'.length + 1) / 4 + 192) * 1 ≤ 281474976710656 ∧ l_3'.length + 1 ≤ 9223372036854775807) ∧
                   (I64 (k_3' + 2)) ∧
                   J0_7' (k_3' + 2) (l_3' ++ [(IntKind.wrap .u8 ((16 * (k6 ((s.getD (k_3' + 2).toNat 0).toNat : Int))) + (k6 ((s.getD (k_3' + 3).toNat 0).toNat : Int)))).toNat.toUInt8]))
               else
                (I64 (k_3' + 1)) ∧
                K [] 0 50 (k_3' + 1)))) ∧
             (if (decide (((s.getD (k_3' + 1).toNat 0).toNat : Int) = 34)) = true then
              J0_8' (decide (((s.getD (k_3' + 1).toNat 0).toNat : Int) = 34))
             else
              J0_8' (decide (((s.getD (k_3' + 1).toNat 0).toNat : Int) = 92))))))))))
   else
    K [] 0 51 i)
theorem an2  (s : List UInt8) (i : Int) (K : (List UInt8) → Int → Int → Int → Prop) (h : aex s i K) :
  d9 Tryd.prog 47 [st s, zI i] [] [] (fun o => (∃ (v : List UInt8) (v_1' : Int) (v_2' : Int) (v_3' : Int), K v v_1' v_2' v_3' ∧ o = .ret (Value.tuple #[st v, zI v_1', zI v_2', zI v_3']) []) ∨ (False)) := by
 unfold aex at h
 refine c8 (n := 120) (L0 := [(0, st s), (1, zI i)]) Tryd.func47 rfl rfl rfl rfl (fun w0 M Q hE => ?_)
 refine a7 (fun _ hK => ?_)
 refine a6 ?_
 refine wA ?_
 refine wA ?_
 refine wA ?_
 refine wA ?_
 refine WL.nil ?_
 refine kg (hK [(0, st s), (1, zI i)] _ ?_)
 refine a7 (fun _ hK_1' => ?_)
 refine a6 ?_
 refine wA ?_
 refine WL.nilRow 5 1 k8 ?_
 refine WL.nil ?_
 refine kg (hK_1' [(0, st s), (1, zI i), (8, Value.slice none 0 0)] _ ?_)
 refine a7 (fun _ hK_2' => ?_)
 refine a6 ?_
 refine wm ?_
 obtain ⟨o, h⟩ := h
 refine wv (OV.add rfl rfl o) ?_
 refine wA ?_
 refine WL.nil ?_
 refine kg (hK_2' [(0, st s), (1, zI i), (8, Value.slice none 0 0), (9, zI (i + 1))] _ ?_)
 refine a7 (fun _ hK_3' => ?_)
 refine b7 ?_
 obtain ⟨Inv_4', mu_4', h0_4', hr_4'⟩ := h
 refine o7 (S := Int × Value × (List UInt8)) (fun σ => Inv_4' σ.1 σ.2.2) (fun σ => mu_4' σ.1 σ.2.2) (fun σ => [(0, st s), (1, zI i), (8, σ.2.1), (9, zI σ.1)]) (fun σ => [HA.row σ.2.1 5 1 σ.2.2.length (σ.2.2.flatMap k8)]) (i + 1, Value.slice none 0 0, []) h0_4' ⟨rfl, rfl, rfl, rfl, trivial⟩ rfl ?_
 rintro ⟨k_3', w_25', l_3'⟩ hi K0_186' hK_186'
 have h := hr_4' k_3' l_3' hi
 show WC _ _ _ _ [(0, st s), (1, zI i), (8, w_25'), (9, zI k_3')] [HA.row w_25' 5 1 l_3'.length (l_3'.flatMap k8)]
 refine a7 (fun _ hK_187' => ?_)
 refine a7 (fun _ hK_188' => ?_)
 refine a6 ?_
 refine wm ?_
 refine wm ?_
 refine wv (OV.len rfl c9) ?_
 refine wv (OV.lss rfl rfl) ?_
 refine WL.nil ?_
 refine kg (hK_188' [(0, st s), (1, zI i), (8, w_25'), (9, zI k_3'), (17, zB (decide (k_3' < (s.length : Int))))] _ ?_)
 refine b5 (b := decide (k_3' < (s.length : Int))) rfl (fun hb => ?_) (fun hb => ?_)
 ·replace h := e8 h hb
  refine b6 ?_
  refine kg (hK_187' [(0, st s), (1, zI i), (8, w_25'), (9, zI k_3')] _ ?_)
  refine b7 ?_
  refine a7 (fun _ hK_189' => ?_)
  refine a6 ?_
  refine wm ?_
  refine wm ?_
  obtain ⟨o_161', h⟩ := h
  refine wv (OV.index rfl rfl c9 o_161') ?_
  refine wA ?_
  refine WL.nil ?_
  refine kg (hK_189' [(0, st s), (1, zI i), (8, w_25'), (9, zI k_3'), (10, zU ((s.getD k_3'.toNat 0).toNat : Int))] _ ?_)
  refine a7 (fun _ hK_190' => ?_)
  refine a7 (fun _ hK_191' => ?_)
  refine a6 ?_
  refine wm ?_
  refine wv (OV.eql rfl rfl) ?_
  refine WL.nil ?_
  refine kg (hK_191' [(0, st s), (1, zI i), (8, w_25'), (9, zI k_3'), (10, zU ((s.getD k_3'.toNat 0).toNat : Int)), (22, zB (decide (((s.getD k_3'.toNat 0).toNat : Int) = 34)))] _ ?_)
  refine b5 (b := decide (((s.getD k_3'.toNat 0).toNat : Int) = 34)) rfl (fun hb => ?_) (fun hb => ?_)
  ·replace h := e8 h hb
   refine a7 (fun _ hK_192' => ?_)
   refine a6 ?_
   refine wm ?_
   refine wv (OV.bytesRow (l := l_3') 0 rfl rfl j6 Tryd.underlying5 c9) ?_
   refine wm ?_
   obtain ⟨o_162', h⟩ := h
   refine wv (OV.add rfl rfl o_162') ?_
   refine wA ?_
   refine wA ?_
   refine wA ?_
   refine wA ?_
   refine WL.nil ?_
   refine kg (hK_192' [(4, st l_3'), (5, zI (k_3' + 1)), (6, zI 0), (7, zI 0)] _ ?_)
   refine b8 ?_
   exact hE.ret [] rfl rfl (.inl ⟨_, _, _, _, h, rfl⟩) (d7.of4 rfl (RV.tmp rfl) (RV.tmp rfl) (RV.tmp rfl) (RV.tmp rfl))
  ·replace h := e9 h hb
   refine b6 ?_
   refine kg (hK_190' [(0, st s), (1, zI i), (8, w_25'), (9, zI k_3'), (10, zU ((s.getD k_3'.toNat 0).toNat : Int))] _ ?_)
   refine a7 (fun _ hK_193' => ?_)
   refine a7 (fun _ hK_194' => ?_)
   refine a6 ?_
   refine wm ?_
   refine WL.call (A := []) air rfl (aef ((s.getD k_3'.toNat 0).toNat : Int)) rfl trivial rfl rfl ?_
   refine wv (OV.not rfl) ?_
   refine WL.nil ?_
   refine kg (hK_194' [(0, st s), (1, zI i), (8, w_25'), (9, zI k_3'), (10, zU ((s.getD k_3'.toNat 0).toNat : Int)), (29, zB (!(m9 ((s.getD k_3'.toNat 0).toNat : Int))))] _ ?_)
   refine b5 (b := !(m9 ((s.getD k_3'.toNat 0).toNat : Int))) rfl (fun hb => ?_) (fun hb => ?_)
   ·replace h := e8 h hb
    refine a7 (fun _ hK_195' => ?_)
    refine a6 ?_
    refine wm ?_
    refine wA ?_
    refine wA ?_
    refine wA ?_
    refine wA ?_
    refine WL.nil ?_
    refine kg (hK_195' [(4, st []), (5, zI 0), (6, zI 50), (7, zI k_3')] _ ?_)
    refine b8 ?_
    exact hE.ret [] rfl rfl (.inl ⟨_, _, _, _, h, rfl⟩) (d7.of4 rfl (RV.tmp rfl) (RV.tmp rfl) (RV.tmp rfl) (RV.tmp rfl))
   ·replace h := e9 h hb
    refine b6 ?_
    refine kg (hK_193' [(0, st s), (1, zI i), (8, w_25'), (9, zI k_3'), (10, zU ((s.getD k_3'.toNat 0).toNat : Int))] _ ?_)
    refine a7 (fun _ hK_196' => ?_)
    refine a7 (fun _ hK_197' => ?_)
    refine a6 ?_
    refine wm ?_
    refine wv (OV.neq rfl rfl) ?_
    refine WL.nil ?_
    refine kg (hK_197' [(0, st s), (1, zI i), (8, w_25'), (9, zI k_3'), (10, zU ((s.getD k_3'.toNat 0).toNat : Int)), (32, zB (!decide (((s.getD k_3'.toNat 0).toNat : Int) = 92)))] _ ?_)
    refine b5 (b := !decide (((s.getD k_3'.toNat 0).toNat : Int) = 92)) rfl (fun hb => ?_) (fun hb => ?_)
    ·replace h := e8 h hb
     refine a7 (fun _ hK_198' => ?_)
     refine a6 ?_
     refine wm ?_
     refine wm ?_
     refine WL.make (MV.buildSlice (cs := [zU ((s.getD k_3'.toNat 0).toNat : Int)]) rfl j6 (by kernel_rfl)) rfl rfl rfl (fun b_22' => ?_)
     obtain ⟨o_163', h⟩ := h
     refine WL.append (f := k8) (ms := [(s.getD k_3'.toNat 0)]) 1 0 rfl rfl rfl rfl rfl rfl w6 (by decide) rfl j6 x5 rfl o_163' rfl rfl (fun w_26' => ?_)
     refine wA ?_
     refine WL.nil ?_
     refine kg (hK_198' [(0, st s), (1, zI i), (8, w_26'), (9, zI k_3')] _ ?_)
     refine a7 (fun _ hK_199' => ?_)
     refine a6 ?_
     refine wm ?_
     obtain ⟨o_164', h⟩ := h
     refine wv (OV.add rfl rfl o_164') ?_
     refine wA ?_
     refine WL.nil ?_
     refine kg (hK_199' [(0, st s), (1, zI i), (8, w_26'), (9, zI (k_3' + 1))] _ ?_)
     refine l4 ?_
     exact kh (hK_186' (k_3' + 1, w_26', l_3' ++ [(s.getD k_3'.toNat 0)]) h.1 h.2) [1]
    ·replace h := e9 h hb
     refine b6 ?_
     refine kg (hK_196' [(0, st s), (1, zI i), (8, w_25'), (9, zI k_3')] _ ?_)
     refine a7 (fun _ hK_200' => ?_)
     refine a7 (fun _ hK_201' => ?_)
     refine a6 ?_
     refine wm ?_
     obtain ⟨o_165', h⟩ := h
     refine wv (OV.add rfl rfl o_165') ?_
     refine wm ?_
     refine wv (OV.len rfl c9) ?_
     refine wv (OV.geq rfl rfl) ?_
     refine WL.nil ?_
     refine kg (hK_201' [(0, st s), (1, zI i), (8, w_25'), (9, zI k_3'), (43, zB (decide ((s.length : Int) ≤ k_3' + 1)))] _ ?_)
     refine b5 (b := decide ((s.length : Int) ≤ k_3' + 1)) rfl (fun hb => ?_) (fun hb => ?_)
     ·replace h := e8 h hb
      refine a7 (fun _ hK_202' => ?_)
      refine a6 ?_
      refine wm ?_
      refine wA ?_
      refine wA ?_
      refine wA ?_
      refine wA ?_
      refine WL.nil ?_
      refine kg (hK_202' [(4, st []), (5, zI 0), (6, zI 51), (7, zI i)] _ ?_)
      refine b8 ?_
      exact hE.ret [] rfl rfl (.inl ⟨_, _, _, _, h, rfl⟩) (d7.of4 rfl (RV.tmp rfl) (RV.tmp rfl) (RV.tmp rfl) (RV.tmp rfl))
     ·replace h := e9 h hb
      refine b6 ?_
      refine kg (hK_200' [(0, st s), (1, zI i), (8, w_25'), (9, zI k_3')] _ ?_)
      obtain ⟨J0_7', hJ_7', h⟩ := h
      refine m5 (X := Int × Value × (List UInt8)) (fun σ => J0_7' σ.1 σ.2.2) (fun σ => [(0, st s), (1, zI i), (8, σ.2.1), (9, zI σ.1)]) (fun σ => [HA.row σ.2.1 5 1 σ.2.2.length (σ.2.2.flatMap k8)]) ?_ (fun K0_240' hK_240' => ?_)
      ·rintro ⟨k_4', w_32', l_4'⟩ hj
       replace h := hJ_7' k_4' l_4' hj
       show WC _ _ _ _ [(0, st s), (1, zI i), (8, w_32'), (9, zI k_4')] [HA.row w_32' 5 1 l_4'.length (l_4'.flatMap k8)]
       refine a6 ?_
       refine wm ?_
       obtain ⟨o_203', h⟩ := h
       refine wv (OV.add rfl rfl o_203') ?_
       refine wA ?_
       refine WL.nil ?_
       exact kh (hK_186' (k_4' + 2, w_32', l_4') h.1 h.2) [0]
      ·skip
       refine a7 (fun _ hK_241' => ?_)
       refine a6 ?_
       refine wm ?_
       refine wm ?_
       obtain ⟨o_204', h⟩ := h
       refine wv (OV.add rfl rfl o_204') ?_
       obtain ⟨o_205', h⟩ := h
       refine wv (OV.index rfl rfl c9 o_205') ?_
       refine WL.nil ?_
       refine kg (hK_241' [(0, st s), (1, zI i), (8, w_25'), (9, zI k_3'), (48, zU ((s.getD (k_3' + 1).toNat 0).toNat : Int))] _ ?_)
       refine b7 ?_
       refine a7 (fun _ hK_242' => ?_)
       refine a6 ?_
       refine wv (OV.eql rfl rfl) ?_
       refine wA ?_
       refine WL.nil ?_
       refine kg (hK_242' [(0, st s), (1, zI i), (8, w_25'), (9, zI k_3'), (48, zU ((s.getD (k_3' + 1).toNat 0).toNat : Int)), (51, zB (decide (((s.getD (k_3' + 1).toNat 0).toNat : Int) = 110)))] _ ?_)
       refine b5 (b := decide (((s.getD (k_3' + 1).toNat 0).toNat : Int) = 110)) rfl (fun hb => ?_) (fun hb => ?_)
       ·replace h := e8 h hb
        refine a6 ?_
        refine wm ?_
        refine WL.make (MV.buildSlice (cs := [zU 10]) rfl j6 (by kernel_rfl)) rfl rfl rfl (fun b_28' => ?_)
        obtain ⟨o_206', h⟩ := h
        refine WL.append (f := k8) (ms := [10]) 1 0 rfl rfl rfl rfl rfl rfl w6 (by decide) rfl j6 x5 rfl o_206' rfl rfl (fun w_33' => ?_)
        refine wA ?_
        refine WL.nil ?_
        exact kh (hK_240' (k_3', w_33', l_3' ++ [10]) h) [1]
       ·replace h := e9 h hb
        refine a7 (fun _ hK_243' => ?_)
        refine a6 ?_
        refine wv (OV.eql rfl rfl) ?_
        refine wA ?_
        refine WL.nil ?_
        refine kg (hK_243' [(0, st s), (1, zI i), (8, w_25'), (9, zI k_3'), (48, zU ((s.getD (k_3' + 1).toNat 0).toNat : Int)), (56, zB (decide (((s.getD (k_3' + 1).toNat 0).toNat : Int) = 114)))] _ ?_)
        refine b5 (b := decide (((s.getD (k_3' + 1).toNat 0).toNat : Int) = 114)) rfl (fun hb => ?_) (fun hb => ?_)
        ·replace h := e8 h hb
         refine a6 ?_
         refine wm ?_
         refine WL.make (MV.buildSlice (cs := [zU 13]) rfl j6 (by kernel_rfl)) rfl rfl rfl (fun b_29' => ?_)
         obtain ⟨o_207', h⟩ := h
         refine WL.append (f := k8) (ms := [13]) 1 0 rfl rfl rfl rfl rfl rfl w6 (by decide) rfl j6 x5 rfl o_207' rfl rfl (fun w_34' => ?_)
         refine wA ?_
         refine WL.nil ?_
         exact kh (hK_240' (k_3', w_34', l_3' ++ [13]) h) [1]
        ·replace h := e9 h hb
         refine a7 (fun _ hK_244' => ?_)
         refine a6 ?_
         refine wv (OV.eql rfl rfl) ?_
         refine wA ?_
         refine WL.nil ?_
         refine kg (hK_244' [(0, st s), (1, zI i), (8, w_25'), (9, zI k_3'), (48, zU ((s.getD (k_3' + 1).toNat 0).toNat : Int)), (61, zB (decide (((s.getD (k_3' + 1).toNat 0).toNat : Int) = 116)))] _ ?_)
         refine b5 (b := decide (((s.getD (k_3' + 1).toNat 0).toNat : Int) = 116)) rfl (fun hb => ?_) (fun hb => ?_)
         ·replace h := e8 h hb
          refine a6 ?_
          refine wm ?_
          refine WL.make (MV.buildSlice (cs := [zU 9]) rfl j6 (by kernel_rfl)) rfl rfl rfl (fun b_30' => ?_)
          obtain ⟨o_208', h⟩ := h
          refine WL.append (f := k8) (ms := [9]) 1 0 rfl rfl rfl rfl rfl rfl w6 (by decide) rfl j6 x5 rfl o_208' rfl rfl (fun w_35' => ?_)
          refine wA ?_
          refine WL.nil ?_
          exact kh (hK_240' (k_3', w_35', l_3' ++ [9]) h) [1]
         ·replace h := e9 h hb
          obtain ⟨J0_8', hJ_8', h⟩ := h
          refine m5 (X := Bool) (fun σ => J0_8' σ) (fun σ => [(0, st s), (1, zI i), (8, w_25'), (9, zI k_3'), (48, zU ((s.getD (k_3' + 1).toNat 0).toNat : Int)), (66, zB σ)]) (fun σ => [HA.row w_25' 5 1 l_3'.length (l_3'.flatMap k8)]) ?_ (fun K0_246' hK_246' => ?_)
          ·rintro t66_5' hj
           replace h := hJ_8' t66_5' hj
           show WC _ _ _ _ [(0, st s), (1, zI i), (8, w_25'), (9, zI k_3'), (48, zU ((s.getD (k_3' + 1).toNat 0).toNat : Int)), (66, zB t66_5')] [HA.row w_25' 5 1 l_3'.length (l_3'.flatMap k8)]
           refine b5 (b := t66_5') rfl (fun hb => ?_) (fun hb => ?_)
           ·replace h := e8 h hb
            refine a6 ?_
            refine wm ?_
            refine wm ?_
            refine wm ?_
            obtain ⟨o_209', h⟩ := h
            refine wv (OV.add rfl rfl o_209') ?_
            obtain ⟨o_210', h⟩ := h
            refine wv (OV.index rfl rfl c9 o_210') ?_
            refine WL.make (MV.buildSlice (cs := [zU ((s.getD (k_3' + 1).toNat 0).toNat : Int)]) rfl j6 (by kernel_rfl)) rfl rfl rfl (fun b_31' => ?_)
            obtain ⟨o_211', h⟩ := h
            refine WL.append (f := k8) (ms := [(s.getD (k_3' + 1).toNat 0)]) 1 0 rfl rfl rfl rfl rfl rfl w6 (by decide) rfl j6 x5 rfl o_211' rfl rfl (fun w_36' => ?_)
            refine wA ?_
            refine WL.nil ?_
            exact kh (hK_240' (k_3', w_36', l_3' ++ [(s.getD (k_3' + 1).toNat 0)]) h) [1]
           ·replace h := e9 h hb
            refine a7 (fun _ hK_247' => ?_)
            refine a6 ?_
            refine wv (OV.eql rfl rfl) ?_
            refine wA ?_
            refine WL.nil ?_
            refine kg (hK_247' [(0, st s), (1, zI i), (8, w_25'), (9, zI k_3'), (76, zB (decide (((s.getD (k_3' + 1).toNat 0).toNat : Int) = 120)))] _ ?_)
            refine b5 (b := decide (((s.getD (k_3' + 1).toNat 0).toNat : Int) = 120)) rfl (fun hb => ?_) (fun hb => ?_)
            ·replace h := e8 h hb
             refine a7 (fun _ hK_248' => ?_)
             refine a7 (fun _ hK_249' => ?_)
             refine a6 ?_
             refine wA ?_
             refine WL.nil ?_
             refine kg (hK_249' [(0, st s), (1, zI i), (8, w_25'), (9, zI k_3'), (11, zI 2)] _ ?_)
             refine b7 ?_
             obtain ⟨Inv_6', mu_6', h0_6', hr_6'⟩ := h
             refine o7 (S := Int) (fun σ => Inv_6' σ) (fun σ => mu_6' σ) (fun σ => [(0, st s), (1, zI i), (8, w_25'), (9, zI k_3'), (11, zI σ)]) (fun σ => [HA.row w_25' 5 1 l_3'.length (l_3'.flatMap k8)]) 2 h0_6' ⟨rfl, rfl, rfl, rfl, rfl, trivial⟩ rfl ?_
             rintro d_11' hi K0_266' hK_266'
             have h := hr_6' d_11' hi
             show WC _ _ _ _ [(0, st s), (1, zI i), (8, w_25'), (9, zI k_3'), (11, zI d_11')] [HA.row w_25' 5 1 l_3'.length (l_3'.flatMap k8)]
             refine a7 (fun _ hK_267' => ?_)
             refine a7 (fun _ hK_268' => ?_)
             refine a6 ?_
             refine wm ?_
             refine wv (OV.lss rfl rfl) ?_
             refine WL.nil ?_
             refine kg (hK_268' [(0, st s), (1, zI i), (8, w_25'), (9, zI k_3'), (11, zI d_11'), (79, zB (decide (d_11' < 4)))] _ ?_)
             refine b5 (b := decide (d_11' < 4)) rfl (fun hb => ?_) (fun hb => ?_)
             ·replace h := e8 h hb
              refine b6 ?_
              refine kg (hK_267' [(0, st s), (1, zI i), (8, w_25'), (9, zI k_3'), (11, zI d_11')] _ ?_)
              refine a7 (fun _ hK_269' => ?_)
              refine b7 ?_
              refine a7 (fun _ hK_270' => ?_)
              refine a7 (fun _ hK_271' => ?_)
              refine a6 ?_
              refine wm ?_
              refine wm ?_
              obtain ⟨o_223', h⟩ := h
              refine wv (OV.add rfl rfl o_223') ?_
              refine wm ?_
              refine wv (OV.len rfl c9) ?_
              refine wv (OV.geq rfl rfl) ?_
              refine WL.nil ?_
              refine kg (hK_271' [(0, st s), (1, zI i), (8, w_25'), (9, zI k_3'), (11, zI d_11'), (87, zB (decide ((s.length : Int) ≤ k_3' + d_11')))] _ ?_)
              refine b5 (b := decide ((s.length : Int) ≤ k_3' + d_11')) rfl (fun hb => ?_) (fun hb => ?_)
              ·replace h := e8 h hb
               refine a7 (fun _ hK_272' => ?_)
               refine a6 ?_
               refine wm ?_
               refine wA ?_
               refine wA ?_
               refine wA ?_
               refine wA ?_
               refine WL.nil ?_
               refine kg (hK_272' [(4, st []), (5, zI 0), (6, zI 51), (7, zI i)] _ ?_)
               refine b8 ?_
               exact hE.ret [] rfl rfl (.inl ⟨_, _, _, _, h, rfl⟩) (d7.of4 rfl (RV.tmp rfl) (RV.tmp rfl) (RV.tmp rfl) (RV.tmp rfl))
              ·replace h := e9 h hb
               refine b6 ?_
               refine kg (hK_270' [(0, st s), (1, zI i), (8, w_25'), (9, zI k_3'), (11, zI d_11')] _ ?_)
               refine a7 (fun _ hK_273' => ?_)
               refine a6 ?_
               refine wm ?_
               refine wm ?_
               refine wm ?_
               obtain ⟨o_224', h⟩ := h
               refine wv (OV.add rfl rfl o_224') ?_
               obtain ⟨o_225', h⟩ := h
               refine wv (OV.index rfl rfl c9 o_225') ?_
               obtain ⟨o_226', h⟩ := h
               refine WL.call (A := []) ai9 rfl (afs ((s.getD (k_3' + d_11').toNat 0).toNat : Int) o_226') rfl trivial rfl rfl ?_
               refine wv (OV.lss rfl rfl) ?_
               refine WL.nil ?_
               refine kg (hK_273' [(0, st s), (1, zI i), (8, w_25'), (9, zI k_3'), (11, zI d_11'), (95, zB (decide (k6 ((s.getD (k_3' + d_11').toNat 0).toNat : Int) < 0)))] _ ?_)
               refine b5 (b := decide (k6 ((s.getD (k_3' + d_11').toNat 0).toNat : Int) < 0)) rfl (fun hb => ?_) (fun hb => ?_)
               ·replace h := e8 h hb
                refine a7 (fun _ hK_274' => ?_)
                refine a6 ?_
                refine wm ?_
                refine wm ?_
                obtain ⟨o_227', h⟩ := h
                refine wv (OV.add rfl rfl o_227') ?_
                refine wA ?_
                refine wA ?_
                refine wA ?_
                refine wA ?_
                refine WL.nil ?_
                refine kg (hK_274' [(4, st []), (5, zI 0), (6, zI 50), (7, zI (k_3' + d_11'))] _ ?_)
                refine b8 ?_
                exact hE.ret [] rfl rfl (.inl ⟨_, _, _, _, h, rfl⟩) (d7.of4 rfl (RV.tmp rfl) (RV.tmp rfl) (RV.tmp rfl) (RV.tmp rfl))
               ·replace h := e9 h hb
                refine b6 ?_
                refine kg (hK_269' [(0, st s), (1, zI i), (8, w_25'), (9, zI k_3'), (11, zI d_11')] _ ?_)
                refine a6 ?_
                refine wm ?_
                obtain ⟨o_228', h⟩ := h
                refine wv (OV.add rfl rfl o_228') ?_
                refine wA ?_
                refine WL.nil ?_
                exact kh (hK_266' (d_11' + 1) h.1 h.2) [0]
             ·replace h := e9 h hb
              refine l4 ?_
              refine kg (hK_248' [(0, st s), (1, zI i), (8, w_25'), (9, zI k_3')] _ ?_)
              refine a7 (fun _ hK_275' => ?_)
              refine m0 15 [(14, .cells [zU (IntKind.wrap .u8 ((16 * (k6 ((s.getD (k_3' + 2).toNat 0).toNat : Int))) + (k6 ((s.getD (k_3' + 3).toNat 0).toNat : Int))))].toArray 5 (0, 0))] f0 (by kernel_rfl) rfl (fun T_5' hT_5' => ?_)
              refine fv (fun _ => OV.move rfl) ?_
              refine fv (fun _ => OV.move rfl) ?_
              refine fv (fun _ => OV.move rfl) ?_
              obtain ⟨o_229', h⟩ := h
              refine fv (fun _ => OV.add rfl rfl o_229') ?_
              obtain ⟨o_230', h⟩ := h
              refine fv (fun _ => OV.index rfl rfl c9 o_230') ?_
              obtain ⟨o_231', h⟩ := h
              refine FL.call ai9 (fun _ => rfl) (afs ((s.getD (k_3' + 2).toNat 0).toNat : Int) o_231') trivial rfl (fun _ => rfl) rfl ?_
              obtain ⟨o_232', h⟩ := h
              refine fv (fun _ => OV.mul rfl rfl o_232') ?_
              refine fv (fun _ => OV.move rfl) ?_
              refine fv (fun _ => OV.move rfl) ?_
              obtain ⟨o_233', h⟩ := h
              refine fv (fun _ => OV.add rfl rfl o_233') ?_
              obtain ⟨o_234', h⟩ := h
              refine fv (fun _ => OV.index rfl rfl c9 o_234') ?_
              obtain ⟨o_235', h⟩ := h
              refine FL.call ai9 (fun _ => rfl) (afs ((s.getD (k_3' + 3).toNat 0).toNat : Int) o_235') trivial rfl (fun _ => rfl) rfl ?_
              obtain ⟨o_236', h⟩ := h
              refine fv (fun _ => OV.add rfl rfl o_236') ?_
              refine fv (fun _ => OV.conv rfl amf Tryd.underlying5) ?_
              refine FL.make (fun _ => MV.buildSlice (cs := [zU (IntKind.wrap .u8 ((16 * (k6 ((s.getD (k_3' + 2).toNat 0).toNat : Int))) + (k6 ((s.getD (k_3' + 3).toNat 0).toNat : Int))))]) rfl j6 (by kernel_rfl)) rfl (fun _ => rfl) rfl rfl ?_
              refine FL.weak (L' := fun γ => [(0, st s), (1, zI i), (8, w_25'), (9, zI k_3'), (99, w_25'), (113, Value.slice (some ⟨(γ 14), 0, none⟩) 1 1)]) (fun γ => ⟨rfl, rfl, rfl, rfl, rfl, rfl, trivial⟩) (FL.nil (hT_5' (fun γ => [(0, st s), (1, zI i), (8, w_25'), (9, zI k_3'), (99, w_25'), (113, Value.slice (some ⟨(γ 14), 0, none⟩) 1 1)]) (fun γ => ?_)))
              show WL _ _ _ _ [(0, st s), (1, zI i), (8, w_25'), (9, zI k_3'), (99, w_25'), (113, Value.slice (some ⟨(γ 14), 0, none⟩) 1 1)] [HA.blk (γ 14) (.cells [zU (IntKind.wrap .u8 ((16 * (k6 ((s.getD (k_3' + 2).toNat 0).toNat : Int))) + (k6 ((s.getD (k_3' + 3).toNat 0).toNat : Int))))].toArray 5 (0, 0)), HA.row w_25' 5 1 l_3'.length (l_3'.flatMap k8)] _
              generalize γ 14 = b_32'
              obtain ⟨o_237', h⟩ := h
              obtain ⟨o_238', h⟩ := h
              refine WL.append (f := k8) (ms := [(IntKind.wrap .u8 ((16 * (k6 ((s.getD (k_3' + 2).toNat 0).toNat : Int))) + (k6 ((s.getD (k_3' + 3).toNat 0).toNat : Int)))).toNat.toUInt8]) 1 0 rfl rfl rfl rfl (al4 o_237') rfl w6 (by decide) rfl j6 x5 rfl o_238' rfl rfl (fun w_37' => ?_)
              refine wA ?_
              refine WL.nil ?_
              refine kg (hK_275' [(0, st s), (1, zI i), (8, w_37'), (9, zI k_3')] _ ?_)
              refine a6 ?_
              refine wm ?_
              obtain ⟨o_239', h⟩ := h
              refine wv (OV.add rfl rfl o_239') ?_
              refine wA ?_
              refine WL.nil ?_
              exact kh (hK_240' (k_3' + 2, w_37', l_3' ++ [(IntKind.wrap .u8 ((16 * (k6 ((s.getD (k_3' + 2).toNat 0).toNat : Int))) + (k6 ((s.getD (k_3' + 3).toNat 0).toNat : Int)))).toNat.toUInt8]) h) [1]
            ·replace h := e9 h hb
             refine a7 (fun _ hK_276' => ?_)
             refine a6 ?_
             refine wm ?_
             obtain ⟨o_240', h⟩ := h
             refine wv (OV.add rfl rfl o_240') ?_
             refine wA ?_
             refine wA ?_
             refine wA ?_
             refine wA ?_
             refine WL.nil ?_
             refine kg (hK_276' [(4, st []), (5, zI 0), (6, zI 50), (7, zI (k_3' + 1))] _ ?_)
             refine b8 ?_
             exact hE.ret [] rfl rfl (.inl ⟨_, _, _, _, h, rfl⟩) (d7.of4 rfl (RV.tmp rfl) (RV.tmp rfl) (RV.tmp rfl) (RV.tmp rfl))
          ·skip
           refine a7 (fun _ hK_277' => ?_)
           refine a6 ?_
           refine wv (OV.eql rfl rfl) ?_
           refine wA ?_
           refine WL.nil ?_
           refine kg (hK_277' [(0, st s), (1, zI i), (8, w_25'), (9, zI k_3'), (48, zU ((s.getD (k_3' + 1).toNat 0).toNat : Int)), (66, zB (decide (((s.getD (k_3' + 1).toNat 0).toNat : Int) = 34)))] _ ?_)
           refine b5 (b := decide (((s.getD (k_3' + 1).toNat 0).toNat : Int) = 34)) rfl (fun hb => ?_) (fun hb => ?_)
           ·replace h := e8 h hb
            refine b6 ?_
            exact kh (hK_246' (decide (((s.getD (k_3' + 1).toNat 0).toNat : Int) = 34)) h) [0]
           ·replace h := e9 h hb
            refine a6 ?_
            refine wv (OV.eql rfl rfl) ?_
            refine wA ?_
            refine WL.nil ?_
            exact kh (hK_246' (decide (((s.getD (k_3' + 1).toNat 0).toNat : Int) = 92)) h) [0]
 ·replace h := e9 h hb
  refine l4 ?_
  refine kg (hK_3' [(1, zI i)] _ ?_)
  refine a7 (fun _ hK_278' => ?_)
  refine a6 ?_
  refine wm ?_
  refine wA ?_
  refine wA ?_
  refine wA ?_
  refine wA ?_
  refine WL.nil ?_
  refine kg (hK_278' [(4, st []), (5, zI 0), (6, zI 51), (7, zI i)] _ ?_)
  refine b8 ?_
  exact hE.ret [] rfl rfl (.inl ⟨_, _, _, _, h, rfl⟩) (d7.of4 rfl (RV.tmp rfl) (RV.tmp rfl) (RV.tmp rfl) (RV.tmp rfl))
def afv (s : List UInt8) (i : Int) (K : (List UInt8) → Int → Int → Int → Prop) : Prop :=
 (I64 (i + 1)) ∧
 ∃ (Inv : Int → Prop) (mu : Int → Nat),
  Inv (i + 1) ∧ ∀ (k_3' : Int), Inv k_3' →
   (if (decide (k_3' < (s.length : Int))) = true then
    (0 ≤ k_3' ∧ k_3' < s.length) ∧
    (if (!(m9 ((s.getD k_3'.toNat 0).toNat : Int))) = true then
     K [] 0 50 k_3'
    else
     (0 ≤ k_3' ∧ k_3' < s.length) ∧
     (if (decide (((s.getD k_3'.toNat 0).toNat : Int) = 47)) = true then
      (I64 (i + 1)) ∧
      (0 ≤ (i + 1) ∧ (i + 1) ≤ k_3' ∧ k_3' ≤ s.length) ∧
      (I64 (k_3' + 1)) ∧
      K ((s.drop (i + 1).toNat).take (k_3'.toNat - (i + 1).toNat)) (k_3' + 1) 0 0
     else
      ∃ (J0_2' : Int → Prop),
       (∀ (k_4' : Int), J0_2' k_4' →
        (I64 (k_4' + 1)) ∧
        Inv (k_4' + 1) ∧ mu (k_4' + 1) < mu k_3') ∧
       (0 ≤ k_3' ∧ k_3' < s.length) ∧
       (if (decide (((s.getD k_3'.toNat 0).toNat : Int) = 92)) = true then
        (I64 (k_3' + 1)) ∧
        ((decide (k_3' + 1 < (s.length : Int))) = true → (0 ≤ (k_3' + 1) ∧ (k_3' + 1) < s.length)) ∧
        (if ((decide (k_3' + 1 < (s.length : Int))) && (!(m9 ((s.getD (k_3' + 1).toNat 0).toNat : Int)))) = true then
         K [] 0 50 (k_3' + 1)
        else
         J0_2' (k_3' + 1))
       else
        J0_2' k_3')))
   else
    K [] 0 52 i)
theorem aor  (s : List UInt8) (i : Int) (K : (List UInt8) → Int → Int → Int → Prop) (h : afv s i K) :
  d9 Tryd.prog 48 [st s, zI i] [] [] (fun o => (∃ (v : List UInt8) (v_1' : Int) (v_2' : Int) (v_3' : Int), K v v_1' v_2' v_3' ∧ o = .ret (Value.tuple #[st v, zI v_1', zI v_2', zI v_3']) []) ∨ (False)) := by
 unfold afv at h
 refine c8 (n := 53) (L0 := [(0, st s), (1, zI i)]) Tryd.func48 rfl rfl rfl rfl (fun w0 M Q hE => ?_)
 refine a7 (fun _ hK => ?_)
 refine a6 ?_
 refine wA ?_
 refine wA ?_
 refine wA ?_
 refine wA ?_
 refine WL.nil ?_
 refine kg (hK [(0, st s), (1, zI i)] _ ?_)
 refine a7 (fun _ hK_1' => ?_)
 refine a6 ?_
 refine wm ?_
 obtain ⟨o, h⟩ := h
 refine wv (OV.add rfl rfl o) ?_
 refine wA ?_
 refine WL.nil ?_
 refine kg (hK_1' [(0, st s), (1, zI i), (8, zI (i + 1))] _ ?_)
 refine a7 (fun _ hK_2' => ?_)
 refine b7 ?_
 obtain ⟨Inv, mu, h0, hr⟩ := h
 refine o7 (S := Int) (fun σ => Inv σ) (fun σ => mu σ) (fun σ => [(0, st s), (1, zI i), (8, zI σ)]) (fun σ => []) (i + 1) h0 ⟨rfl, rfl, rfl, trivial⟩ rfl ?_
 rintro k_3' hi K0_41' hK_41'
 have h := hr k_3' hi
 show WC _ _ _ _ [(0, st s), (1, zI i), (8, zI k_3')] []
 refine a7 (fun _ hK_42' => ?_)
 refine a7 (fun _ hK_43' => ?_)
 refine a6 ?_
 refine wm ?_
 refine wm ?_
 refine wv (OV.len rfl c9) ?_
 refine wv (OV.lss rfl rfl) ?_
 refine WL.nil ?_
 refine kg (hK_43' [(0, st s), (1, zI i), (8, zI k_3'), (14, zB (decide (k_3' < (s.length : Int))))] _ ?_)
 refine b5 (b := decide (k_3' < (s.length : Int))) rfl (fun hb => ?_) (fun hb => ?_)
 ·replace h := e8 h hb
  refine b6 ?_
  refine kg (hK_42' [(0, st s), (1, zI i), (8, zI k_3')] _ ?_)
  refine b7 ?_
  refine a7 (fun _ hK_44' => ?_)
  refine a7 (fun _ hK_45' => ?_)
  refine a6 ?_
  refine wm ?_
  refine wm ?_
  obtain ⟨o_29', h⟩ := h
  refine wv (OV.index rfl rfl c9 o_29') ?_
  refine WL.call (A := []) air rfl (aef ((s.getD k_3'.toNat 0).toNat : Int)) rfl trivial rfl rfl ?_
  refine wv (OV.not rfl) ?_
  refine WL.nil ?_
  refine kg (hK_45' [(0, st s), (1, zI i), (8, zI k_3'), (19, zB (!(m9 ((s.getD k_3'.toNat 0).toNat : Int))))] _ ?_)
  refine b5 (b := !(m9 ((s.getD k_3'.toNat 0).toNat : Int))) rfl (fun hb => ?_) (fun hb => ?_)
  ·replace h := e8 h hb
   refine a7 (fun _ hK_46' => ?_)
   refine a6 ?_
   refine wm ?_
   refine wA ?_
   refine wA ?_
   refine wA ?_
   refine wA ?_
   refine WL.nil ?_
   refine kg (hK_46' [(4, st []), (5, zI 0), (6, zI 50), (7, zI k_3')] _ ?_)
   refine b8 ?_
   exact hE.ret [] rfl rfl (.inl ⟨_, _, _, _, h, rfl⟩) (d7.of4 rfl (RV.tmp rfl) (RV.tmp rfl) (RV.tmp rfl) (RV.tmp rfl))
  ·replace h := e9 h hb
   refine b6 ?_
   refine kg (hK_44' [(0, st s), (1, zI i), (8, zI k_3')] _ ?_)
   refine a7 (fun _ hK_47' => ?_)
   refine a7 (fun _ hK_48' => ?_)
   refine a6 ?_
   refine wm ?_
   refine wm ?_
   obtain ⟨o_30', h⟩ := h
   refine wv (OV.index rfl rfl c9 o_30') ?_
   refine wv (OV.eql rfl rfl) ?_
   refine WL.nil ?_
   refine kg (hK_48' [(0, st s), (1, zI i), (8, zI k_3'), (24, zB (decide (((s.getD k_3'.toNat 0).toNat : Int) = 47)))] _ ?_)
   refine b5 (b := decide (((s.getD k_3'.toNat 0).toNat : Int) = 47)) rfl (fun hb => ?_) (fun hb => ?_)
   ·replace h := e8 h hb
    refine a7 (fun _ hK_49' => ?_)
    refine a6 ?_
    refine wm ?_
    refine wm ?_
    obtain ⟨o_31', h⟩ := h
    refine wv (OV.add rfl rfl o_31') ?_
    refine wm ?_
    obtain ⟨o_32', h⟩ := h
    refine wv (OV.sliceS rfl rfl rfl c9 o_32') ?_
    refine wm ?_
    obtain ⟨o_33', h⟩ := h
    refine wv (OV.add rfl rfl o_33') ?_
    refine wA ?_
    refine wA ?_
    refine wA ?_
    refine wA ?_
    refine WL.nil ?_
    refine kg (hK_49' [(4, st ((s.drop (i + 1).toNat).take (k_3'.toNat - (i + 1).toNat))), (5, zI (k_3' + 1)), (6, zI 0), (7, zI 0)] _ ?_)
    refine b8 ?_
    exact hE.ret [] rfl rfl (.inl ⟨_, _, _, _, h, rfl⟩) (d7.of4 rfl (RV.tmp rfl) (RV.tmp rfl) (RV.tmp rfl) (RV.tmp rfl))
   ·replace h := e9 h hb
    refine b6 ?_
    refine kg (hK_47' [(0, st s), (1, zI i), (8, zI k_3')] _ ?_)
    obtain ⟨J0_2', hJ_2', h⟩ := h
    refine m5 (X := Int) (fun σ => J0_2' σ) (fun σ => [(0, st s), (1, zI i), (8, zI σ)]) (fun σ => []) ?_ (fun K0_55' hK_55' => ?_)
    ·rintro k_4' hj
     replace h := hJ_2' k_4' hj
     show WC _ _ _ _ [(0, st s), (1, zI i), (8, zI k_4')] []
     refine a6 ?_
     refine wm ?_
     obtain ⟨o_38', h⟩ := h
     refine wv (OV.add rfl rfl o_38') ?_
     refine wA ?_
     refine WL.nil ?_
     exact kh (hK_41' (k_4' + 1) h.1 h.2) []
    ·skip
     refine a7 (fun _ hK_56' => ?_)
     refine a6 ?_
     refine wm ?_
     refine wm ?_
     obtain ⟨o_39', h⟩ := h
     refine wv (OV.index rfl rfl c9 o_39') ?_
     refine wv (OV.eql rfl rfl) ?_
     refine WL.nil ?_
     refine kg (hK_56' [(0, st s), (1, zI i), (8, zI k_3'), (35, zB (decide (((s.getD k_3'.toNat 0).toNat : Int) = 92)))] _ ?_)
     refine b5 (b := decide (((s.getD k_3'.toNat 0).toNat : Int) = 92)) rfl (fun hb => ?_) (fun hb => ?_)
     ·replace h := e8 h hb
      refine a7 (fun _ hK_57' => ?_)
      refine a6 ?_
      refine wm ?_
      obtain ⟨o_40', h⟩ := h
      refine wv (OV.add rfl rfl o_40') ?_
      refine wA ?_
      refine WL.nil ?_
      refine kg (hK_57' [(0, st s), (1, zI i), (8, zI (k_3' + 1))] _ ?_)
      refine a7 (fun _ hK_58' => ?_)
      refine a6 ?_
      refine wm ?_
      refine wm ?_
      refine wv (OV.len rfl c9) ?_
      refine wv (OV.lss rfl rfl) ?_
      refine wm ?_
      obtain ⟨o_42', h⟩ := h
      refine WL.cut 6 [(0, st s), (1, zI i), (8, zI (k_3' + 1)), (48, zB ((decide (k_3' + 1 < (s.length : Int))) && (!(m9 ((s.getD (k_3' + 1).toNat 0).toNat : Int)))))] ?_ (fun K0_59' hK_59' => ?_)
      rotate_left
      ·refine WL.split (decide (k_3' + 1 < (s.length : Int))) (fun hb => ?_) (fun hb => ?_)
       ·have o_41' := o_42' hb
        refine WL.set 42 rfl (congrArg zB hb) ?_
        refine wm ?_
        refine wm ?_
        refine wv (OV.index rfl rfl c9 o_41') ?_
        refine WL.call (A := []) air rfl (aef ((s.getD (k_3' + 1).toNat 0).toNat : Int)) rfl trivial rfl rfl ?_
        refine wv (OV.not rfl) ?_
        refine wv (OV.pickT rfl rfl) ?_
        refine WL.set 48 rfl (bT (v := !(m9 ((s.getD (k_3' + 1).toNat 0).toNat : Int))) hb) ?_
        exact WL.end_ (kg hK_59')
       ·refine WL.set 42 rfl (congrArg zB hb) ?_
        refine wk ?_
        refine wk ?_
        refine wk ?_
        refine wk ?_
        refine wk ?_
        refine wv (OV.pickF rfl rfl) ?_
        refine WL.set 48 rfl (bF (v := !(m9 ((s.getD (k_3' + 1).toNat 0).toNat : Int))) hb) ?_
        exact WL.end_ (kg hK_59')
      refine WL.nil ?_
      refine kg (hK_58' [(0, st s), (1, zI i), (8, zI (k_3' + 1)), (48, zB ((decide (k_3' + 1 < (s.length : Int))) && (!(m9 ((s.getD (k_3' + 1).toNat 0).toNat : Int)))))] _ ?_)
      refine b5 (b := (decide (k_3' + 1 < (s.length : Int))) && (!(m9 ((s.getD (k_3' + 1).toNat 0).toNat : Int)))) rfl (fun hb => ?_) (fun hb => ?_)
      ·replace h := e8 h hb
       refine a7 (fun _ hK_60' => ?_)
       refine a6 ?_
       refine wm ?_
       refine wA ?_
       refine wA ?_
       refine wA ?_
       refine wA ?_
       refine WL.nil ?_
       refine kg (hK_60' [(4, st []), (5, zI 0), (6, zI 50), (7, zI (k_3' + 1))] _ ?_)
       refine b8 ?_
       exact hE.ret [] rfl rfl (.inl ⟨_, _, _, _, h, rfl⟩) (d7.of4 rfl (RV.tmp rfl) (RV.tmp rfl) (RV.tmp rfl) (RV.tmp rfl))
      ·replace h := e9 h hb
       refine b6 ?_
       exact kh (hK_55' (k_3' + 1) h) []
     ·replace h := e9 h hb
      refine b6 ?_
      exact kh (hK_55' k_3' h) []
 ·replace h := e9 h hb
  refine l4 ?_
  refine kg (hK_2' [(1, zI i)] _ ?_)
  refine a7 (fun _ hK_61' => ?_)
  refine a6 ?_
  refine wm ?_
  refine wA ?_
  refine wA ?_
  refine wA ?_
  refine wA ?_
  refine WL.nil ?_
  refine kg (hK_61' [(4, st []), (5, zI 0), (6, zI 52), (7, zI i)] _ ?_)
  refine b8 ?_
  exact hE.ret [] rfl rfl (.inl ⟨_, _, _, _, h, rfl⟩) (d7.of4 rfl (RV.tmp rfl) (RV.tmp rfl) (RV.tmp rfl) (RV.tmp rfl))
theorem ako (t : List UInt8) (i : Int) (h : 0 ≤ i ∧ i < t.length ∧ t.length ≤ 4096) : d9 Tryd.prog 47 [st t, .int .i64 i] [] []
  (Ret (.tuple #[st (rqM t i).1, .int .i64 (rqM t i).2.1, .int .i64 (rqM t i).2.2.1, .int .i64 (rqM t i).2.2.2]) []) := by
 refine (an2 t i (fun x q e p => (x, q, e, p) = rqM t i) ?_).weak ?_
 ·unfold aex
  have eb : ∀ i : Int, ((t.getD i.toNat 0).toNat : Int) = bt t i := fun _ => rfl
  have eb2 : ∀ i : Int, t.getD i.toNat 0 = (bt t i).toNat.toUInt8 := fun i => by unfold bt; simp
  simp only [eb]
  refine ⟨⟨by omega, by omega⟩, fun k out => i < k ∧ k ≤ t.length + 1 ∧ out.length ≤ k ∧ ∃ n, (t.length + 1 - k).toNat < n ∧ k7 t i (t.length + 1) [] (i + 1) = k7 t i n out k, fun k _ => (t.length + 1 - k).toNat, ⟨by omega, by omega, by simp; omega, t.length + 1, by omega, rfl⟩, ?_⟩
  rintro k out ⟨k0, k1, k2, n, hn, hF⟩
  obtain ⟨n, rfl⟩ : ∃ m, n = m + 1 := ⟨n - 1, by omega⟩
  have hok : ∀ x q, k7 t i (n + 1) out k = .ok (x, q) → (x, q, (0 : Int), (0 : Int)) = rqM t i := fun x q hr => by unfold rqM y5; rw [hF, hr]; rfl
  have her : ∀ e p, k7 t i (n + 1) out k = .error (e, p) → (([] : List UInt8), (0 : Int), e, p) = rqM t i := fun x q hr => by unfold rqM y5; rw [hF, hr]; rfl
  by_cases hk : k < t.length
  ·rw [if_pos (by simpa using hk)]
   have hroom : ((out.length + 1) + (out.length + 1) / 4 + 192) * 1 ≤ 281474976710656 ∧ out.length + 1 ≤ 9223372036854775807 := ⟨by omega, by omega⟩
   have hI : ∀ j : Int, 0 ≤ j → j ≤ 4 → I64 (k + j) := fun j _ _ => ⟨by omega, by omega⟩
   refine ⟨⟨by omega, hk⟩, ?_⟩
   by_cases e1 : bt t k = 34
   ·rw [if_pos (by simpa using e1)]
    exact ⟨hI 1 (by omega) (by omega), hok out (k + 1) (by rw [k7, if_pos hk, if_pos e1])⟩
   ·rw [if_neg (by simpa using e1)]
    by_cases e2 : m9 (bt t k) = true
    ·rw [if_neg (by simp [e2])]
     by_cases e3 : bt t k = 92
     ·rw [if_neg (by simp [e3])]
      refine ⟨hI 1 (by omega) (by omega), ?_⟩
      have hstep : ∀ c ok q, ab2 t k = (c, ok, q) → k7 t i (n + 1) out k = if (t.length : Int) ≤ q then .error (51, i) else if ok = false then .error (50, q) else k7 t i n (out ++ [c.toNat.toUInt8]) (q + 1) := fun c ok q he => by
       rw [k7, if_pos hk, if_neg e1, if_neg (by simp [e2]), if_neg (by simp [e3]), he]
      by_cases h1 : (t.length : Int) ≤ k + 1
      ·rw [if_pos (by simpa using h1)]
       exact her 51 i (by rw [hstep 0 false (k + 1) (by unfold ab2; rw [if_pos h1]), if_pos h1])
      ·rw [if_neg (by simpa using h1)]
       have hesc : ∀ r, ab2 t k = r → ab2 t k = r := fun _ h => h
       refine ⟨fun k' out' => k + 1 ≤ k' + 1 ∧ k' + 2 ≤ t.length ∧ out'.length ≤ out.length + 1 ∧ k7 t i (n + 1) out k = k7 t i n out' (k' + 2), fun k' out' hh => ⟨⟨by omega, by omega⟩, ⟨by omega, by omega, by omega, n, by omega, by rw [hF]; exact hh.2.2.2⟩, by show (t.length + 1 - (k' + 2)).toNat < (t.length + 1 - k).toNat; omega⟩, hI 1 (by omega) (by omega), ⟨by omega, by omega⟩, ?_⟩
       have ok1 : ∀ c : Int, ab2 t k = (c, true, k + 1) → k + 1 ≤ k + 1 ∧ k + 2 ≤ t.length ∧ (out ++ [c.toNat.toUInt8]).length ≤ out.length + 1 ∧ k7 t i (n + 1) out k = k7 t i n (out ++ [c.toNat.toUInt8]) (k + 2) := fun c hc =>
        ⟨by omega, by omega, by simp, by rw [hstep _ _ _ hc, if_neg h1, if_neg (by simp), show k + 1 + 1 = k + 2 by omega]⟩
       by_cases c1 : bt t (k + 1) = 110
       ·rw [if_pos (by simpa using c1)]
        exact ⟨hroom, ok1 10 (by unfold ab2; simp only [if_neg h1, if_pos c1])⟩
       ·rw [if_neg (by simpa using c1)]
        by_cases c2 : bt t (k + 1) = 114
        ·rw [if_pos (by simpa using c2)]
         exact ⟨hroom, ok1 13 (by unfold ab2; simp only [if_neg h1, if_neg c1, if_pos c2])⟩
        ·rw [if_neg (by simpa using c2)]
         by_cases c3 : bt t (k + 1) = 116
         ·rw [if_pos (by simpa using c3)]
          exact ⟨hroom, ok1 9 (by unfold ab2; simp only [if_neg h1, if_neg c1, if_neg c2, if_pos c3])⟩
         ·rw [if_neg (by simpa using c3)]
          refine ⟨fun r => r = decide (bt t (k + 1) = 34 ∨ bt t (k + 1) = 92), fun r hr => ?_, ?_⟩
          ·by_cases c4 : bt t (k + 1) = 34 ∨ bt t (k + 1) = 92
           ·rw [hr, if_pos (by simpa using c4), eb2 (k + 1)]
            exact ⟨hI 1 (by omega) (by omega), ⟨by omega, by omega⟩, hroom, ok1 _ (by unfold ab2; simp only [if_neg h1, if_neg c1, if_neg c2, if_neg c3, if_pos c4])⟩
           ·rw [hr, if_neg (by simpa using c4)]
            by_cases c5 : bt t (k + 1) = 120
            ·rw [if_pos (by simpa using c5)]
             have hx : ab2 t k = if (t.length : Int) ≤ k + 2 then (0, false, k + 2) else if k6 (bt t (k + 2)) < 0 then (0, false, k + 2) else if (t.length : Int) ≤ k + 3 then (0, false, k + 3) else if k6 (bt t (k + 3)) < 0 then (0, false, k + 3) else (16 * k6 (bt t (k + 2)) + k6 (bt t (k + 3)), true, k + 3) := by
              unfold ab2; simp only [if_neg h1, if_neg c1, if_neg c2, if_neg c3, if_neg c4, if_pos c5]
             refine ⟨fun d => 2 ≤ d ∧ d ≤ 4 ∧ (3 ≤ d → k + 2 < t.length ∧ 0 ≤ k6 (bt t (k + 2))) ∧ (4 ≤ d → k + 3 < t.length ∧ 0 ≤ k6 (bt t (k + 3))), fun d => (4 - d).toNat, ⟨by omega, by omega, fun _ => by omega, fun _ => by omega⟩, ?_⟩
             rintro d ⟨d0, d1, d2, d3⟩
             by_cases hd : d < 4
             ·rw [if_pos (by simpa using hd)]
              have hdd : d = 2 ∨ d = 3 := by omega
              have hId : I64 (k + d) := hI d (by omega) (by omega)
              refine ⟨hId, ?_⟩
              by_cases f1 : (t.length : Int) ≤ k + d
              ·rw [if_pos (by simpa using f1)]
               rcases hdd with rfl | rfl
               ·exact her 51 i (by rw [hstep 0 false (k + 2) (by rw [hx, if_pos f1]), if_pos f1])
               ·have := d2 (by omega)
                exact her 51 i (by rw [hstep 0 false (k + 3) (by rw [hx, if_neg (by omega), if_neg (by omega), if_pos f1]), if_pos f1])
              ·rw [if_neg (by simpa using f1)]
               refine ⟨hId, ⟨by omega, by omega⟩, ak2 t (k + d), ?_⟩
               by_cases f2 : k6 (bt t (k + d)) < 0
               ·rw [if_pos (by simpa using f2)]
                refine ⟨hId, ?_⟩
                rcases hdd with rfl | rfl
                ·exact her 50 (k + 2) (by rw [hstep 0 false (k + 2) (by rw [hx, if_neg f1, if_pos f2]), if_neg f1, if_pos rfl])
                ·have := d2 (by omega)
                 exact her 50 (k + 3) (by rw [hstep 0 false (k + 3) (by rw [hx, if_neg (by omega), if_neg (by omega), if_neg f1, if_pos f2]), if_neg f1, if_pos rfl])
               ·rw [if_neg (by simpa using f2)]
                refine ⟨⟨by omega, by omega⟩, ⟨by omega, by omega, fun _ => ?_, fun _ => ?_⟩, by show (4 - (d + 1)).toNat < (4 - d).toNat; omega⟩
                ·rcases hdd with rfl | rfl
                 ·exact ⟨by omega, by omega⟩
                 ·exact d2 (by omega)
                ·rcases hdd with rfl | rfl
                 ·omega
                 ·exact ⟨by omega, by omega⟩
             ·rw [if_neg (by simpa using hd)]
              have g2 := d2 (by omega)
              have g3 := d3 (by omega)
              have r2 := ade (c := bt t (k + 2))
              have r3 := ade (c := bt t (k + 3))
              have hwr : IntKind.wrap .u8 (16 * k6 (bt t (k + 2)) + k6 (bt t (k + 3))) = 16 * k6 (bt t (k + 2)) + k6 (bt t (k + 3)) := IntWalk.u8_in _ (by omega)
              rw [hwr]
              refine ⟨hI 2 (by omega) (by omega), ⟨by omega, g2.1⟩, ak2 t _, ⟨by omega, by omega⟩, hI 3 (by omega) (by omega), ⟨by omega, g3.1⟩, ak2 t _, ⟨by omega, by omega⟩, ⟨by omega, by omega⟩, hroom, hI 2 (by omega) (by omega), by omega, by omega, by simp, ?_⟩
              rw [hstep (16 * k6 (bt t (k + 2)) + k6 (bt t (k + 3))) true (k + 3) (by rw [hx, if_neg (by omega), if_neg (by omega), if_neg (by omega), if_neg (by omega)]), if_neg (by omega), if_neg (by simp), show k + 3 + 1 = k + 2 + 2 by omega]
            ·rw [if_neg (by simpa using c5)]
             exact ⟨hI 1 (by omega) (by omega), her 50 (k + 1) (by rw [hstep 0 false (k + 1) (by unfold ab2; simp only [if_neg h1, if_neg c1, if_neg c2, if_neg c3, if_neg c4, if_neg c5]), if_neg h1, if_pos rfl])⟩
          ·by_cases c4 : bt t (k + 1) = 34
           ·simp [c4]
           ·simp [c4]
     ·rw [if_pos (by simpa using e3)]
      refine ⟨hroom, hI 1 (by omega) (by omega), ⟨by omega, by omega, by simp; omega, n, by omega, ?_⟩, by show (t.length + 1 - (k + 1)).toNat < (t.length + 1 - k).toNat; omega⟩
      rw [hF, k7, if_pos hk, if_neg e1, if_neg (by simp [e2]), if_pos e3, eb2 k]
    ·rw [if_pos (by simpa using e2)]
     exact her 50 k (by rw [k7, if_pos hk, if_neg e1, if_pos (by simpa using e2)])
  ·rw [if_neg (by simpa using hk)]
   exact her 51 i (by rw [k7, if_neg hk])
 ·rintro o (⟨x, q, e, p, he, rfl⟩ | h)
  ·rw [← he]; rfl
  ·exact h.elim
theorem alv (t : List UInt8) (i : Int) (h : 0 ≤ i ∧ i < t.length ∧ t.length ≤ 4096) : d9 Tryd.prog 48 [st t, .int .i64 i] [] []
  (Ret (.tuple #[st (rrM t i).1, .int .i64 (rrM t i).2.1, .int .i64 (rrM t i).2.2.1, .int .i64 (rrM t i).2.2.2]) []) := by
 refine (aor t i (fun x q e p => (x, q, e, p) = rrM t i) ?_).weak ?_
 ·unfold afv
  have eb : ∀ i : Int, ((t.getD i.toNat 0).toNat : Int) = bt t i := fun _ => rfl
  simp only [eb]
  refine ⟨⟨by omega, by omega⟩, fun k => i < k ∧ k ≤ t.length + 2 ∧ ∃ n, (t.length + 1 - k).toNat < n ∧ n7 t i (t.length + 1) (i + 1) = n7 t i n k, fun k => (t.length + 2 - k).toNat, ⟨by omega, by omega, t.length + 1, by omega, rfl⟩, ?_⟩
  rintro k ⟨k0, k1, n, hn, hF⟩
  obtain ⟨n, rfl⟩ : ∃ m, n = m + 1 := ⟨n - 1, by omega⟩
  have hok : ∀ x q, n7 t i (n + 1) k = .ok (x, q) → (x, q, (0 : Int), (0 : Int)) = rrM t i := fun x q hr => by unfold rrM aa6; rw [hF, hr]; rfl
  have her : ∀ e p, n7 t i (n + 1) k = .error (e, p) → (([] : List UInt8), (0 : Int), e, p) = rrM t i := fun x q hr => by unfold rrM aa6; rw [hF, hr]; rfl
  have hnil : ∀ m k, (t.length : Int) ≤ k → n7 t i (m + 1) k = .error (52, i) := fun m k hk => by rw [n7, if_neg (by omega)]
  by_cases hk : k < t.length
  ·rw [if_pos (by simpa using hk)]
   have hI : ∀ j : Int, 0 ≤ j → j ≤ 4 → I64 (k + j) := fun j _ _ => ⟨by omega, by omega⟩
   refine ⟨⟨by omega, hk⟩, ?_⟩
   by_cases e2 : m9 (bt t k) = true
   ·rw [if_neg (by simp [e2])]
    refine ⟨⟨by omega, hk⟩, ?_⟩
    by_cases e1 : bt t k = 47
    ·rw [if_pos (by simpa using e1)]
     exact ⟨⟨by omega, by omega⟩, ⟨by omega, by omega, by omega⟩, hI 1 (by omega) (by omega), hok _ _ (by rw [n7, if_pos hk, if_neg (by omega), if_neg (by simp [e2]), if_pos e1]; rfl)⟩
    ·rw [if_neg (by simpa using e1)]
     refine ⟨fun k' => k ≤ k' ∧ k' ≤ t.length ∧ ∃ m, (t.length + 1 - (k' + 1)).toNat < m ∧ n7 t i (n + 1) k = n7 t i m (k' + 1), fun k' hh => ?_, ⟨by omega, hk⟩, ?_⟩
     ·obtain ⟨q0, q1, m, hm, hR⟩ := hh
      exact ⟨⟨by omega, by omega⟩, ⟨by omega, by omega, m, hm, by rw [hF, hR]⟩, by show (t.length + 2 - (k' + 1)).toNat < (t.length + 2 - k).toNat; omega⟩
     ·by_cases e3 : bt t k = 92
      ·rw [if_pos (by simpa using e3)]
       refine ⟨hI 1 (by omega) (by omega), fun hh => ⟨by omega, by simpa using hh⟩, ?_⟩
       by_cases e4 : k + 1 < t.length
       ·by_cases e5 : m9 (bt t (k + 1)) = true
        ·rw [if_neg (by simp [e5])]
         exact ⟨by omega, by omega, n, by omega, by rw [n7, if_pos hk, if_pos ⟨e3, e4⟩, if_neg (by simp [e5]), show k + 1 + 1 = k + 2 by omega]⟩
        ·rw [if_pos (by simp [e4]; simpa using e5)]
         exact her 50 (k + 1) (by rw [n7, if_pos hk, if_pos ⟨e3, e4⟩, if_pos (by simpa using e5)])
       ·rw [if_neg (by simp [e4])]
        refine ⟨by omega, by omega, 1, by omega, ?_⟩
        rw [hnil 0 _ (by omega), n7, if_pos hk, if_neg (by omega), if_neg (by simp [e2]), if_neg e1]
        obtain ⟨n, rfl⟩ : ∃ m, n = m + 1 := ⟨n - 1, by omega⟩
        rw [hnil n _ (by omega)]
      ·rw [if_neg (by simpa using e3)]
       exact ⟨by omega, by omega, n, by omega, by rw [n7, if_pos hk, if_neg (by omega), if_neg (by simp [e2]), if_neg e1]⟩
   ·rw [if_pos (by simpa using e2)]
    refine her 50 k ?_
    have hne : bt t k ≠ 92 := fun e => e2 (by rw [e]; rfl)
    rw [n7, if_pos hk, if_neg (by omega), if_pos (by simpa using e2)]
  ·rw [if_neg (by simpa using hk)]
   exact her 52 i (hnil n k (by omega))
 ·rintro o (⟨x, q, e, p, he, rfl⟩ | h)
  ·rw [← he]; rfl
  ·exact h.elim
end Go.Proofs.YtifajndacnfcbaaDoor
