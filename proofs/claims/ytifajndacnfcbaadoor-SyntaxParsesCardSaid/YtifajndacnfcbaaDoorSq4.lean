/-
  Merged: TkF, SyC.
-/
import Derived.Test.YtifajndacnfcbaaDoorSq3
set_option maxRecDepth 100000
namespace Go.Proofs.YtifajndacnfcbaaDoor
open Go Go.RowKit
theorem al9 : k9 Tryd.prog 44 = true := by kernel_rfl
theorem ajw : ab0 Tryd.prog 64 = some [zI 0, zI 0, st []] := by kernel_rfl
theorem ake : o8 Tryd.prog 64 3 = true := by kernel_rfl
theorem amo : k9 Tryd.prog 45 = true := by kernel_rfl
theorem m6 : f6 Tryd.prog 64 0 = some 0 := by kernel_rfl
theorem l3 : f6 Tryd.prog 64 2 = some 2 := by kernel_rfl
theorem aep : o8 Tryd.prog 9 1 = true := by kernel_rfl
theorem at8 : k9 Tryd.prog 47 = true := by kernel_rfl
theorem at6 : k9 Tryd.prog 48 = true := by kernel_rfl
theorem atk : k9 Tryd.prog 49 = true := by kernel_rfl
theorem amk : RowT Tryd.prog 64 3 := ⟨by kernel_rfl, by kernel_rfl⟩
theorem r9 : slB Tryd.prog 57 64 3 = true := by kernel_rfl
theorem ali : afi Tryd.prog 64 = some ([zI 0, zI 0, st []], 3, 32) := by kernel_rfl
def ahu (s : List UInt8) (K : (List Tok) → Int → Int → Prop) : Prop :=
 (if (decide (4096 < (s.length : Int))) = true then
  K ([] : List Tok) 1 0
 else
  (0 ≤ (0 : Int) ∧ (0 : Int) ≤ s.length ∧ s.length ≤ 4096) ∧
  ∃ (Inv_4' : Int → (List Tok) → Prop) (mu_4' : Int → (List Tok) → Nat),
   Inv_4' (aaj s 0) [] ∧ ∀ (i_1' : Int) (l_1' : List Tok), Inv_4' i_1' l_1' →
    (if (decide (i_1' < (s.length : Int))) = true then
     (0 ≤ i_1' ∧ i_1' < s.length) ∧
     (I64 (i_1' + 1)) ∧
     ∃ (J0_2' : Int → Int → Int → Int → (List UInt8) → Prop),
      (∀ (next_12' : Int) (e_2' : Int) (at0_2' : Int) (t_0_2' : Int) (t_2_2' : List UInt8), J0_2' next_12' e_2' at0_2' t_0_2' t_2_2' →
       (if (!decide (e_2' = 0)) = true then
        K ([] : List Tok) e_2' at0_2'
       else
        (((l_1'.length + 1) + (l_1'.length + 1) / 4 + 192) * 32 ≤ 281474976710656 ∧ l_1'.length + 1 ≤ 9223372036854775807) ∧
        (0 ≤ next_12' ∧ next_12' ≤ s.length ∧ s.length ≤ 4096) ∧
        Inv_4' (aaj s next_12') (l_1' ++ [(t_0_2', i_1', t_2_2')]) ∧ mu_4' (aaj s next_12') (l_1' ++ [(t_0_2', i_1', t_2_2')]) < mu_4' i_1' l_1')) ∧
      (if (j5 ((s.getD i_1'.toNat 0).toNat : Int)) = true then
       ∃ (Inv_6' : Int → Prop) (mu_6' : Int → Nat),
        Inv_6' (i_1' + 1) ∧ ∀ (next_14' : Int), Inv_6' next_14' →
         ((decide (next_14' < (s.length : Int))) = true → (0 ≤ next_14' ∧ next_14' < s.length) ∧ ((j5 ((s.getD next_14'.toNat 0).toNat : Int)) = false → (0 ≤ next_14' ∧ next_14' < s.length))) ∧
         (if ((decide (next_14' < (s.length : Int))) && ((j5 ((s.getD next_14'.toNat 0).toNat : Int)) || (m8 ((s.getD next_14'.toNat 0).toNat : Int)))) = true then
          (I64 (next_14' + 1)) ∧
          Inv_6' (next_14' + 1) ∧ mu_6' (next_14' + 1) < mu_6' next_14'
         else
          (I64 (next_14' - i_1')) ∧
          (if (decide (32 < next_14' - i_1')) = true then
           K ([] : List Tok) 1 i_1'
          else
           (0 ≤ i_1' ∧ i_1' ≤ next_14' ∧ next_14' ≤ s.length) ∧
           J0_2' next_14' 0 0 1 ((s.drop i_1'.toNat).take (next_14'.toNat - i_1'.toNat))))
      else
       (if (decide (((s.getD i_1'.toNat 0).toNat : Int) = 34)) = true then
        (0 ≤ i_1' ∧ i_1' < s.length ∧ s.length ≤ 4096) ∧
        J0_2' ((rqM s i_1').2.1) ((rqM s i_1').2.2.1) ((rqM s i_1').2.2.2) 2 ((rqM s i_1').1)
       else
        (if (decide (((s.getD i_1'.toNat 0).toNat : Int) = 47)) = true then
         (0 ≤ i_1' ∧ i_1' < s.length ∧ s.length ≤ 4096) ∧
         J0_2' ((rrM s i_1').2.1) ((rrM s i_1').2.2.1) ((rrM s i_1').2.2.2) 3 ((rrM s i_1').1)
        else
         (0 ≤ ((s.getD i_1'.toNat 0).toNat : Int) ∧ ((s.getD i_1'.toNat 0).toNat : Int) < 256) ∧
         (if (aah.contains (((s.getD i_1'.toNat 0).toNat : Int)).toNat.toUInt8) = true then
          (I64 (i_1' + 1)) ∧
          (0 ≤ i_1' ∧ i_1' ≤ (i_1' + 1) ∧ (i_1' + 1) ≤ s.length) ∧
          J0_2' (i_1' + 1) 0 0 4 ((s.drop i_1'.toNat).take ((i_1' + 1).toNat - i_1'.toNat))
         else
          ((decide (((s.getD i_1'.toNat 0).toNat : Int) = 62)) = true → (I64 (i_1' + 1))) ∧
          (((decide (((s.getD i_1'.toNat 0).toNat : Int) = 62)) && (decide (i_1' + 1 < (s.length : Int)))) = true → (I64 (i_1' + 1)) ∧ (0 ≤ (i_1' + 1) ∧ (i_1' + 1) < s.length)) ∧
          (if (((decide (((s.getD i_1'.toNat 0).toNat : Int) = 62)) && (decide (i_1' + 1 < (s.length : Int)))) && (decide (((s.getD (i_1' + 1).toNat 0).toNat : Int) = 62))) = true then
           (I64 (i_1' + 2)) ∧
           J0_2' (i_1' + 2) 0 0 4 ([62, 62] : List UInt8)
          else
           K ([] : List Tok) 50 i_1')))))
    else
     (((l_1'.length + 1) + (l_1'.length + 1) / 4 + 192) * 32 ≤ 281474976710656 ∧ l_1'.length + 1 ≤ 9223372036854775807) ∧
     K (l_1' ++ [(0, (s.length : Int), ([] : List UInt8))]) 0 0))
theorem aqr  (s : List UInt8) (K : (List Tok) → Int → Int → Prop) (h : ahu s K) :
  d9 Tryd.prog 18 [st s] [] [] (fun o => (∃ (w_6' : Value) (v : List Tok) (v_1' : Int) (v_2' : Int), K v v_1' v_2' ∧ o = .ret (Value.tuple #[w_6', zI v_1', zI v_2']) [HA.row w_6' 64 3 v.length (v.flatMap e6)]) ∨ (False)) := by
 unfold ahu at h
 refine c8 (n := 130) (L0 := [(0, st s)]) Tryd.func18 rfl rfl rfl rfl (fun w0 M Q hE => ?_)
 refine a7 (fun _ hK => ?_)
 refine a6 ?_
 refine wA ?_
 refine WL.nilRow 64 3 e6 ?_
 refine wA ?_
 refine wA ?_
 refine WL.nil ?_
 refine kg (hK [(0, st s)] _ ?_)
 refine a7 (fun _ hK_1' => ?_)
 refine a7 (fun _ hK_2' => ?_)
 refine a6 ?_
 refine wm ?_
 refine wv (OV.len rfl c9) ?_
 refine wv (OV.gtr rfl rfl) ?_
 refine WL.nil ?_
 refine kg (hK_2' [(0, st s), (14, zB (decide (4096 < (s.length : Int))))] _ ?_)
 refine b5 (b := decide (4096 < (s.length : Int))) rfl (fun hb => ?_) (fun hb => ?_)
 ·replace h := e8 h hb
  refine a7 (fun _ hK_3' => ?_)
  refine a6 ?_
  refine wA ?_
  refine WL.nilRow 64 3 e6 ?_
  refine wA ?_
  refine wA ?_
  refine WL.nil ?_
  refine kg (hK_3' [(2, Value.slice none 0 0), (3, zI 1), (4, zI 0)] _ ?_)
  refine b8 ?_
  exact hE.ret [0] rfl rfl (.inl ⟨_, _, _, _, h, rfl⟩) (d7.of3 rfl (RV.tmp rfl) (RV.tmp rfl) (RV.tmp rfl))
 ·replace h := e9 h hb
  refine b6 ?_
  refine kg (hK_1' [(0, st s)] _ ?_)
  refine a7 (fun _ hK_4' => ?_)
  refine a6 ?_
  refine wA ?_
  refine WL.nilRow 64 3 e6 ?_
  refine WL.nil ?_
  refine kg (hK_4' [(0, st s), (5, Value.slice none 0 0)] _ ?_)
  refine a7 (fun _ hK_5' => ?_)
  refine a6 ?_
  refine wm ?_
  obtain ⟨o, h⟩ := h
  refine WL.call (A := []) al9 rfl (ao6 s 0 o) rfl trivial rfl rfl ?_
  refine wA ?_
  refine WL.nil ?_
  refine kg (hK_5' [(0, st s), (5, Value.slice none 0 0), (6, zI (aaj s 0))] _ ?_)
  refine a7 (fun _ hK_6' => ?_)
  refine b7 ?_
  refine WC.pick (H' := [HA.row (Value.slice none 0 0) 64 3 ([] : List Tok).length (([] : List Tok).flatMap e6)]) [0] rfl rfl ?_
  obtain ⟨Inv_4', mu_4', h0_4', hr_4'⟩ := h
  refine o7 (S := Int × Value × (List Tok)) (fun σ => Inv_4' σ.1 σ.2.2) (fun σ => mu_4' σ.1 σ.2.2) (fun σ => [(0, st s), (5, σ.2.1), (6, zI σ.1)]) (fun σ => [HA.row σ.2.1 64 3 σ.2.2.length (σ.2.2.flatMap e6)]) (aaj s 0, Value.slice none 0 0, []) h0_4' ⟨rfl, rfl, rfl, trivial⟩ rfl ?_
  rintro ⟨i_1', w_3', l_1'⟩ hi K0_139' hK_139'
  have h := hr_4' i_1' l_1' hi
  show WC _ _ _ _ [(0, st s), (5, w_3'), (6, zI i_1')] [HA.row w_3' 64 3 l_1'.length (l_1'.flatMap e6)]
  refine a7 (fun _ hK_140' => ?_)
  refine a7 (fun _ hK_141' => ?_)
  refine a6 ?_
  refine wm ?_
  refine wm ?_
  refine wv (OV.len rfl c9) ?_
  refine wv (OV.lss rfl rfl) ?_
  refine WL.nil ?_
  refine kg (hK_141' [(0, st s), (5, w_3'), (6, zI i_1'), (20, zB (decide (i_1' < (s.length : Int))))] _ ?_)
  refine b5 (b := decide (i_1' < (s.length : Int))) rfl (fun hb => ?_) (fun hb => ?_)
  ·replace h := e8 h hb
   refine b6 ?_
   refine kg (hK_140' [(0, st s), (5, w_3'), (6, zI i_1')] _ ?_)
   refine b7 ?_
   refine a7 (fun _ hK_142' => ?_)
   refine a6 ?_
   refine wm ?_
   refine wm ?_
   obtain ⟨o_133', h⟩ := h
   refine wv (OV.index rfl rfl c9 o_133') ?_
   refine wA ?_
   refine WL.nil ?_
   refine kg (hK_142' [(0, st s), (5, w_3'), (6, zI i_1'), (7, zU ((s.getD i_1'.toNat 0).toNat : Int))] _ ?_)
   refine a7 (fun _ hK_143' => ?_)
   refine a6 ?_
   refine wm ?_
   refine wv (OV.build rfl (cs := [zI 0, zI i_1', st []]) rfl) ?_
   refine WL.make (MV.alloc ajw) rfl rfl rfl (fun b_4' => ?_)
   refine WL.storeW (vs := [zI 0, zI i_1', st []]) 0 rfl rfl rfl rfl rfl ake rfl rfl rfl ?_
   refine WL.nil ?_
   refine kg (hK_143' [(0, st s), (5, w_3'), (6, zI i_1'), (7, zU ((s.getD i_1'.toNat 0).toNat : Int)), (8, zP b_4')] _ ?_)
   refine a7 (fun _ hK_144' => ?_)
   refine a6 ?_
   refine wm ?_
   obtain ⟨o_134', h⟩ := h
   refine wv (OV.add rfl rfl o_134') ?_
   refine wA ?_
   refine wA ?_
   refine wA ?_
   refine WL.nil ?_
   refine kg (hK_144' [(0, st s), (5, w_3'), (6, zI i_1'), (7, zU ((s.getD i_1'.toNat 0).toNat : Int)), (8, zP b_4'), (9, zI (i_1' + 1)), (10, zI 0), (11, zI 0)] _ ?_)
   obtain ⟨J0_2', hJ_2', h⟩ := h
   refine m5 (X := Int × Int × Int × Int × (List UInt8)) (fun σ => J0_2' σ.1 σ.2.1 σ.2.2.1 σ.2.2.2.1 σ.2.2.2.2) (fun σ => [(0, st s), (5, w_3'), (8, zP b_4'), (9, zI σ.1), (10, zI σ.2.1), (11, zI σ.2.2.1)]) (fun σ => [HA.blk b_4' (.cells [zI σ.2.2.2.1, zI i_1', st σ.2.2.2.2].toArray 64 (0, 0)), HA.row w_3' 64 3 l_1'.length (l_1'.flatMap e6)]) ?_ (fun K0_173' hK_173' => ?_)
   ·rintro ⟨next_12', e_2', at0_2', t_0_2', t_2_2'⟩ hj
    replace h := hJ_2' next_12' e_2' at0_2' t_0_2' t_2_2' hj
    show WC _ _ _ _ [(0, st s), (5, w_3'), (8, zP b_4'), (9, zI next_12'), (10, zI e_2'), (11, zI at0_2')] [HA.blk b_4' (.cells [zI t_0_2', zI i_1', st t_2_2'].toArray 64 (0, 0)), HA.row w_3' 64 3 l_1'.length (l_1'.flatMap e6)]
    refine a7 (fun _ hK_174' => ?_)
    refine a7 (fun _ hK_175' => ?_)
    refine a6 ?_
    refine wm ?_
    refine wv (OV.neq rfl rfl) ?_
    refine WL.nil ?_
    refine kg (hK_175' [(0, st s), (5, w_3'), (8, zP b_4'), (9, zI next_12'), (10, zI e_2'), (11, zI at0_2'), (114, zB (!decide (e_2' = 0)))] _ ?_)
    refine b5 (b := !decide (e_2' = 0)) rfl (fun hb => ?_) (fun hb => ?_)
    ·replace h := e8 h hb
     refine a7 (fun _ hK_176' => ?_)
     refine a6 ?_
     refine wm ?_
     refine wm ?_
     refine wA ?_
     refine WL.nilRow 64 3 e6 ?_
     refine wA ?_
     refine wA ?_
     refine WL.nil ?_
     refine kg (hK_176' [(2, Value.slice none 0 0), (3, zI e_2'), (4, zI at0_2')] _ ?_)
     refine b8 ?_
     exact hE.ret [0] rfl rfl (.inl ⟨_, _, _, _, h, rfl⟩) (d7.of3 rfl (RV.tmp rfl) (RV.tmp rfl) (RV.tmp rfl))
    ·replace h := e9 h hb
     refine b6 ?_
     refine kg (hK_174' [(0, st s), (5, w_3'), (8, zP b_4'), (9, zI next_12')] _ ?_)
     refine a7 (fun _ hK_177' => ?_)
     refine a6 ?_
     refine wm ?_
     refine wv (OV.loadR rfl (At.own 0 rfl) amk) ?_
     refine WL.make (MV.buildSlice (cs := [zI t_0_2', zI i_1', st t_2_2']) rfl r9 (by kernel_rfl)) rfl rfl rfl (fun b_5' => ?_)
     obtain ⟨o_166', h⟩ := h
     refine WL.append (f := e6) (ms := [(t_0_2', i_1', t_2_2')]) 2 0 rfl rfl rfl rfl rfl rfl p9 (by decide) rfl r9 ali rfl o_166' rfl rfl (fun w_4' => ?_)
     refine wA ?_
     refine WL.nil ?_
     refine kg (hK_177' [(0, st s), (5, w_4'), (9, zI next_12')] _ ?_)
     refine a6 ?_
     refine wm ?_
     refine wm ?_
     obtain ⟨o_167', h⟩ := h
     refine WL.call (A := []) al9 rfl (ao6 s next_12' o_167') rfl trivial rfl rfl ?_
     refine wA ?_
     refine WL.nil ?_
     exact kh (hK_139' (aaj s next_12', w_4', l_1' ++ [(t_0_2', i_1', t_2_2')]) h.1 h.2) [2]
   ·skip
    refine a7 (fun _ hK_178' => ?_)
    refine a6 ?_
    refine wm ?_
    refine WL.call (A := []) amo rfl (af0 ((s.getD i_1'.toNat 0).toNat : Int)) rfl trivial rfl rfl ?_
    refine WL.nil ?_
    refine kg (hK_178' [(0, st s), (5, w_3'), (6, zI i_1'), (7, zU ((s.getD i_1'.toNat 0).toNat : Int)), (8, zP b_4'), (9, zI (i_1' + 1)), (10, zI 0), (11, zI 0), (29, zB (j5 ((s.getD i_1'.toNat 0).toNat : Int)))] _ ?_)
    refine b5 (b := j5 ((s.getD i_1'.toNat 0).toNat : Int)) rfl (fun hb => ?_) (fun hb => ?_)
    ·replace h := e8 h hb
     refine a7 (fun _ hK_179' => ?_)
     refine b7 ?_
     obtain ⟨Inv_6', mu_6', h0_6', hr_6'⟩ := h
     refine o7 (S := Int) (fun σ => Inv_6' σ) (fun σ => mu_6' σ) (fun σ => [(0, st s), (5, w_3'), (6, zI i_1'), (8, zP b_4'), (9, zI σ), (10, zI 0), (11, zI 0)]) (fun σ => [HA.blk b_4' (.cells [zI 0, zI i_1', st []].toArray 64 (0, 0)), HA.row w_3' 64 3 l_1'.length (l_1'.flatMap e6)]) (i_1' + 1) h0_6' ⟨rfl, rfl, rfl, rfl, rfl, rfl, rfl, trivial⟩ rfl ?_
     rintro next_14' hi K0_188' hK_188'
     have h := hr_6' next_14' hi
     show WC _ _ _ _ [(0, st s), (5, w_3'), (6, zI i_1'), (8, zP b_4'), (9, zI next_14'), (10, zI 0), (11, zI 0)] [HA.blk b_4' (.cells [zI 0, zI i_1', st []].toArray 64 (0, 0)), HA.row w_3' 64 3 l_1'.length (l_1'.flatMap e6)]
     refine a7 (fun _ hK_189' => ?_)
     refine a7 (fun _ hK_190' => ?_)
     refine a6 ?_
     refine wm ?_
     refine wm ?_
     refine wv (OV.len rfl c9) ?_
     refine wv (OV.lss rfl rfl) ?_
     refine wm ?_
     obtain ⟨o_181', h⟩ := h
     refine WL.cut 11 [(0, st s), (5, w_3'), (6, zI i_1'), (8, zP b_4'), (9, zI next_14'), (10, zI 0), (11, zI 0), (45, zB ((decide (next_14' < (s.length : Int))) && ((j5 ((s.getD next_14'.toNat 0).toNat : Int)) || (m8 ((s.getD next_14'.toNat 0).toNat : Int)))))] ?_ (fun K0_192' hK_192' => ?_)
     rotate_left
     ·refine WL.split (decide (next_14' < (s.length : Int))) (fun hb => ?_) (fun hb => ?_)
      ·obtain ⟨o_178', o_180'⟩ := o_181' hb
       refine WL.set 34 rfl (congrArg zB hb) ?_
       refine wm ?_
       refine wm ?_
       refine wv (OV.index rfl rfl c9 o_178') ?_
       refine WL.call (A := []) amo rfl (af0 ((s.getD next_14'.toNat 0).toNat : Int)) rfl trivial rfl rfl ?_
       refine wm ?_
       refine WL.cut 5 [(0, st s), (5, w_3'), (6, zI i_1'), (8, zP b_4'), (9, zI next_14'), (10, zI 0), (11, zI 0), (34, zB true), (44, zB ((j5 ((s.getD next_14'.toNat 0).toNat : Int)) || (m8 ((s.getD next_14'.toNat 0).toNat : Int))))] ?_ (fun K0_191' hK_191' => ?_)
       rotate_left
       ·refine WL.split (j5 ((s.getD next_14'.toNat 0).toNat : Int)) (fun hb => ?_) (fun hb => ?_)
        ·refine WL.set 39 rfl (congrArg zB hb) ?_
         refine wk ?_
         refine wk ?_
         refine wk ?_
         refine wk ?_
         refine wv (OV.pickT rfl rfl) ?_
         refine WL.set 44 rfl (oT (v := m8 ((s.getD next_14'.toNat 0).toNat : Int)) hb) ?_
         exact WL.end_ (kg hK_191')
        ·have o_179' := o_180' hb
         refine WL.set 39 rfl (congrArg zB hb) ?_
         refine wm ?_
         refine wm ?_
         refine wv (OV.index rfl rfl c9 o_179') ?_
         refine WL.call (A := []) amj rfl (ag9 ((s.getD next_14'.toNat 0).toNat : Int)) rfl trivial rfl rfl ?_
         refine wv (OV.pickF rfl rfl) ?_
         refine WL.set 44 rfl (oF (v := m8 ((s.getD next_14'.toNat 0).toNat : Int)) hb) ?_
         exact WL.end_ (kg hK_191')
       refine wv (OV.pickT rfl rfl) ?_
       refine WL.set 45 rfl (bT (v := (j5 ((s.getD next_14'.toNat 0).toNat : Int)) || (m8 ((s.getD next_14'.toNat 0).toNat : Int))) hb) ?_
       exact WL.end_ (kg hK_192')
      ·refine WL.set 34 rfl (congrArg zB hb) ?_
       refine wk ?_
       refine wk ?_
       refine wk ?_
       refine wk ?_
       refine wk ?_
       refine wk ?_
       refine wk ?_
       refine wk ?_
       refine wk ?_
       refine wk ?_
       refine wv (OV.pickF rfl rfl) ?_
       refine WL.set 45 rfl (bF (v := (j5 ((s.getD next_14'.toNat 0).toNat : Int)) || (m8 ((s.getD next_14'.toNat 0).toNat : Int))) hb) ?_
       exact WL.end_ (kg hK_192')
     refine WL.nil ?_
     refine kg (hK_190' [(0, st s), (5, w_3'), (6, zI i_1'), (8, zP b_4'), (9, zI next_14'), (10, zI 0), (11, zI 0), (45, zB ((decide (next_14' < (s.length : Int))) && ((j5 ((s.getD next_14'.toNat 0).toNat : Int)) || (m8 ((s.getD next_14'.toNat 0).toNat : Int)))))] _ ?_)
     refine b5 (b := (decide (next_14' < (s.length : Int))) && ((j5 ((s.getD next_14'.toNat 0).toNat : Int)) || (m8 ((s.getD next_14'.toNat 0).toNat : Int)))) rfl (fun hb => ?_) (fun hb => ?_)
     ·replace h := e8 h hb
      refine b6 ?_
      refine kg (hK_189' [(0, st s), (5, w_3'), (6, zI i_1'), (8, zP b_4'), (9, zI next_14'), (10, zI 0), (11, zI 0)] _ ?_)
      refine b7 ?_
      refine a6 ?_
      refine wm ?_
      obtain ⟨o_182', h⟩ := h
      refine wv (OV.add rfl rfl o_182') ?_
      refine wA ?_
      refine WL.nil ?_
      exact kh (hK_188' (next_14' + 1) h.1 h.2) [0, 1]
     ·replace h := e9 h hb
      refine l4 ?_
      refine kg (hK_179' [(0, st s), (5, w_3'), (6, zI i_1'), (8, zP b_4'), (9, zI next_14'), (10, zI 0), (11, zI 0)] _ ?_)
      refine a7 (fun _ hK_193' => ?_)
      refine a7 (fun _ hK_194' => ?_)
      refine a6 ?_
      refine wm ?_
      refine wm ?_
      obtain ⟨o_183', h⟩ := h
      refine wv (OV.sub rfl rfl o_183') ?_
      refine wv (OV.gtr rfl rfl) ?_
      refine WL.nil ?_
      refine kg (hK_194' [(0, st s), (5, w_3'), (6, zI i_1'), (8, zP b_4'), (9, zI next_14'), (10, zI 0), (11, zI 0), (51, zB (decide (32 < next_14' - i_1')))] _ ?_)
      refine b5 (b := decide (32 < next_14' - i_1')) rfl (fun hb => ?_) (fun hb => ?_)
      ·replace h := e8 h hb
       refine a7 (fun _ hK_195' => ?_)
       refine a6 ?_
       refine wm ?_
       refine wA ?_
       refine WL.nilRow 64 3 e6 ?_
       refine wA ?_
       refine wA ?_
       refine WL.nil ?_
       refine kg (hK_195' [(2, Value.slice none 0 0), (3, zI 1), (4, zI i_1')] _ ?_)
       refine b8 ?_
       exact hE.ret [0] rfl rfl (.inl ⟨_, _, _, _, h, rfl⟩) (d7.of3 rfl (RV.tmp rfl) (RV.tmp rfl) (RV.tmp rfl))
      ·replace h := e9 h hb
       refine b6 ?_
       refine kg (hK_193' [(0, st s), (5, w_3'), (6, zI i_1'), (8, zP b_4'), (9, zI next_14'), (10, zI 0), (11, zI 0)] _ ?_)
       refine afx 5 [1] [HA.row w_3' 64 3 l_1'.length (l_1'.flatMap e6)] rfl rfl f0 (by kernel_rfl) (fun T_10' hT_10' => ?_)
       refine TW.val (OV.move rfl) rfl rfl rfl ?_
       refine TW.val (OV.move rfl) rfl rfl rfl ?_
       refine TW.val (OV.move rfl) rfl rfl rfl ?_
       obtain ⟨o_185', h⟩ := h
       refine TW.val (OV.sliceS rfl rfl rfl c9 o_185') rfl rfl rfl ?_
       refine TW.val (OV.fieldAddr0 rfl m6) rfl rfl rfl ?_
       refine TW.nil (hT_10' _ ?_)
       refine WLK.op [1] rfl rfl (OpK.store (vs := [zI 1]) (cs' := [zI 1, zI i_1', st []]) 0 rfl rfl rfl rfl f9 (Nat.le_of_ble_eq_true rfl) rfl rfl) rfl ?_
       refine WLK.op [1] rfl rfl (OpK.val (OV.fieldAddr0 rfl l3) rfl rfl) rfl ?_
       refine WLK.op [1] rfl rfl (OpK.store (vs := [st ((s.drop i_1'.toNat).take (next_14'.toNat - i_1'.toNat))]) (cs' := [zI 1, zI i_1', st ((s.drop i_1'.toNat).take (next_14'.toNat - i_1'.toNat))]) 0 rfl rfl rfl rfl aep (Nat.le_of_ble_eq_true rfl) rfl rfl) rfl ?_
       refine WLK.nil ?_
       exact kh (hK_173' (next_14', 0, 0, 1, (s.drop i_1'.toNat).take (next_14'.toNat - i_1'.toNat)) h) [0, 1]
    ·replace h := e9 h hb
     refine a7 (fun _ hK_196' => ?_)
     refine a6 ?_
     refine wm ?_
     refine wv (OV.eql rfl rfl) ?_
     refine WL.nil ?_
     refine kg (hK_196' [(0, st s), (5, w_3'), (6, zI i_1'), (7, zU ((s.getD i_1'.toNat 0).toNat : Int)), (8, zP b_4'), (9, zI (i_1' + 1)), (10, zI 0), (11, zI 0), (60, zB (decide (((s.getD i_1'.toNat 0).toNat : Int) = 34)))] _ ?_)
     refine b5 (b := decide (((s.getD i_1'.toNat 0).toNat : Int) = 34)) rfl (fun hb => ?_) (fun hb => ?_)
     ·replace h := e8 h hb
      refine a7 (fun _ hK_197' => ?_)
      refine a6 ?_
      refine wv (OV.fieldAddr0 rfl m6) ?_
      refine WL.store (vs := [zI 2]) (cs' := [zI 2, zI i_1', st []]) 0 rfl rfl rfl rfl f9 (Nat.le_of_ble_eq_true rfl) rfl rfl rfl ?_
      refine WL.nil ?_
      refine kg (hK_197' [(0, st s), (5, w_3'), (6, zI i_1'), (8, zP b_4')] _ ?_)
      refine a6 ?_
      refine wm ?_
      refine wm ?_
      obtain ⟨o_186', h⟩ := h
      refine WL.call (A := []) at8 rfl (ako s i_1' o_186') rfl trivial rfl rfl ?_
      refine wm ?_
      refine wv (OV.extract 0 rfl rfl) ?_
      refine wv (OV.extract 1 rfl rfl) ?_
      refine wv (OV.extract 2 rfl rfl) ?_
      refine wv (OV.extract 3 rfl rfl) ?_
      refine wv (OV.fieldAddr0 rfl l3) ?_
      refine WL.store (vs := [st ((rqM s i_1').1)]) (cs' := [zI 2, zI i_1', st ((rqM s i_1').1)]) 0 rfl rfl rfl rfl aep (Nat.le_of_ble_eq_true rfl) rfl rfl rfl ?_
      refine wA ?_
      refine wA ?_
      refine wA ?_
      refine WL.nil ?_
      exact kh (hK_173' ((rqM s i_1').2.1, (rqM s i_1').2.2.1, (rqM s i_1').2.2.2, 2, (rqM s i_1').1) h) [0, 1]
     ·replace h := e9 h hb
      refine a7 (fun _ hK_198' => ?_)
      refine a6 ?_
      refine wm ?_
      refine wv (OV.eql rfl rfl) ?_
      refine WL.nil ?_
      refine kg (hK_198' [(0, st s), (5, w_3'), (6, zI i_1'), (7, zU ((s.getD i_1'.toNat 0).toNat : Int)), (8, zP b_4'), (9, zI (i_1' + 1)), (10, zI 0), (11, zI 0), (72, zB (decide (((s.getD i_1'.toNat 0).toNat : Int) = 47)))] _ ?_)
      refine b5 (b := decide (((s.getD i_1'.toNat 0).toNat : Int) = 47)) rfl (fun hb => ?_) (fun hb => ?_)
      ·replace h := e8 h hb
       refine a7 (fun _ hK_199' => ?_)
       refine a6 ?_
       refine wv (OV.fieldAddr0 rfl m6) ?_
       refine WL.store (vs := [zI 3]) (cs' := [zI 3, zI i_1', st []]) 0 rfl rfl rfl rfl f9 (Nat.le_of_ble_eq_true rfl) rfl rfl rfl ?_
       refine WL.nil ?_
       refine kg (hK_199' [(0, st s), (5, w_3'), (6, zI i_1'), (8, zP b_4')] _ ?_)
       refine a6 ?_
       refine wm ?_
       refine wm ?_
       obtain ⟨o_187', h⟩ := h
       refine WL.call (A := []) at6 rfl (alv s i_1' o_187') rfl trivial rfl rfl ?_
       refine wm ?_
       refine wv (OV.extract 0 rfl rfl) ?_
       refine wv (OV.extract 1 rfl rfl) ?_
       refine wv (OV.extract 2 rfl rfl) ?_
       refine wv (OV.extract 3 rfl rfl) ?_
       refine wv (OV.fieldAddr0 rfl l3) ?_
       refine WL.store (vs := [st ((rrM s i_1').1)]) (cs' := [zI 3, zI i_1', st ((rrM s i_1').1)]) 0 rfl rfl rfl rfl aep (Nat.le_of_ble_eq_true rfl) rfl rfl rfl ?_
       refine wA ?_
       refine wA ?_
       refine wA ?_
       refine WL.nil ?_
       exact kh (hK_173' ((rrM s i_1').2.1, (rrM s i_1').2.2.1, (rrM s i_1').2.2.2, 3, (rrM s i_1').1) h) [0, 1]
      ·replace h := e9 h hb
       refine a7 (fun _ hK_200' => ?_)
       refine a6 ?_
       refine wm ?_
       obtain ⟨o_188', h⟩ := h
       refine WL.call (A := []) atk rfl (at2 ((s.getD i_1'.toNat 0).toNat : Int) o_188') rfl trivial rfl rfl ?_
       refine WL.nil ?_
       refine kg (hK_200' [(0, st s), (5, w_3'), (6, zI i_1'), (7, zU ((s.getD i_1'.toNat 0).toNat : Int)), (8, zP b_4'), (9, zI (i_1' + 1)), (10, zI 0), (11, zI 0), (84, zB (aah.contains (((s.getD i_1'.toNat 0).toNat : Int)).toNat.toUInt8))] _ ?_)
       refine b5 (b := aah.contains (((s.getD i_1'.toNat 0).toNat : Int)).toNat.toUInt8) rfl (fun hb => ?_) (fun hb => ?_)
       ·replace h := e8 h hb
        refine afx 6 [1] [HA.row w_3' 64 3 l_1'.length (l_1'.flatMap e6)] rfl rfl f0 (by kernel_rfl) (fun T_11' hT_11' => ?_)
        refine TW.val (OV.move rfl) rfl rfl rfl ?_
        refine TW.val (OV.move rfl) rfl rfl rfl ?_
        refine TW.val (OV.move rfl) rfl rfl rfl ?_
        obtain ⟨o_191', h⟩ := h
        refine TW.val (OV.add rfl rfl o_191') rfl rfl rfl ?_
        obtain ⟨o_192', h⟩ := h
        refine TW.val (OV.sliceS rfl rfl rfl c9 o_192') rfl rfl rfl ?_
        refine TW.val (OV.fieldAddr0 rfl m6) rfl rfl rfl ?_
        refine TW.nil (hT_11' _ ?_)
        refine WLK.op [1] rfl rfl (OpK.store (vs := [zI 4]) (cs' := [zI 4, zI i_1', st []]) 0 rfl rfl rfl rfl f9 (Nat.le_of_ble_eq_true rfl) rfl rfl) rfl ?_
        refine WLK.op [1] rfl rfl (OpK.val (OV.fieldAddr0 rfl l3) rfl rfl) rfl ?_
        refine WLK.op [1] rfl rfl (OpK.store (vs := [st ((s.drop i_1'.toNat).take ((i_1' + 1).toNat - i_1'.toNat))]) (cs' := [zI 4, zI i_1', st ((s.drop i_1'.toNat).take ((i_1' + 1).toNat - i_1'.toNat))]) 0 rfl rfl rfl rfl aep (Nat.le_of_ble_eq_true rfl) rfl rfl) rfl ?_
        refine WLK.nil ?_
        exact kh (hK_173' (i_1' + 1, 0, 0, 4, (s.drop i_1'.toNat).take ((i_1' + 1).toNat - i_1'.toNat)) h) [0, 1]
       ·replace h := e9 h hb
        refine a7 (fun _ hK_201' => ?_)
        refine a6 ?_
        refine wm ?_
        refine wv (OV.eql rfl rfl) ?_
        refine wm ?_
        obtain ⟨o_194', h⟩ := h
        refine WL.cut 6 [(0, st s), (5, w_3'), (6, zI i_1'), (8, zP b_4'), (10, zI 0), (11, zI 0), (100, zB ((decide (((s.getD i_1'.toNat 0).toNat : Int) = 62)) && (decide (i_1' + 1 < (s.length : Int)))))] ?_ (fun K0_202' hK_202' => ?_)
        rotate_left
        ·refine WL.split (decide (((s.getD i_1'.toNat 0).toNat : Int) = 62)) (fun hb => ?_) (fun hb => ?_)
         ·have o_193' := o_194' hb
          refine WL.set 94 rfl (congrArg zB hb) ?_
          refine wm ?_
          refine wv (OV.add rfl rfl o_193') ?_
          refine wm ?_
          refine wv (OV.len rfl c9) ?_
          refine wv (OV.lss rfl rfl) ?_
          refine wv (OV.pickT rfl rfl) ?_
          refine WL.set 100 rfl (bT (v := decide (i_1' + 1 < (s.length : Int))) hb) ?_
          exact WL.end_ (kg hK_202')
         ·refine WL.set 94 rfl (congrArg zB hb) ?_
          refine wk ?_
          refine wk ?_
          refine wk ?_
          refine wk ?_
          refine wk ?_
          refine wv (OV.pickF rfl rfl) ?_
          refine WL.set 100 rfl (bF (v := decide (i_1' + 1 < (s.length : Int))) hb) ?_
          exact WL.end_ (kg hK_202')
        refine wm ?_
        obtain ⟨o_197', h⟩ := h
        refine WL.cut 6 [(0, st s), (5, w_3'), (6, zI i_1'), (8, zP b_4'), (10, zI 0), (11, zI 0), (107, zB (((decide (((s.getD i_1'.toNat 0).toNat : Int) = 62)) && (decide (i_1' + 1 < (s.length : Int)))) && (decide (((s.getD (i_1' + 1).toNat 0).toNat : Int) = 62))))] ?_ (fun K0_203' hK_203' => ?_)
        rotate_left
        ·refine WL.split ((decide (((s.getD i_1'.toNat 0).toNat : Int) = 62)) && (decide (i_1' + 1 < (s.length : Int)))) (fun hb => ?_) (fun hb => ?_)
         ·obtain ⟨o_195', o_196'⟩ := o_197' hb
          refine WL.set 101 rfl (congrArg zB hb) ?_
          refine wm ?_
          refine wm ?_
          refine wv (OV.add rfl rfl o_195') ?_
          refine wv (OV.index rfl rfl c9 o_196') ?_
          refine wv (OV.eql rfl rfl) ?_
          refine wv (OV.pickT rfl rfl) ?_
          refine WL.set 107 rfl (bT (v := decide (((s.getD (i_1' + 1).toNat 0).toNat : Int) = 62)) hb) ?_
          exact WL.end_ (kg hK_203')
         ·refine WL.set 101 rfl (congrArg zB hb) ?_
          refine wk ?_
          refine wk ?_
          refine wk ?_
          refine wk ?_
          refine wk ?_
          refine wv (OV.pickF rfl rfl) ?_
          refine WL.set 107 rfl (bF (v := decide (((s.getD (i_1' + 1).toNat 0).toNat : Int) = 62)) hb) ?_
          exact WL.end_ (kg hK_203')
        refine WL.nil ?_
        refine kg (hK_201' [(0, st s), (5, w_3'), (6, zI i_1'), (8, zP b_4'), (10, zI 0), (11, zI 0), (107, zB (((decide (((s.getD i_1'.toNat 0).toNat : Int) = 62)) && (decide (i_1' + 1 < (s.length : Int)))) && (decide (((s.getD (i_1' + 1).toNat 0).toNat : Int) = 62))))] _ ?_)
        refine b5 (b := ((decide (((s.getD i_1'.toNat 0).toNat : Int) = 62)) && (decide (i_1' + 1 < (s.length : Int)))) && (decide (((s.getD (i_1' + 1).toNat 0).toNat : Int) = 62))) rfl (fun hb => ?_) (fun hb => ?_)
        ·replace h := e8 h hb
         refine a7 (fun _ hK_204' => ?_)
         refine a6 ?_
         refine wm ?_
         obtain ⟨o_198', h⟩ := h
         refine wv (OV.add rfl rfl o_198') ?_
         refine wA ?_
         refine WL.nil ?_
         refine kg (hK_204' [(0, st s), (5, w_3'), (8, zP b_4'), (9, zI (i_1' + 2)), (10, zI 0), (11, zI 0)] _ ?_)
         refine a6 ?_
         refine wv (OV.fieldAddr0 rfl m6) ?_
         refine WL.store (vs := [zI 4]) (cs' := [zI 4, zI i_1', st []]) 0 rfl rfl rfl rfl f9 (Nat.le_of_ble_eq_true rfl) rfl rfl rfl ?_
         refine wv (OV.fieldAddr0 rfl l3) ?_
         refine WL.store (vs := [st ([62, 62] : List UInt8)]) (cs' := [zI 4, zI i_1', st ([62, 62] : List UInt8)]) 0 rfl rfl rfl rfl aep (Nat.le_of_ble_eq_true rfl) rfl rfl rfl ?_
         refine WL.nil ?_
         exact kh (hK_173' (i_1' + 2, 0, 0, 4, ([62, 62] : List UInt8)) h) [0, 1]
        ·replace h := e9 h hb
         refine a7 (fun _ hK_205' => ?_)
         refine a6 ?_
         refine wm ?_
         refine wA ?_
         refine WL.nilRow 64 3 e6 ?_
         refine wA ?_
         refine wA ?_
         refine WL.nil ?_
         refine kg (hK_205' [(2, Value.slice none 0 0), (3, zI 50), (4, zI i_1')] _ ?_)
         refine b8 ?_
         exact hE.ret [0] rfl rfl (.inl ⟨_, _, _, _, h, rfl⟩) (d7.of3 rfl (RV.tmp rfl) (RV.tmp rfl) (RV.tmp rfl))
  ·replace h := e9 h hb
   refine l4 ?_
   refine kg (hK_6' [(0, st s), (5, w_3')] _ ?_)
   refine a7 (fun _ hK_206' => ?_)
   refine a6 ?_
   refine wm ?_
   refine wm ?_
   refine wv (OV.len rfl c9) ?_
   refine wv (OV.build rfl (cs := [zI 0, zI (s.length : Int), st []]) rfl) ?_
   refine WL.make (MV.buildSlice (cs := [zI 0, zI (s.length : Int), st []]) rfl r9 (by kernel_rfl)) rfl rfl rfl (fun b_6' => ?_)
   obtain ⟨o_199', h⟩ := h
   refine WL.append (f := e6) (ms := [(0, (s.length : Int), ([] : List UInt8))]) 1 0 rfl rfl rfl rfl rfl rfl p9 (by decide) rfl r9 ali rfl o_199' rfl rfl (fun w_5' => ?_)
   refine wA ?_
   refine wA ?_
   refine wA ?_
   refine WL.nil ?_
   refine kg (hK_206' [(2, w_5'), (3, zI 0), (4, zI 0)] _ ?_)
   refine b8 ?_
   exact hE.ret [1] rfl rfl (.inl ⟨_, _, _, _, h, rfl⟩) (d7.of3 rfl (RV.tmp rfl) (RV.tmp rfl) (RV.tmp rfl))
theorem afp {t : List UInt8} {fr : Int} : ∀ {n : Nat} {out : List UInt8} {k : Int} {e p : Int}, k7 t fr n out k = .error (e, p) → e ≠ 0
 | 0, _, _, _, _, h => by rw [k7] at h; simp only [Except.error.injEq, Prod.mk.injEq] at h; omega
 | n + 1, out, k, e, p, h => by
  rw [k7] at h
  repeat' split at h
  all_goals first | (exact afp h) | (simp only [Except.error.injEq, Prod.mk.injEq] at h; omega) | cases h
theorem ahi {t : List UInt8} {fr : Int} : ∀ {n : Nat} {k : Int} {e p : Int}, n7 t fr n k = .error (e, p) → e ≠ 0
 | 0, _, _, _, h => by rw [n7] at h; simp only [Except.error.injEq, Prod.mk.injEq] at h; omega
 | n + 1, k, e, p, h => by
  rw [n7] at h
  repeat' split at h
  all_goals first | (exact ahi h) | (simp only [Except.error.injEq, Prod.mk.injEq] at h; omega) | cases h
def ad2 (t : List UInt8) (i next e p k : Int) (x : List UInt8) : Prop := if e = 0 then ab8 t i = .ok ((k, i, x), next) else ab8 t i = .error (e, p)
theorem ad2.ok {t : List UInt8} {i next k : Int} {x : List UInt8} (h : ab8 t i = .ok ((k, i, x), next)) : ad2 t i next 0 0 k x := by unfold ad2; rw [if_pos rfl]; exact h
theorem aqy {t : List UInt8} {i : Int} (h : ab8 t i = y5 t i) : ad2 t i (rqM t i).2.1 (rqM t i).2.2.1 (rqM t i).2.2.2 2 (rqM t i).1 := by
 unfold ad2 rqM
 rw [h]
 unfold y5
 cases hq : k7 t i (t.length + 1) [] (i + 1) with
 | ok r => simp [rOf]
 | error e =>
  have := afp (e := e.1) (p := e.2) hq
  simp [rOf, this]
theorem atm {t : List UInt8} {i : Int} (h : ab8 t i = aa6 t i) : ad2 t i (rrM t i).2.1 (rrM t i).2.2.1 (rrM t i).2.2.2 3 (rrM t i).1 := by
 unfold ad2 rrM
 rw [h]
 unfold aa6
 cases hq : n7 t i (t.length + 1) (i + 1) with
 | ok r => simp [rOf]
 | error e =>
  have := ahi (e := e.1) (p := e.2) hq
  simp [rOf, this]
theorem anl (t : List UInt8) : d9 Tryd.prog 18 [st t] [] [] (fun o => ∃ w : Value, o = .ret (.tuple #[w, .int .i64 (b9 t).2.1, .int .i64 (b9 t).2.2]) [HA.row w 64 3 (b9 t).1.length ((b9 t).1.flatMap e6)]) := by
 refine (aqr t (fun l c p => (l, c, p) = b9 t) ?_).weak ?_
 ·unfold ahu b9
  by_cases h0 : 4096 < t.length
  ·rw [if_pos (by simp; omega), if_pos h0]
  ·rw [if_neg (by simp; omega), if_neg h0]
   have eb : ∀ i : Int, ((t.getD i.toNat 0).toNat : Int) = bt t i := fun _ => rfl
   simp only [eb]
   have hg0 := aa4 (t := t) (a := 0) ⟨by omega, by omega⟩
   refine ⟨⟨by omega, by omega, by omega⟩, fun a l => 0 ≤ a ∧ a ≤ t.length ∧ l.length ≤ a ∧ ∃ n, (t.length - a).toNat < n ∧ aa3 t (t.length + 1) [] (aaj t 0) = aa3 t n l a, fun a _ => (t.length - a).toNat, ⟨by omega, by omega, by simp; omega, t.length + 1, by omega, rfl⟩, ?_⟩
   rintro a l ⟨a0, a1, hl, n, hn, hF⟩
   obtain ⟨n, rfl⟩ : ∃ m, n = m + 1 := ⟨n - 1, by omega⟩
   by_cases ha : a < t.length
   ·rw [if_pos (by simpa using ha)]
    have hb : 0 ≤ a ∧ a < t.length := ⟨a0, ha⟩
    have herr : ∀ e p, ab8 t a = .error (e, p) → (([] : List Tok), e, p) = (match aa3 t (t.length + 1) [] (aaj t 0) with | .ok l => (l, 0, 0) | .error (e, p) => ([], e, p)) := fun e p ho => by
     rw [hF, aa3, if_pos ha, ho]
    refine ⟨hb, ⟨by omega, by omega⟩, fun next e p k x => ad2 t a next e p k x, fun next e p k x hJ => ?_, ?_⟩
    ·replace hJ : ad2 t a next e p k x := hJ
     unfold ad2 at hJ
     by_cases he : e = 0
     ·rw [if_neg (by simp [he])]
      rw [if_pos he] at hJ
      have hq := afc hb hJ
      have hg := aa4 (t := t) (a := next) ⟨by omega, hq.2⟩
      refine ⟨⟨by omega, by omega⟩, ⟨by omega, hq.2, by omega⟩, ⟨by omega, hg.2, by simp; omega, n, by omega, ?_⟩, by show (t.length - aaj t next).toNat < (t.length - a).toNat; omega⟩
      rw [hF, aa3, if_pos ha, hJ]
     ·rw [if_pos (by simpa using he)]
      rw [if_neg he] at hJ
      exact herr e p hJ
    ·by_cases e1 : j5 (bt t a) = true
     ·rw [if_pos e1]
      have hs0 := ah7 hb
      rw [if_pos (by simp [e1])] at hs0
      refine ⟨fun q => a + 1 ≤ q ∧ q ≤ t.length ∧ q + abq (t.drop q.toNat) = a + abq (t.drop a.toNat), fun q => (t.length - q).toNat, ⟨Int.le_refl _, by omega, by omega⟩, ?_⟩
      rintro q ⟨q0, q1, hq⟩
      refine ⟨fun hh => ⟨⟨by omega, by simpa using hh⟩, fun _ => ⟨by omega, by simpa using hh⟩⟩, ?_⟩
      have hend : q = a + abq (t.drop a.toNat) → (I64 (q - a)) ∧ (if decide (32 < q - a) = true then (([] : List Tok), (1 : Int), a) = (match aa3 t (t.length + 1) [] (aaj t 0) with | .ok l => (l, 0, 0) | .error (e, p) => ([], e, p)) else (0 ≤ a ∧ a ≤ q ∧ q ≤ t.length) ∧ ad2 t a q 0 0 1 ((t.drop a.toNat).take (q.toNat - a.toNat))) := fun hqe => by
       refine ⟨⟨by omega, by omega⟩, ?_⟩
       by_cases e2 : 32 < q - a
       ·rw [if_pos (by simpa using e2)]
        exact herr 1 a (by unfold ab8; rw [if_pos e1, if_pos (by omega)])
       ·rw [if_neg (by simpa using e2)]
        refine ⟨⟨by omega, by omega, q1⟩, ?_⟩
        unfold ad2 ab8
        rw [if_pos rfl, if_pos e1, if_neg (by omega), ← hqe]; rfl
      by_cases hql : q < t.length
      ·have hqb : 0 ≤ q ∧ q < t.length := ⟨by omega, hql⟩
       have hs := ah7 hqb
       by_cases e3 : (j5 (bt t q) || m8 (bt t q)) = true
       ·rw [if_pos (by rw [e3]; simpa using hql)]
        rw [if_pos e3] at hs
        exact ⟨⟨by omega, by omega⟩, ⟨by omega, by omega, by omega⟩, by show (t.length - (q + 1)).toNat < (t.length - q).toNat; omega⟩
       ·rw [if_neg (by rw [Bool.eq_false_iff.2 e3]; simp)]
        rw [if_neg e3] at hs
        exact hend (by omega)
      ·rw [if_neg (by simp; omega)]
       have := ao3 (t := t) (p := q) (by omega)
       exact hend (by omega)
     ·rw [if_neg e1]
      have hone : ab8 t a = if bt t a = 34 then y5 t a else if bt t a = 47 then aa6 t a else if aah.contains (bt t a).toNat.toUInt8 = true then .ok ((4, a, cut t a (a + 1)), a + 1) else if a + 1 < t.length ∧ bt t a = 62 ∧ bt t (a + 1) = 62 then .ok ((4, a, [62, 62]), a + 2) else .error (50, a) := by
       unfold ab8; rw [if_neg e1]
      by_cases e2 : bt t a = 34
      ·rw [if_pos (by simpa using e2)]
       rw [if_pos e2] at hone
       exact ⟨⟨a0, ha, by omega⟩, aqy hone⟩
      ·rw [if_neg (by simpa using e2)]
       rw [if_neg e2] at hone
       by_cases e3 : bt t a = 47
       ·rw [if_pos (by simpa using e3)]
        rw [if_pos e3] at hone
        exact ⟨⟨a0, ha, by omega⟩, atm hone⟩
       ·rw [if_neg (by simpa using e3)]
        rw [if_neg e3] at hone
        refine ⟨ak2 t a, ?_⟩
        by_cases e4 : aah.contains (bt t a).toNat.toUInt8 = true
        ·rw [if_pos e4]
         rw [if_pos e4] at hone
         refine ⟨⟨by omega, by omega⟩, ⟨by omega, by omega, by omega⟩, ?_⟩
         exact ad2.ok hone
        ·rw [if_neg e4]
         rw [if_neg e4] at hone
         refine ⟨fun _ => ⟨by omega, by omega⟩, fun hh => ⟨⟨by omega, by omega⟩, by omega, by simp at hh; omega⟩, ?_⟩
         by_cases e5 : a + 1 < t.length ∧ bt t a = 62 ∧ bt t (a + 1) = 62
         ·rw [if_pos (by simp [e5.1, e5.2.1, e5.2.2])]
          rw [if_pos e5] at hone
          refine ⟨⟨by omega, by omega⟩, ?_⟩
          exact ad2.ok hone
         ·rw [if_neg (by simp; intro p1 p2 p3; exact e5 ⟨p2, p1, p3⟩)]
          rw [if_neg e5] at hone
          exact herr 50 a hone
   ·rw [if_neg (by simpa using ha)]
    refine ⟨⟨by omega, by omega⟩, ?_⟩
    rw [hF, aa3, if_neg ha]
 ·rintro o (⟨w, l, c, p, he, rfl⟩ | h)
  ·rw [← he]; exact ⟨w, rfl⟩
  ·exact h.elim
end Go.Proofs.YtifajndacnfcbaaDoor
set_option maxRecDepth 100000
namespace Go.Proofs.YtifajndacnfcbaaDoor
open Go Go.RowKit
theorem asx : k9 Tryd.prog 82 = true := by kernel_rfl
theorem aty : k9 Tryd.prog 77 = true := by kernel_rfl
def an1  (K : Int → Prop) : Prop :=
 (if (decide (([62, 62] : List UInt8) = ([124] : List UInt8))) = true then
  K 0
 else
  K (-1))
theorem awx   (K : Int → Prop) (h : an1  K) :
  d9 Tryd.prog 82 [st ([124] : List UInt8), st ([62, 62] : List UInt8)] [] [] (fun o => (∃ (v : Int), K v ∧ o = .ret (zI v) []) ∨ (False)) := by
 unfold an1 at h
 refine c8 (n := 143) (L0 := [(0, st ([124] : List UInt8)), (1, st ([62, 62] : List UInt8))]) Tryd.func82 rfl rfl rfl rfl (fun w0 M Q hE => ?_)
 refine a7 (fun _ hK => ?_)
 refine a6 ?_
 refine wA ?_
 refine WL.nil ?_
 refine kg (hK [(0, st ([124] : List UInt8)), (1, st ([62, 62] : List UInt8))] _ ?_)
 refine a7 (fun _ hK_1' => ?_)
 refine a6 ?_
 refine wm ?_
 refine wv (OV.len rfl c9) ?_
 refine wA ?_
 refine WL.nil ?_
 refine kg (hK_1' [(0, st ([124] : List UInt8)), (1, st ([62, 62] : List UInt8)), (5, zI 2)] _ ?_)
 refine a7 (fun _ hK_2' => ?_)
 refine b7 ?_
 refine a7 (fun _ hK_3' => ?_)
 refine a6 ?_
 refine wm ?_
 refine wv (OV.eql rfl rfl) ?_
 refine wm ?_
 refine wm ?_
 refine wm ?_
 refine wv (OV.eqlS rfl rfl) ?_
 refine wv (OV.pickF rfl rfl) ?_
 refine wA ?_
 refine WL.nil ?_
 refine kg (hK_3' [(0, st ([124] : List UInt8)), (1, st ([62, 62] : List UInt8)), (5, zI 2), (16, zB (decide (([62, 62] : List UInt8) = ([124] : List UInt8))))] _ ?_)
 refine b5 (b := decide (([62, 62] : List UInt8) = ([124] : List UInt8))) rfl (fun hb => ?_) (fun hb => ?_)
 ·replace h := e8 h hb
  refine a7 (fun _ hK_4' => ?_)
  refine a6 ?_
  refine wA ?_
  refine WL.nil ?_
  refine kg (hK_4' [(4, zI 0)] _ ?_)
  refine b8 ?_
  exact hE.ret [] rfl rfl (.inl ⟨_, h, rfl⟩) (d7.of1 rfl (RV.tmp rfl))
 ·replace h := e9 h hb
  refine a7 (fun _ hK_5' => ?_)
  refine a6 ?_
  refine wm ?_
  refine wv (OV.eql rfl rfl) ?_
  refine wA ?_
  refine WL.nil ?_
  refine kg (hK_5' [(0, st ([124] : List UInt8)), (1, st ([62, 62] : List UInt8)), (5, zI 2), (24, zB false)] _ ?_)
  refine d5 rfl ?_
  refine a7 (fun _ hK_6' => ?_)
  refine a6 ?_
  refine wm ?_
  refine wm ?_
  refine wv (OV.len rfl c9) ?_
  refine wv (OV.geq rfl rfl) ?_
  refine wA ?_
  refine WL.nil ?_
  refine kg (hK_6' [(0, st ([124] : List UInt8)), (1, st ([62, 62] : List UInt8)), (5, zI 2), (31, zB true)] _ ?_)
  refine f7 rfl ?_
  refine a7 (fun _ hK_7' => ?_)
  refine a6 ?_
  refine wA ?_
  refine WL.nil ?_
  refine kg (hK_7' [(4, zI (-1))] _ ?_)
  refine b8 ?_
  exact hE.ret [] rfl rfl (.inl ⟨_, h, rfl⟩) (d7.of1 rfl (RV.tmp rfl))
def anc  (K : Int → Prop) : Prop :=
 (if (decide (([62, 62] : List UInt8) = ([38, 45] : List UInt8))) = true then
  K 0
 else
  K (-1))
theorem awl   (K : Int → Prop) (h : anc  K) :
  d9 Tryd.prog 82 [st ([38, 45] : List UInt8), st ([62, 62] : List UInt8)] [] [] (fun o => (∃ (v : Int), K v ∧ o = .ret (zI v) []) ∨ (False)) := by
 unfold anc at h
 refine c8 (n := 143) (L0 := [(0, st ([38, 45] : List UInt8)), (1, st ([62, 62] : List UInt8))]) Tryd.func82 rfl rfl rfl rfl (fun w0 M Q hE => ?_)
 refine a7 (fun _ hK => ?_)
 refine a6 ?_
 refine wA ?_
 refine WL.nil ?_
 refine kg (hK [(0, st ([38, 45] : List UInt8)), (1, st ([62, 62] : List UInt8))] _ ?_)
 refine a7 (fun _ hK_1' => ?_)
 refine a6 ?_
 refine wm ?_
 refine wv (OV.len rfl c9) ?_
 refine wA ?_
 refine WL.nil ?_
 refine kg (hK_1' [(0, st ([38, 45] : List UInt8)), (1, st ([62, 62] : List UInt8)), (5, zI 2)] _ ?_)
 refine a7 (fun _ hK_2' => ?_)
 refine b7 ?_
 refine a7 (fun _ hK_3' => ?_)
 refine a6 ?_
 refine wm ?_
 refine wv (OV.eql rfl rfl) ?_
 refine wm ?_
 refine wm ?_
 refine wm ?_
 refine wv (OV.eqlS rfl rfl) ?_
 refine wv (OV.pickF rfl rfl) ?_
 refine wA ?_
 refine WL.nil ?_
 refine kg (hK_3' [(0, st ([38, 45] : List UInt8)), (1, st ([62, 62] : List UInt8)), (5, zI 2), (16, zB (decide (([62, 62] : List UInt8) = ([38, 45] : List UInt8))))] _ ?_)
 refine b5 (b := decide (([62, 62] : List UInt8) = ([38, 45] : List UInt8))) rfl (fun hb => ?_) (fun hb => ?_)
 ·replace h := e8 h hb
  refine a7 (fun _ hK_4' => ?_)
  refine a6 ?_
  refine wA ?_
  refine WL.nil ?_
  refine kg (hK_4' [(4, zI 0)] _ ?_)
  refine b8 ?_
  exact hE.ret [] rfl rfl (.inl ⟨_, h, rfl⟩) (d7.of1 rfl (RV.tmp rfl))
 ·replace h := e9 h hb
  refine a7 (fun _ hK_5' => ?_)
  refine a6 ?_
  refine wm ?_
  refine wv (OV.eql rfl rfl) ?_
  refine wA ?_
  refine WL.nil ?_
  refine kg (hK_5' [(0, st ([38, 45] : List UInt8)), (1, st ([62, 62] : List UInt8)), (5, zI 2), (24, zB false)] _ ?_)
  refine d5 rfl ?_
  refine a7 (fun _ hK_6' => ?_)
  refine a6 ?_
  refine wm ?_
  refine wm ?_
  refine wv (OV.len rfl c9) ?_
  refine wv (OV.geq rfl rfl) ?_
  refine wA ?_
  refine WL.nil ?_
  refine kg (hK_6' [(0, st ([38, 45] : List UInt8)), (1, st ([62, 62] : List UInt8)), (5, zI 2), (31, zB true)] _ ?_)
  refine f7 rfl ?_
  refine a7 (fun _ hK_7' => ?_)
  refine a6 ?_
  refine wA ?_
  refine WL.nil ?_
  refine kg (hK_7' [(4, zI (-1))] _ ?_)
  refine b8 ?_
  exact hE.ret [] rfl rfl (.inl ⟨_, h, rfl⟩) (d7.of1 rfl (RV.tmp rfl))
def anf  (K : Int → Prop) : Prop :=
 (if (decide (([62, 62] : List UInt8) = ([62, 62] : List UInt8))) = true then
  K 0
 else
  K (-1))
theorem awm   (K : Int → Prop) (h : anf  K) :
  d9 Tryd.prog 82 [st ([62, 62] : List UInt8), st ([62, 62] : List UInt8)] [] [] (fun o => (∃ (v : Int), K v ∧ o = .ret (zI v) []) ∨ (False)) := by
 unfold anf at h
 refine c8 (n := 143) (L0 := [(0, st ([62, 62] : List UInt8)), (1, st ([62, 62] : List UInt8))]) Tryd.func82 rfl rfl rfl rfl (fun w0 M Q hE => ?_)
 refine a7 (fun _ hK => ?_)
 refine a6 ?_
 refine wA ?_
 refine WL.nil ?_
 refine kg (hK [(0, st ([62, 62] : List UInt8)), (1, st ([62, 62] : List UInt8))] _ ?_)
 refine a7 (fun _ hK_1' => ?_)
 refine a6 ?_
 refine wm ?_
 refine wv (OV.len rfl c9) ?_
 refine wA ?_
 refine WL.nil ?_
 refine kg (hK_1' [(0, st ([62, 62] : List UInt8)), (1, st ([62, 62] : List UInt8)), (5, zI 2)] _ ?_)
 refine a7 (fun _ hK_2' => ?_)
 refine b7 ?_
 refine a7 (fun _ hK_3' => ?_)
 refine a6 ?_
 refine wm ?_
 refine wv (OV.eql rfl rfl) ?_
 refine wm ?_
 refine wm ?_
 refine wm ?_
 refine wv (OV.eqlS rfl rfl) ?_
 refine wv (OV.pickF rfl rfl) ?_
 refine wA ?_
 refine WL.nil ?_
 refine kg (hK_3' [(0, st ([62, 62] : List UInt8)), (1, st ([62, 62] : List UInt8)), (5, zI 2), (16, zB (decide (([62, 62] : List UInt8) = ([62, 62] : List UInt8))))] _ ?_)
 refine b5 (b := decide (([62, 62] : List UInt8) = ([62, 62] : List UInt8))) rfl (fun hb => ?_) (fun hb => ?_)
 ·replace h := e8 h hb
  refine a7 (fun _ hK_4' => ?_)
  refine a6 ?_
  refine wA ?_
  refine WL.nil ?_
  refine kg (hK_4' [(4, zI 0)] _ ?_)
  refine b8 ?_
  exact hE.ret [] rfl rfl (.inl ⟨_, h, rfl⟩) (d7.of1 rfl (RV.tmp rfl))
 ·replace h := e9 h hb
  refine a7 (fun _ hK_5' => ?_)
  refine a6 ?_
  refine wm ?_
  refine wv (OV.eql rfl rfl) ?_
  refine wA ?_
  refine WL.nil ?_
  refine kg (hK_5' [(0, st ([62, 62] : List UInt8)), (1, st ([62, 62] : List UInt8)), (5, zI 2), (24, zB false)] _ ?_)
  refine d5 rfl ?_
  refine a7 (fun _ hK_6' => ?_)
  refine a6 ?_
  refine wm ?_
  refine wm ?_
  refine wv (OV.len rfl c9) ?_
  refine wv (OV.geq rfl rfl) ?_
  refine wA ?_
  refine WL.nil ?_
  refine kg (hK_6' [(0, st ([62, 62] : List UInt8)), (1, st ([62, 62] : List UInt8)), (5, zI 2), (31, zB true)] _ ?_)
  refine f7 rfl ?_
  refine a7 (fun _ hK_7' => ?_)
  refine a6 ?_
  refine wA ?_
  refine WL.nil ?_
  refine kg (hK_7' [(4, zI (-1))] _ ?_)
  refine b8 ?_
  exact hE.ret [] rfl rfl (.inl ⟨_, h, rfl⟩) (d7.of1 rfl (RV.tmp rfl))
def am8  (K : Int → Prop) : Prop :=
 (if (decide (([62, 62] : List UInt8) = ([126] : List UInt8))) = true then
  K 0
 else
  K (-1))
theorem aw2   (K : Int → Prop) (h : am8  K) :
  d9 Tryd.prog 82 [st ([126] : List UInt8), st ([62, 62] : List UInt8)] [] [] (fun o => (∃ (v : Int), K v ∧ o = .ret (zI v) []) ∨ (False)) := by
 unfold am8 at h
 refine c8 (n := 143) (L0 := [(0, st ([126] : List UInt8)), (1, st ([62, 62] : List UInt8))]) Tryd.func82 rfl rfl rfl rfl (fun w0 M Q hE => ?_)
 refine a7 (fun _ hK => ?_)
 refine a6 ?_
 refine wA ?_
 refine WL.nil ?_
 refine kg (hK [(0, st ([126] : List UInt8)), (1, st ([62, 62] : List UInt8))] _ ?_)
 refine a7 (fun _ hK_1' => ?_)
 refine a6 ?_
 refine wm ?_
 refine wv (OV.len rfl c9) ?_
 refine wA ?_
 refine WL.nil ?_
 refine kg (hK_1' [(0, st ([126] : List UInt8)), (1, st ([62, 62] : List UInt8)), (5, zI 2)] _ ?_)
 refine a7 (fun _ hK_2' => ?_)
 refine b7 ?_
 refine a7 (fun _ hK_3' => ?_)
 refine a6 ?_
 refine wm ?_
 refine wv (OV.eql rfl rfl) ?_
 refine wm ?_
 refine wm ?_
 refine wm ?_
 refine wv (OV.eqlS rfl rfl) ?_
 refine wv (OV.pickF rfl rfl) ?_
 refine wA ?_
 refine WL.nil ?_
 refine kg (hK_3' [(0, st ([126] : List UInt8)), (1, st ([62, 62] : List UInt8)), (5, zI 2), (16, zB (decide (([62, 62] : List UInt8) = ([126] : List UInt8))))] _ ?_)
 refine b5 (b := decide (([62, 62] : List UInt8) = ([126] : List UInt8))) rfl (fun hb => ?_) (fun hb => ?_)
 ·replace h := e8 h hb
  refine a7 (fun _ hK_4' => ?_)
  refine a6 ?_
  refine wA ?_
  refine WL.nil ?_
  refine kg (hK_4' [(4, zI 0)] _ ?_)
  refine b8 ?_
  exact hE.ret [] rfl rfl (.inl ⟨_, h, rfl⟩) (d7.of1 rfl (RV.tmp rfl))
 ·replace h := e9 h hb
  refine a7 (fun _ hK_5' => ?_)
  refine a6 ?_
  refine wm ?_
  refine wv (OV.eql rfl rfl) ?_
  refine wA ?_
  refine WL.nil ?_
  refine kg (hK_5' [(0, st ([126] : List UInt8)), (1, st ([62, 62] : List UInt8)), (5, zI 2), (24, zB false)] _ ?_)
  refine d5 rfl ?_
  refine a7 (fun _ hK_6' => ?_)
  refine a6 ?_
  refine wm ?_
  refine wm ?_
  refine wv (OV.len rfl c9) ?_
  refine wv (OV.geq rfl rfl) ?_
  refine wA ?_
  refine WL.nil ?_
  refine kg (hK_6' [(0, st ([126] : List UInt8)), (1, st ([62, 62] : List UInt8)), (5, zI 2), (31, zB true)] _ ?_)
  refine f7 rfl ?_
  refine a7 (fun _ hK_7' => ?_)
  refine a6 ?_
  refine wA ?_
  refine WL.nil ?_
  refine kg (hK_7' [(4, zI (-1))] _ ?_)
  refine b8 ?_
  exact hE.ret [] rfl rfl (.inl ⟨_, h, rfl⟩) (d7.of1 rfl (RV.tmp rfl))
def an4  (K : Int → Prop) : Prop :=
 (if (decide (([62, 62] : List UInt8) = ([46] : List UInt8))) = true then
  K 0
 else
  K (-1))
theorem awr   (K : Int → Prop) (h : an4  K) :
  d9 Tryd.prog 82 [st ([46] : List UInt8), st ([62, 62] : List UInt8)] [] [] (fun o => (∃ (v : Int), K v ∧ o = .ret (zI v) []) ∨ (False)) := by
 unfold an4 at h
 refine c8 (n := 143) (L0 := [(0, st ([46] : List UInt8)), (1, st ([62, 62] : List UInt8))]) Tryd.func82 rfl rfl rfl rfl (fun w0 M Q hE => ?_)
 refine a7 (fun _ hK => ?_)
 refine a6 ?_
 refine wA ?_
 refine WL.nil ?_
 refine kg (hK [(0, st ([46] : List UInt8)), (1, st ([62, 62] : List UInt8))] _ ?_)
 refine a7 (fun _ hK_1' => ?_)
 refine a6 ?_
 refine wm ?_
 refine wv (OV.len rfl c9) ?_
 refine wA ?_
 refine WL.nil ?_
 refine kg (hK_1' [(0, st ([46] : List UInt8)), (1, st ([62, 62] : List UInt8)), (5, zI 2)] _ ?_)
 refine a7 (fun _ hK_2' => ?_)
 refine b7 ?_
 refine a7 (fun _ hK_3' => ?_)
 refine a6 ?_
 refine wm ?_
 refine wv (OV.eql rfl rfl) ?_
 refine wm ?_
 refine wm ?_
 refine wm ?_
 refine wv (OV.eqlS rfl rfl) ?_
 refine wv (OV.pickF rfl rfl) ?_
 refine wA ?_
 refine WL.nil ?_
 refine kg (hK_3' [(0, st ([46] : List UInt8)), (1, st ([62, 62] : List UInt8)), (5, zI 2), (16, zB (decide (([62, 62] : List UInt8) = ([46] : List UInt8))))] _ ?_)
 refine b5 (b := decide (([62, 62] : List UInt8) = ([46] : List UInt8))) rfl (fun hb => ?_) (fun hb => ?_)
 ·replace h := e8 h hb
  refine a7 (fun _ hK_4' => ?_)
  refine a6 ?_
  refine wA ?_
  refine WL.nil ?_
  refine kg (hK_4' [(4, zI 0)] _ ?_)
  refine b8 ?_
  exact hE.ret [] rfl rfl (.inl ⟨_, h, rfl⟩) (d7.of1 rfl (RV.tmp rfl))
 ·replace h := e9 h hb
  refine a7 (fun _ hK_5' => ?_)
  refine a6 ?_
  refine wm ?_
  refine wv (OV.eql rfl rfl) ?_
  refine wA ?_
  refine WL.nil ?_
  refine kg (hK_5' [(0, st ([46] : List UInt8)), (1, st ([62, 62] : List UInt8)), (5, zI 2), (24, zB false)] _ ?_)
  refine d5 rfl ?_
  refine a7 (fun _ hK_6' => ?_)
  refine a6 ?_
  refine wm ?_
  refine wm ?_
  refine wv (OV.len rfl c9) ?_
  refine wv (OV.geq rfl rfl) ?_
  refine wA ?_
  refine WL.nil ?_
  refine kg (hK_6' [(0, st ([46] : List UInt8)), (1, st ([62, 62] : List UInt8)), (5, zI 2), (31, zB true)] _ ?_)
  refine f7 rfl ?_
  refine a7 (fun _ hK_7' => ?_)
  refine a6 ?_
  refine wA ?_
  refine WL.nil ?_
  refine kg (hK_7' [(4, zI (-1))] _ ?_)
  refine b8 ?_
  exact hE.ret [] rfl rfl (.inl ⟨_, h, rfl⟩) (d7.of1 rfl (RV.tmp rfl))
def alo (p : Bs) : Prop := p = [124] ∨ p = [38, 45] ∨ p = [62, 62] ∨ p = [126] ∨ p = [46]
def afh (p : Bs) : Int := if p = [62, 62] then 0 else -1
theorem asq (p q : Bs) (h : alo p ∧ q = [62, 62]) : d9 Tryd.prog 82 [st p, st q] [] [] (Ret (.int .i64 (afh p)) []) := by
 obtain ⟨h, rfl⟩ := h
 rcases h with rfl | rfl | rfl | rfl | rfl
 ·refine d9.one (e := fun v => .int .i64 v) (awx (fun v => v = afh [124]) ?_)
  unfold an1; rw [if_neg (by decide)]; rfl
 ·refine d9.one (e := fun v => .int .i64 v) (awl (fun v => v = afh [38, 45]) ?_)
  unfold anc; rw [if_neg (by decide)]; rfl
 ·refine d9.one (e := fun v => .int .i64 v) (awm (fun v => v = afh [62, 62]) ?_)
  unfold anf; rw [if_pos (by decide)]; rfl
 ·refine d9.one (e := fun v => .int .i64 v) (aw2 (fun v => v = afh [126]) ?_)
  unfold am8; rw [if_neg (by decide)]; rfl
 ·refine d9.one (e := fun v => .int .i64 v) (awr (fun v => v = afh [46]) ?_)
  unfold an4; rw [if_neg (by decide)]; rfl
def ai6 (s : List UInt8) (substr : List UInt8) (K : Int → Prop) : Prop :=
 (alo s ∧ substr = [62, 62]) ∧
 K (afh s)
theorem as2  (s : List UInt8) (substr : List UInt8) (K : Int → Prop) (h : ai6 s substr K) :
  d9 Tryd.prog 77 [st s, st substr] [] [] (fun o => (∃ (v : Int), K v ∧ o = .ret (zI v) []) ∨ (False)) := by
 unfold ai6 at h
 refine c8 (n := 8) (L0 := [(0, st s), (1, st substr)]) Tryd.func77 rfl rfl rfl rfl (fun w0 M Q hE => ?_)
 refine a7 (fun _ hK => ?_)
 refine a6 ?_
 refine wA ?_
 refine WL.nil ?_
 refine kg (hK [(0, st s), (1, st substr)] _ ?_)
 refine a7 (fun _ hK_1' => ?_)
 refine a6 ?_
 refine wm ?_
 refine wm ?_
 obtain ⟨o, h⟩ := h
 refine WL.call (A := []) asx rfl (asq s substr o) rfl trivial rfl rfl ?_
 refine wA ?_
 refine WL.nil ?_
 refine kg (hK_1' [(4, zI (afh s))] _ ?_)
 refine b8 ?_
 exact hE.ret [] rfl rfl (.inl ⟨_, h, rfl⟩) (d7.of1 rfl (RV.tmp rfl))
theorem aom (p q : Bs) (h : alo p ∧ q = [62, 62]) : d9 Tryd.prog 77 [st p, st q] [] [] (Ret (.int .i64 (afh p)) []) := by
 refine d9.one (e := fun v => .int .i64 v) (as2 p q (fun v => v = afh p) ?_)
 unfold ai6
 exact ⟨h, rfl⟩
def aj0 (s : List UInt8) (substr : List UInt8) (K : Bool → Prop) : Prop :=
 (alo s ∧ substr = [62, 62]) ∧
 K (decide (0 ≤ afh s))
theorem avd  (s : List UInt8) (substr : List UInt8) (K : Bool → Prop) (h : aj0 s substr K) :
  d9 Tryd.prog 71 [st s, st substr] [] [] (fun o => (∃ (v : Bool), K v ∧ o = .ret (zB v) []) ∨ (False)) := by
 unfold aj0 at h
 refine c8 (n := 9) (L0 := [(0, st s), (1, st substr)]) Tryd.func71 rfl rfl rfl rfl (fun w0 M Q hE => ?_)
 refine a7 (fun _ hK => ?_)
 refine a6 ?_
 refine wA ?_
 refine WL.nil ?_
 refine kg (hK [(0, st s), (1, st substr)] _ ?_)
 refine a7 (fun _ hK_1' => ?_)
 refine a6 ?_
 refine wm ?_
 refine wm ?_
 obtain ⟨o, h⟩ := h
 refine WL.call (A := []) aty rfl (aom s substr o) rfl trivial rfl rfl ?_
 refine wv (OV.geq rfl rfl) ?_
 refine wA ?_
 refine WL.nil ?_
 refine kg (hK_1' [(4, zB (decide (0 ≤ afh s)))] _ ?_)
 refine b8 ?_
 exact hE.ret [] rfl rfl (.inl ⟨_, h, rfl⟩) (d7.of1 rfl (RV.tmp rfl))
def f8 (p q : Bs) : Bool := if q = [62, 62] then decide (p = [62, 62]) else decide (0 ≤ Lib.indexByte p (q.getD 0 0))
def aj7 (p q : Bs) : Prop := alo p ∧ (q = [62, 62] ∨ ∃ c, q = [c])
theorem aax (p q : Bs) (h : aj7 p q) : d9 Tryd.prog 71 [st p, st q] [] [] (Ret (.bool (f8 p q)) []) := by
 obtain ⟨h5, rfl | ⟨c, rfl⟩⟩ := h
 ·refine d9.one (e := fun v => .bool v) (avd p [62, 62] (fun v => v = f8 p [62, 62]) ?_)
  unfold aj0
  refine ⟨⟨h5, rfl⟩, ?_⟩
  rcases h5 with rfl | rfl | rfl | rfl | rfl <;> decide
 ·have hc : f8 p [c] = decide (0 ≤ Lib.indexByte p c) := by
   unfold f8; rw [if_neg (by simp)]; rfl
  rw [hc]
  exact d9.ofPure fun w => (Tryd.strings_Contains_one ⟨p.toArray⟩ c w).mono fun _ _ ⟨h1, h2⟩ => by subst h2; exact ⟨h1, Below.refl _ _⟩
end Go.Proofs.YtifajndacnfcbaaDoor
