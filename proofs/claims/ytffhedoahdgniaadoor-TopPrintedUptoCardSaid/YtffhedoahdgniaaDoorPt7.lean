/-
  Merged: RfB.
-/
import Derived.Test.YtffhedoahdgniaaDoorPt6
set_option maxRecDepth 100000
namespace Go.Proofs.YtffhedoahdgniaaDoor
open Go Go.RowKit
theorem aoz : afn Tryd.prog 3 = some ([zI 0], 1, 8) := by kernel_rfl
theorem y9 : slB Tryd.prog 40 3 1 = true := by kernel_rfl
theorem aaq : m5 Tryd.prog 63 0 = some 0 := by kernel_rfl
theorem x5 : m5 Tryd.prog 63 2 = some 257 := by kernel_rfl
theorem ah4 : m5 Tryd.prog 63 4 = some 259 := by kernel_rfl
theorem ab7 : m5 Tryd.prog 63 5 = some 260 := by kernel_rfl
theorem aw9 : r8 Tryd.prog 34 = true := by kernel_rfl
theorem adc : m5 Tryd.prog 63 3 = some 258 := by kernel_rfl
theorem x9 : m5 Tryd.prog 32 0 = some 0 := by kernel_rfl
theorem ac4 : r8 Tryd.prog 22 = true := by kernel_rfl
theorem acj : r8 Tryd.prog 36 = true := by kernel_rfl
theorem awb : r8 Tryd.prog 51 = true := by kernel_rfl
theorem aka : RowT Tryd.prog 63 261 := ⟨by kernel_rfl, by kernel_rfl⟩
theorem anq : s7 Tryd.prog 63 261 = true := by kernel_rfl
theorem ah0 : m5 Tryd.prog 63 1 = some 1 := by kernel_rfl
theorem awm : r8 Tryd.prog 35 = true := by kernel_rfl
def at5 (n : List ND) (z : List Int) : Prop := z.length = n.length ∧ ∀ i x, Den n i x → z.getD i.toNat default = min (x.size : Int) 2001
def aj2 (n : List ND) (K : (List Int) → Prop) : Prop :=
 (0 ≤ (n.length : Int) ∧ (8 : Int) * (n.length : Int) ≤ 281474976710656 ∧ (n.length : Int) ≤ 9223372036854775807) ∧
 ∃ (Inv : Int → (List Int) → Prop) (mu : Int → (List Int) → Nat),
  Inv 0 (List.replicate (n.length : Int).toNat 0) ∧ ∀ (i_1' : Int) (l_7' : List Int), Inv i_1' l_7' →
   (if (decide (i_1' < (n.length : Int))) = true then
    ∃ (J0_22' : (List Int) → Prop),
     (∀ (l_9' : List Int), J0_22' l_9' →
      (I64 (i_1' + 1)) ∧
      Inv (i_1' + 1) l_9' ∧ mu (i_1' + 1) l_9' < mu i_1' l_7') ∧
     ∃ (J0_23' : Int → Prop),
      (∀ (a_5' : Int), J0_23' a_5' →
       ∃ (J0_25' : (List Int) → Prop),
        (∀ (l_10' : List Int), J0_25' l_10' →
         (0 ≤ i_1' ∧ i_1' < (l_10'.length : Int)) ∧
         (if (decide (2001 < (l_10'.getD (i_1').toNat default))) = true then
          (0 ≤ i_1' ∧ i_1' < (l_10'.length : Int)) ∧
          J0_22' (l_10'.set ((i_1').toNat) 2001)
         else
          J0_22' l_10')) ∧
        (0 ≤ i_1' ∧ i_1' < (n.length : Int)) ∧
        ∃ (J0_26' : Bool → Prop),
         (∀ (t48_11' : Bool), J0_26' t48_11' →
          (if t48_11' = true then
           (0 ≤ i_1' ∧ i_1' < (l_7'.length : Int)) ∧
           J0_25' (l_7'.set ((i_1').toNat) 1)
          else
           (if (decide ((n.getD (i_1').toNat default).1 = 7)) = true then
            (0 ≤ i_1' ∧ i_1' < (n.length : Int)) ∧
            (0 ≤ i_1' ∧ i_1' < (n.length : Int)) ∧
            (ay3 a_5' ((n.getD (i_1').toNat default).2.2.2.2.1) ((n.getD (i_1').toNat default).2.2.2.2.2)) ∧
            (0 ≤ i_1' ∧ i_1' < (l_7'.length : Int)) ∧
            J0_25' (l_7'.set ((i_1').toNat) (acq a_5' ((n.getD (i_1').toNat default).2.2.2.2.1) ((n.getD (i_1').toNat default).2.2.2.2.2)))
           else
            (I64 (1 + a_5')) ∧
            (0 ≤ i_1' ∧ i_1' < (n.length : Int)) ∧
            (0 ≤ ((n.getD (i_1').toNat default).2.2.2.1) ∧ ((n.getD (i_1').toNat default).2.2.2.1) < (l_7'.length : Int)) ∧
            (I64 ((1 + a_5') + (l_7'.getD (((n.getD (i_1').toNat default).2.2.2.1)).toNat default))) ∧
            (0 ≤ i_1' ∧ i_1' < (l_7'.length : Int)) ∧
            J0_25' (l_7'.set ((i_1').toNat) ((1 + a_5') + (l_7'.getD (((n.getD (i_1').toNat default).2.2.2.1)).toNat default)))))) ∧
         (if (decide ((n.getD (i_1').toNat default).1 = 0)) = true then
          J0_26' (decide ((n.getD (i_1').toNat default).1 = 0))
         else
          J0_26' (decide ((n.getD (i_1').toNat default).1 = 1)))) ∧
      (0 ≤ i_1' ∧ i_1' < (n.length : Int)) ∧
      (if (decide (2 ≤ (n.getD (i_1').toNat default).1)) = true then
       (0 ≤ i_1' ∧ i_1' < (n.length : Int)) ∧
       (0 ≤ ((n.getD (i_1').toNat default).2.2.1) ∧ ((n.getD (i_1').toNat default).2.2.1) < (l_7'.length : Int)) ∧
       J0_23' (l_7'.getD (((n.getD (i_1').toNat default).2.2.1)).toNat default)
      else
       J0_23' 0)
   else
    K l_7')
theorem awz (w : Value) (n : List ND) (Ri1 : List (Nat × Obj)) (hRi1 : aeb w Ri1 n.length (n.flatMap ndC)) (K : (List Int) → Prop) (h : aj2 n K) :
  d5 Tryd.prog 21 [w] (Ri1 ++ []) [] (fun o => (∃ (w_2' : Value) (v : List Int), K v ∧ o = .ret (w_2') [HA.row w_2' 3 1 v.length (v.flatMap t0)]) ∨ (False)) := by
 unfold aj2 at h
 refine c8 (n := 80) (L0 := [(0, w)]) Tryd.func21 rfl rfl rfl rfl (fun w0 M Q hE => ?_)
 have hi1 : LIn ⟨80, [], w0, M, (Ri1 ++ [])⟩ w n.length (n.flatMap ndC) := LIn.mk hRi1 (fun p hp => by simp [hp])
 refine a6 (fun _ hK => ?_)
 refine a4 ?_
 refine wa ?_
 refine WL.nilRow 3 1 t0 ?_
 refine WL.nil ?_
 refine kg (hK [(0, w)] _ ?_)
 refine a6 (fun _ hK_1' => ?_)
 refine a4 ?_
 refine wm ?_
 refine wv (OV.lenIn hi1 rfl p9) ?_
 obtain ⟨o, h⟩ := h
 refine WL.makeRow (zero := 0) rfl rfl y9 aoz o t0 rfl aa7 rfl rfl (fun w_1' => ?_)
 refine wa ?_
 refine WL.nil ?_
 refine kg (hK_1' [(0, w), (3, w_1')] _ ?_)
 refine a6 (fun _ hK_2' => ?_)
 refine a6 (fun _ hK_3' => ?_)
 refine a4 ?_
 refine wa ?_
 refine WL.nil ?_
 refine kg (hK_3' [(0, w), (3, w_1'), (4, zI 0)] _ ?_)
 refine d6 ?_
 refine WC.pick (H' := [HA.row w_1' 3 1 (List.replicate (n.length : Int).toNat 0).length ((List.replicate (n.length : Int).toNat 0).flatMap t0)]) [0] rfl rfl ?_
 obtain ⟨Inv, mu, h0, hr⟩ := h
 refine w9 (S := Int × (List Int)) (fun σ => Inv σ.1 σ.2) (fun σ => mu σ.1 σ.2) (fun σ => [(0, w), (3, w_1'), (4, zI σ.1)]) (fun σ => [HA.row w_1' 3 1 σ.2.length (σ.2.flatMap t0)]) (0, List.replicate (n.length : Int).toNat 0) h0 ⟨rfl, rfl, rfl, trivial⟩ rfl ?_
 rintro ⟨i_1', l_7'⟩ hi K0_74' hK_74'
 have h := hr i_1' l_7' hi
 show WC _ _ _ _ [(0, w), (3, w_1'), (4, zI i_1')] [HA.row w_1' 3 1 l_7'.length (l_7'.flatMap t0)]
 refine a6 (fun _ hK_75' => ?_)
 refine a6 (fun _ hK_76' => ?_)
 refine a4 ?_
 refine wm ?_
 refine wm ?_
 refine wv (OV.lenIn hi1 rfl p9) ?_
 refine wv (OV.lss rfl rfl) ?_
 refine WL.nil ?_
 refine kg (hK_76' [(0, w), (3, w_1'), (4, zI i_1'), (12, zB (decide (i_1' < (n.length : Int))))] _ ?_)
 refine b6 (b := decide (i_1' < (n.length : Int))) rfl (fun hb => ?_) (fun hb => ?_)
 ·replace h := j4 h hb
  refine b7 ?_
  refine kg (hK_75' [(0, w), (3, w_1'), (4, zI i_1')] _ ?_)
  obtain ⟨J0_22', hJ_22', h⟩ := h
  refine n5 (X := (List Int)) (fun σ => J0_22' σ) (fun σ => [(0, w), (3, w_1'), (4, zI i_1')]) (fun σ => [HA.row w_1' 3 1 σ.length (σ.flatMap t0)]) ?_ (fun K0_93' hK_93' => ?_)
  ·rintro l_9' hj
   replace h := hJ_22' l_9' hj
   show WC _ _ _ _ [(0, w), (3, w_1'), (4, zI i_1')] [HA.row w_1' 3 1 l_9'.length (l_9'.flatMap t0)]
   refine a4 ?_
   refine wm ?_
   obtain ⟨o_152', h⟩ := h
   refine wv (OV.add rfl rfl o_152') ?_
   refine wa ?_
   refine WL.nil ?_
   exact kh (hK_74' (i_1' + 1, l_9') h.1 h.2) [0]
  ·skip
   refine d6 ?_
   refine a6 (fun _ hK_94' => ?_)
   refine a4 ?_
   refine wa ?_
   refine WL.nil ?_
   refine kg (hK_94' [(0, w), (3, w_1'), (4, zI i_1'), (5, zI 0)] _ ?_)
   obtain ⟨J0_23', hJ_23', h⟩ := h
   refine n5 (X := Int) (fun σ => J0_23' σ) (fun σ => [(0, w), (3, w_1'), (4, zI i_1'), (5, zI σ)]) (fun σ => [HA.row w_1' 3 1 l_7'.length (l_7'.flatMap t0)]) ?_ (fun K0_96' hK_96' => ?_)
   ·rintro a_5' hj
    replace h := hJ_23' a_5' hj
    show WC _ _ _ _ [(0, w), (3, w_1'), (4, zI i_1'), (5, zI a_5')] [HA.row w_1' 3 1 l_7'.length (l_7'.flatMap t0)]
    obtain ⟨J0_25', hJ_25', h⟩ := h
    refine n5 (X := (List Int)) (fun σ => J0_25' σ) (fun σ => [(0, w), (3, w_1'), (4, zI i_1')]) (fun σ => [HA.row w_1' 3 1 σ.length (σ.flatMap t0)]) ?_ (fun K0_102' hK_102' => ?_)
    ·rintro l_10' hj
     replace h := hJ_25' l_10' hj
     show WC _ _ _ _ [(0, w), (3, w_1'), (4, zI i_1')] [HA.row w_1' 3 1 l_10'.length (l_10'.flatMap t0)]
     refine a6 (fun _ hK_103' => ?_)
     refine a4 ?_
     refine wm ?_
     refine wm ?_
     obtain ⟨o_167', h⟩ := h
     refine wv (OV.indexRow 0 rfl rfl rfl y9 o_167') ?_
     refine wv (OV.loadE1 (f := t0) 0 rfl rfl aa7 (by omega) rfl b5) ?_
     refine wv (OV.gtr rfl rfl) ?_
     refine WL.nil ?_
     refine kg (hK_103' [(0, w), (3, w_1'), (4, zI i_1'), (75, zB (decide (2001 < (l_10'.getD (i_1').toNat default))))] _ ?_)
     refine b6 (b := decide (2001 < (l_10'.getD (i_1').toNat default))) rfl (fun hb => ?_) (fun hb => ?_)
     ·replace h := j4 h hb
      refine a4 ?_
      refine wm ?_
      refine wm ?_
      obtain ⟨o_168', h⟩ := h
      refine wv (OV.indexRow 0 rfl rfl rfl y9 o_168') ?_
      refine WL.storeE (f := t0) (z := 2001) 0 rfl rfl rfl aa7 (by decide) (by omega) rfl g9 rfl rfl ?_
      refine WL.nil ?_
      exact kh (hK_93' (l_10'.set ((i_1').toNat) 2001) h) [0]
     ·replace h := j5 h hb
      refine b7 ?_
      exact kh (hK_93' l_10' h) [0]
    ·skip
     refine a6 (fun _ hK_104' => ?_)
     refine a4 ?_
     refine wm ?_
     refine wm ?_
     obtain ⟨o_169', h⟩ := h
     refine wv (OV.indexIn hi1 rfl rfl p9 o_169') ?_
     refine wv (OV.fieldAddr rfl aaq) ?_
     refine wv (OV.loadInEF (f := ndC) (o := 0) hi1 rfl s6 (by omega) (alz _) b5) ?_
     refine WL.nil ?_
     refine kg (hK_104' [(0, w), (3, w_1'), (4, zI i_1'), (5, zI a_5'), (33, zI ((n.getD (i_1').toNat default).1))] _ ?_)
     refine d6 ?_
     obtain ⟨J0_26', hJ_26', h⟩ := h
     refine n5 (X := Bool) (fun σ => J0_26' σ) (fun σ => [(0, w), (3, w_1'), (4, zI i_1'), (5, zI a_5'), (33, zI ((n.getD (i_1').toNat default).1)), (48, zB σ)]) (fun σ => [HA.row w_1' 3 1 l_7'.length (l_7'.flatMap t0)]) ?_ (fun K0_106' hK_106' => ?_)
     ·rintro t48_11' hj
      replace h := hJ_26' t48_11' hj
      show WC _ _ _ _ [(0, w), (3, w_1'), (4, zI i_1'), (5, zI a_5'), (33, zI ((n.getD (i_1').toNat default).1)), (48, zB t48_11')] [HA.row w_1' 3 1 l_7'.length (l_7'.flatMap t0)]
      refine b6 (b := t48_11') rfl (fun hb => ?_) (fun hb => ?_)
      ·replace h := j4 h hb
       refine a4 ?_
       refine wm ?_
       refine wm ?_
       obtain ⟨o_170', h⟩ := h
       refine wv (OV.indexRow 0 rfl rfl rfl y9 o_170') ?_
       refine WL.storeE (f := t0) (z := 1) 0 rfl rfl rfl aa7 (by decide) (by omega) rfl g9 rfl rfl ?_
       refine WL.nil ?_
       exact kh (hK_102' (l_7'.set ((i_1').toNat) 1) h) [0]
      ·replace h := j5 h hb
       refine a6 (fun _ hK_107' => ?_)
       refine a4 ?_
       refine wv (OV.eql rfl rfl) ?_
       refine wa ?_
       refine WL.nil ?_
       refine kg (hK_107' [(0, w), (3, w_1'), (4, zI i_1'), (5, zI a_5'), (54, zB (decide ((n.getD (i_1').toNat default).1 = 7)))] _ ?_)
       refine b6 (b := decide ((n.getD (i_1').toNat default).1 = 7)) rfl (fun hb => ?_) (fun hb => ?_)
       ·replace h := j4 h hb
        refine q9 14 [] g8 (by kernel_rfl) rfl (fun T_11' hT_11' => ?_)
        refine fv (fun _ => OV.move rfl) ?_
        refine fv (fun _ => OV.move rfl) ?_
        refine fv (fun _ => OV.move rfl) ?_
        refine fv (fun _ => OV.move rfl) ?_
        refine fv (fun _ => OV.move rfl) ?_
        obtain ⟨o_171', h⟩ := h
        refine fv (fun _ => OV.indexIn hi1 rfl rfl p9 o_171') ?_
        refine fv (fun _ => OV.fieldAddr rfl ah4) ?_
        refine fv (fun _ => OV.loadInEF (f := ndC) (o := 259) hi1 rfl s6 (by omega) (avt _) b5) ?_
        refine fv (fun _ => OV.move rfl) ?_
        refine fv (fun _ => OV.move rfl) ?_
        obtain ⟨o_172', h⟩ := h
        refine fv (fun _ => OV.indexIn hi1 rfl rfl p9 o_172') ?_
        refine fv (fun _ => OV.fieldAddr rfl ab7) ?_
        refine fv (fun _ => OV.loadInEF (f := ndC) (o := 260) hi1 rfl s6 (by omega) (ai3 _) b5) ?_
        obtain ⟨o_173', h⟩ := h
        refine FL.call aw9 (fun _ => rfl) (asf a_5' ((n.getD (i_1').toNat default).2.2.2.2.1) ((n.getD (i_1').toNat default).2.2.2.2.2) o_173') trivial rfl (fun _ => rfl) rfl ?_
        refine FL.weak (L' := fun γ => [(0, w), (3, w_1'), (4, zI i_1'), (56, w_1'), (57, zI i_1'), (69, zI (acq a_5' ((n.getD (i_1').toNat default).2.2.2.2.1) ((n.getD (i_1').toNat default).2.2.2.2.2)))]) (fun γ => ⟨rfl, rfl, rfl, rfl, rfl, rfl, trivial⟩) (FL.nil (hT_11' (fun γ => [(0, w), (3, w_1'), (4, zI i_1'), (56, w_1'), (57, zI i_1'), (69, zI (acq a_5' ((n.getD (i_1').toNat default).2.2.2.2.1) ((n.getD (i_1').toNat default).2.2.2.2.2)))]) (fun γ => ?_)))
        obtain ⟨o_174', h⟩ := h
        refine wv (OV.indexRow 0 rfl rfl rfl y9 o_174') ?_
        refine WL.storeE (f := t0) (z := acq a_5' ((n.getD (i_1').toNat default).2.2.2.2.1) ((n.getD (i_1').toNat default).2.2.2.2.2)) 0 rfl rfl rfl aa7 (by decide) (by omega) rfl g9 rfl rfl ?_
        refine WL.nil ?_
        exact kh (hK_102' (l_7'.set ((i_1').toNat) (acq a_5' ((n.getD (i_1').toNat default).2.2.2.2.1) ((n.getD (i_1').toNat default).2.2.2.2.2))) h) [0]
       ·replace h := j5 h hb
        refine a4 ?_
        refine wm ?_
        refine wm ?_
        refine wm ?_
        obtain ⟨o_175', h⟩ := h
        refine wv (OV.add rfl rfl o_175') ?_
        refine wm ?_
        refine wm ?_
        refine wm ?_
        obtain ⟨o_176', h⟩ := h
        refine wv (OV.indexIn hi1 rfl rfl p9 o_176') ?_
        refine wv (OV.fieldAddr rfl adc) ?_
        refine wv (OV.loadInEF (f := ndC) (o := 258) hi1 rfl s6 (by omega) (aly _) b5) ?_
        obtain ⟨o_177', h⟩ := h
        refine wv (OV.indexRow 0 rfl rfl rfl y9 o_177') ?_
        refine wv (OV.loadE1 (f := t0) 0 rfl rfl aa7 (by omega) rfl b5) ?_
        obtain ⟨o_178', h⟩ := h
        refine wv (OV.add rfl rfl o_178') ?_
        obtain ⟨o_179', h⟩ := h
        refine wv (OV.indexRow 0 rfl rfl rfl y9 o_179') ?_
        refine WL.storeE (f := t0) (z := (1 + a_5') + (l_7'.getD (((n.getD (i_1').toNat default).2.2.2.1)).toNat default)) 0 rfl rfl rfl aa7 (by decide) (by omega) rfl g9 rfl rfl ?_
        refine WL.nil ?_
        exact kh (hK_102' (l_7'.set ((i_1').toNat) ((1 + a_5') + (l_7'.getD (((n.getD (i_1').toNat default).2.2.2.1)).toNat default))) h) [0]
     ·skip
      refine a6 (fun _ hK_108' => ?_)
      refine a4 ?_
      refine wv (OV.eql rfl rfl) ?_
      refine wa ?_
      refine WL.nil ?_
      refine kg (hK_108' [(0, w), (3, w_1'), (4, zI i_1'), (5, zI a_5'), (33, zI ((n.getD (i_1').toNat default).1)), (48, zB (decide ((n.getD (i_1').toNat default).1 = 0)))] _ ?_)
      refine b6 (b := decide ((n.getD (i_1').toNat default).1 = 0)) rfl (fun hb => ?_) (fun hb => ?_)
      ·replace h := j4 h hb
       refine b7 ?_
       exact kh (hK_106' (decide ((n.getD (i_1').toNat default).1 = 0)) h) [0]
      ·replace h := j5 h hb
       refine a4 ?_
       refine wv (OV.eql rfl rfl) ?_
       refine wa ?_
       refine WL.nil ?_
       exact kh (hK_106' (decide ((n.getD (i_1').toNat default).1 = 1)) h) [0]
   ·skip
    refine a6 (fun _ hK_109' => ?_)
    refine a4 ?_
    refine wm ?_
    refine wm ?_
    obtain ⟨o_180', h⟩ := h
    refine wv (OV.indexIn hi1 rfl rfl p9 o_180') ?_
    refine wv (OV.fieldAddr rfl aaq) ?_
    refine wv (OV.loadInEF (f := ndC) (o := 0) hi1 rfl s6 (by omega) (alz _) b5) ?_
    refine wv (OV.geq rfl rfl) ?_
    refine WL.nil ?_
    refine kg (hK_109' [(0, w), (3, w_1'), (4, zI i_1'), (5, zI 0), (20, zB (decide (2 ≤ (n.getD (i_1').toNat default).1)))] _ ?_)
    refine b6 (b := decide (2 ≤ (n.getD (i_1').toNat default).1)) rfl (fun hb => ?_) (fun hb => ?_)
    ·replace h := j4 h hb
     refine a4 ?_
     refine wm ?_
     refine wm ?_
     refine wm ?_
     obtain ⟨o_181', h⟩ := h
     refine wv (OV.indexIn hi1 rfl rfl p9 o_181') ?_
     refine wv (OV.fieldAddr rfl x5) ?_
     refine wv (OV.loadInEF (f := ndC) (o := 257) hi1 rfl s6 (by omega) (adu _) b5) ?_
     obtain ⟨o_182', h⟩ := h
     refine wv (OV.indexRow 0 rfl rfl rfl y9 o_182') ?_
     refine wv (OV.loadE1 (f := t0) 0 rfl rfl aa7 (by omega) rfl b5) ?_
     refine wa ?_
     refine WL.nil ?_
     exact kh (hK_96' (l_7'.getD (((n.getD (i_1').toNat default).2.2.1)).toNat default) h) [0]
    ·replace h := j5 h hb
     refine b7 ?_
     exact kh (hK_96' 0 h) [0]
 ·replace h := j5 h hb
  refine s5 ?_
  refine kg (hK_2' [(3, w_1')] _ ?_)
  refine a6 (fun _ hK_110' => ?_)
  refine a4 ?_
  refine wm ?_
  refine wa ?_
  refine WL.nil ?_
  refine kg (hK_110' [(2, w_1')] _ ?_)
  refine c9 ?_
  exact hE.ret [0] rfl rfl (.inl ⟨_, _, h, rfl⟩) (f9.of1 rfl (RV.tmp rfl))
theorem ac8 {α : Type} [Inhabited α] {l : List α} {i : Nat} (h : i < l.length) (v : α) : (l.set i v).getD i default = v := by simp [List.getD_eq_getElem?_getD, h]
theorem ani {α : Type} [Inhabited α] {l : List α} {i j : Nat} (h : i ≠ j) (v : α) : (l.set i v).getD j default = l.getD j default := by simp [List.getD_eq_getElem?_getD, List.getElem?_set_ne h]
theorem aru (w : Value) (n : List ND) (R : List (Nat × Obj)) (hR : aeb w R n.length (n.flatMap ndC)) (h : n.length ≤ 10000000 ∧ NOK n) : d5 Tryd.prog 21 [w] (R ++ []) []
  (fun o => ∃ w' z, at5 n z ∧ o = .ret w' [.row w' 3 1 z.length (z.flatMap t0)]) := by
 obtain ⟨hl, hok⟩ := h
 refine (awz w n R hR (fun z => at5 n z) ?_).weak ?_
 ·unfold aj2
  refine ⟨by omega, fun i l => 0 ≤ i ∧ i ≤ n.length ∧ l.length = n.length ∧ ∀ j x, Den n j x → j < i → l.getD j.toNat default = min (x.size : Int) 2001, fun i _ => (n.length - i).toNat, ⟨by omega, by omega, by simp, fun j x hx hj => by have := hx.lt; omega⟩, ?_⟩
  rintro i l ⟨i0, i1, i2, i3⟩
  by_cases hi : i < n.length
  ·rw [if_pos (by simpa using hi)]
   obtain ⟨h4, x, hx⟩ := hok i i0 hi
   have hil : i.toNat < l.length := by omega
   refine ⟨fun l' => l' = l.set i.toNat (min (x.size : Int) 2001), ?_, fun a => a = if 2 ≤ (nd n i).1 then l.getD (nd n i).2.2.1.toNat default else 0, ?_, ⟨i0, hi⟩, ?_⟩
   ·rintro l' rfl
    refine ⟨by unfold I64; omega, ⟨by omega, by omega, by simpa using i2, fun j y hy hj => ?_⟩, by show (n.length - (i + 1)).toNat < (n.length - i).toNat; omega⟩
    have hj0 := hy.lt
    by_cases e : j = i
    ·subst e
     rw [ac8 hil, hx.det hy]
    ·rw [ani (by omega)]; exact i3 j y hy (by omega)
   ·rintro a rfl
    refine ⟨fun l' => ∃ v : Int, l' = l.set i.toNat v ∧ min v 2001 = min (x.size : Int) 2001, ?_, ⟨i0, hi⟩, fun q => q = decide ((nd n i).1 = 0 ∨ (nd n i).1 = 1), ?_, ?_⟩
    ·rintro l' ⟨v, rfl, hv⟩
     rw [ac8 hil]
     refine ⟨⟨i0, by simp; omega⟩, ?_⟩
     by_cases hc : 2001 < v
     ·rw [if_pos (by simpa using hc)]
      refine ⟨⟨i0, by simp; omega⟩, ?_⟩
      rw [List.set_set, ← hv, show min v 2001 = 2001 by omega]
     ·rw [if_neg (by simpa using hc)]
      rw [← hv, show min v 2001 = v by omega]
    ·rintro q rfl
     by_cases h01 : (nd n i).1 = 0 ∨ (nd n i).1 = 1
     ·rw [if_pos (by simpa using h01)]
      refine ⟨⟨i0, by omega⟩, 1, rfl, ?_⟩
      cases hx with
      | eps => rfl
      | cls => rfl
      | bin _ _ g2 g3 => omega
      | star _ _ g2 => omega
      | rep _ _ g2 => omega
     ·rw [if_neg (by simpa using h01)]
      show (if (decide ((nd n i).1 = 7)) = true then _ else _)
      by_cases h7 : (nd n i).1 = 7
      ·rw [if_pos (by simpa using h7)]
       rw [if_pos (show 2 ≤ (nd n i).1 by omega)]
       cases hx with
       | eps _ _ g2 => omega
       | cls _ _ g2 => omega
       | bin _ _ g2 g3 => omega
       | star _ _ g2 => omega
       | rep _ _ g2 g3 g4 g5 =>
        have ha := i3 _ _ g5 g3
        rw [ha]
        exact ⟨⟨i0, hi⟩, ⟨i0, hi⟩, ⟨by omega, by omega, g4⟩, ⟨i0, by omega⟩, _, rfl, aw2 g4⟩
      ·rw [if_neg (by simpa using h7)]
       cases hx with
       | eps _ _ g2 => omega
       | cls _ _ g2 => omega
       | star _ _ g2 => exact absurd g2 h4
       | rep _ _ g2 => omega
       | bin _ _ g2 g3 g4 g5 g6 g7 =>
        have ha := i3 _ _ g6 g4
        have hb := i3 _ _ g7 g5
        have hb0 := g7.lt
        rw [if_pos (show 2 ≤ (nd n i).1 by omega), ha]
        show I64 _ ∧ _ ∧ (0 ≤ (nd n i).2.2.2.1 ∧ (nd n i).2.2.2.1 < (l.length : Int)) ∧ I64 (_ + l.getD (nd n i).2.2.2.1.toNat default) ∧ _ ∧ (∃ v : Int, l.set _ (_ + l.getD (nd n i).2.2.2.1.toNat default) = _ ∧ _)
        rw [hb]
        refine ⟨by unfold I64; omega, ⟨i0, hi⟩, ⟨hb0.1, by omega⟩, by unfold I64; omega, ⟨i0, by omega⟩, _, rfl, ?_⟩
        rw [ahd]; omega
    ·show (if decide ((nd n i).1 = 0) = true then decide ((nd n i).1 = 0) = decide ((nd n i).1 = 0 ∨ (nd n i).1 = 1) else decide ((nd n i).1 = 1) = decide ((nd n i).1 = 0 ∨ (nd n i).1 = 1))
     by_cases k0 : (nd n i).1 = 0 <;> by_cases k1 : (nd n i).1 = 1 <;> first | omega | simp [k0, k1]
   ·show (if decide (2 ≤ (nd n i).1) = true then _ else _)
    by_cases h2 : 2 ≤ (nd n i).1
    ·rw [if_pos (by simpa using h2)]
     have hA : 0 ≤ (nd n i).2.2.1 ∧ (nd n i).2.2.1 < l.length := by
      cases hx with
      | eps _ _ g2 => omega
      | cls _ _ g2 => omega
      | bin _ _ g2 g3 g4 g5 g6 g7 => have := g6.lt; omega
      | star _ _ g2 => exact absurd g2 h4
      | rep _ _ g2 g3 g4 g5 => have := g5.lt; omega
     exact ⟨⟨i0, hi⟩, hA, by rw [if_pos h2]; rfl⟩
    ·rw [if_neg (by simpa using h2), if_neg h2]
  ·rw [if_neg (by simpa using hi)]
   exact ⟨i2, fun j x hx => i3 j x hx (by have := hx.lt; omega)⟩
 ·rintro o (⟨w', z, hK, rfl⟩ | h)
  ·exact ⟨w', z, hK, rfl⟩
  ·exact h.elim
def aq7 (out_1 : Int) (outl : List ND) (op : Int) (a : Int) (b_1' : Int) (K : Int → Int → (List ND) → Prop) : Prop :=
 (((outl.length + 1) + (outl.length + 1) / 4 + 192) * 296 ≤ 281474976710656 ∧ outl.length + 1 ≤ 9223372036854775807) ∧
 (I64 (((outl ++ [(op, (fun _ => false), a, b_1', 0, 0)]).length : Int) - 1)) ∧
 K (((outl ++ [(op, (fun _ => false), a, b_1', 0, 0)]).length : Int) - 1) out_1 (outl ++ [(op, (fun _ => false), a, b_1', 0, 0)])
theorem a03 (b : Nat) (w : Value) (out_1 : Int) (outl : List ND) (op : Int) (a : Int) (b_1' : Int) (K : Int → Int → (List ND) → Prop) (h : aq7 out_1 outl op a b_1' K) :
  d5 Tryd.prog 36 [zP b, zI op, zI a, zI b_1'] [] [HA.blk b (.cells [w, zI out_1].toArray 32 (0, 0)), HA.row w 63 261 outl.length (outl.flatMap ndC)] (fun o => (∃ (v : Int) (d_1' : Int) (w_2' : Value) (d : List ND), K v d_1' d ∧ o = .ret (zI v) [HA.blk b (.cells [w_2', zI d_1'].toArray 32 (0, 0)), HA.row w_2' 63 261 d.length (d.flatMap ndC)]) ∨ (False)) := by
 unfold aq7 at h
 refine c8 (n := 28) (L0 := [(0, zP b), (1, zI op), (2, zI a), (3, zI b_1')]) Tryd.func36 rfl rfl rfl rfl (fun w0 M Q hE => ?_)
 refine a6 (fun _ hK => ?_)
 refine a4 ?_
 refine wa ?_
 refine WL.nil ?_
 refine kg (hK [(0, zP b), (1, zI op), (2, zI a), (3, zI b_1')] _ ?_)
 refine a6 (fun _ hK_1' => ?_)
 refine a4 ?_
 refine wm ?_
 refine wm ?_
 refine wv (OV.nilCheck rfl) ?_
 refine wv (OV.fieldAddr0 rfl x9) ?_
 refine wv (OV.load rfl (At.own 0 rfl) rfl v8) ?_
 refine wm ?_
 refine wm ?_
 refine wm ?_
 refine wv (OV.build rfl (cs := ndC (op, (fun _ => false), a, b_1', 0, 0)) (by kernel_rfl)) ?_
 refine WL.make (MV.buildSlice1 (cs := ndC (op, (fun _ => false), a, b_1', 0, 0)) rfl rfl p9 ace (s6 _) (s6 _)) rfl rfl rfl (fun b_2' => ?_)
 obtain ⟨o, h⟩ := h
 refine WL.append (f := ndC) (ms := [(op, (fun _ => false), a, b_1', 0, 0)]) 2 0 rfl rfl rfl rfl (agu _ _) rfl s6 (by decide) (afr (op, (fun _ => false), a, b_1', 0, 0)) p9 aec rfl o rfl rfl (fun w_1' => ?_)
 refine wv (OV.nilCheck rfl) ?_
 refine wv (OV.fieldAddr0 rfl x9) ?_
 refine WL.storeSl (cs' := [w_1', zI out_1]) 1 2 rfl rfl rfl rfl ad8 (Nat.le_of_ble_eq_true rfl) rfl rfl ?_
 refine WL.nil ?_
 refine kg (hK_1' [(0, zP b)] _ ?_)
 refine a6 (fun _ hK_2' => ?_)
 refine a4 ?_
 refine wm ?_
 refine wv (OV.nilCheck rfl) ?_
 refine wv (OV.fieldAddr0 rfl x9) ?_
 refine wv (OV.load rfl (At.own 1 rfl) rfl v8) ?_
 refine wv (OV.lenRow 2 rfl rfl p9) ?_
 obtain ⟨o_1', h⟩ := h
 refine wv (OV.sub rfl rfl o_1') ?_
 refine wa ?_
 refine WL.nil ?_
 refine kg (hK_2' [(8, zI (((outl ++ [(op, (fun _ => false), a, b_1', 0, 0)]).length : Int) - 1))] _ ?_)
 refine c9 ?_
 exact hE.ret [1, 2] rfl rfl (.inl ⟨_, _, _, _, h, rfl⟩) (f9.of1 rfl (RV.tmp rfl))
abbrev reB (b : Nat) (w : Value) (r : Int) : HA := .blk b (.cells [w, .int .i64 r].toArray 32 (0, 0))
theorem acl (b : Nat) (w : Value) (n : List ND) (r op a c : Int) (h : n.length ≤ 100000000) : d5 Tryd.prog 36 [.pointer (some ⟨b, 0, none⟩), .int .i64 op, .int .i64 a, .int .i64 c] [] [reB b w r, ndR w n]
  (fun o => ∃ w', o = .ret (.int .i64 (n.length : Int)) [reB b w' r, ndR w' (n ++ [(op, fun _ => false, a, c, 0, 0)])]) := by
 refine (a03 b w r n op a c (fun v x l => v = (n.length : Int) ∧ x = r ∧ l = n ++ [(op, fun _ => false, a, c, 0, 0)]) ?_).weak ?_
 ·unfold aq7
  have hl : (n ++ [(op, fun _ => false, a, c, 0, 0)]).length = n.length + 1 := by simp
  rw [hl]
  exact ⟨by omega, by unfold I64; omega, by omega, rfl, rfl⟩
 ·rintro o (⟨v, x, w', l, ⟨rfl, rfl, rfl⟩, rfl⟩ | h)
  ·exact ⟨w', rfl⟩
  ·exact h.elim
def t6 (o : Nat) : Tr → List ND
 | .none => ([(0, (fun _ => false), 0, 0, 0, 0)] : List ND)
 | .eps => ([(0, (fun _ => false), 0, 0, 0, 0)] : List ND)
 | .cls s => ([(1, (fun j => BitVec.getLsbD s j), 0, 0, 0, 0)] : List ND)
 | .cat a b => t6 o a ++ t6 (o + a.size) b ++ ([(2, (fun _ => false), ((o + a.size : Nat) : Int) - 1, ((o + a.size + b.size : Nat) : Int) - 1, 0, 0)] : List ND)
 | .alt a b => t6 o a ++ t6 (o + a.size) b ++ ([(3, (fun _ => false), ((o + a.size : Nat) : Int) - 1, ((o + a.size + b.size : Nat) : Int) - 1, 0, 0)] : List ND)
 | .and a b => t6 o a ++ t6 (o + a.size) b ++ ([(5, (fun _ => false), ((o + a.size : Nat) : Int) - 1, ((o + a.size + b.size : Nat) : Int) - 1, 0, 0)] : List ND)
 | .minus a b => t6 o a ++ t6 (o + a.size) b ++ ([(6, (fun _ => false), ((o + a.size : Nat) : Int) - 1, ((o + a.size + b.size : Nat) : Int) - 1, 0, 0)] : List ND)
 | .star a => t6 o a ++ ([(4, (fun _ => false), ((o + a.size : Nat) : Int) - 1, 0, 0, 0)] : List ND)
theorem abw : ∀ (x : Tr) (o : Nat), (t6 o x).length = x.size
 | .none, _ | .eps, _ | .cls _, _ => rfl
 | .cat a b, o | .alt a b, o | .and a b, o | .minus a b, o => by simp only [t6, List.length_append, abw a, abw b, List.length_cons, List.length_nil, Tr.size]; omega
 | .star a, o => by simp only [t6, List.length_append, abw a, List.length_cons, List.length_nil, Tr.size]; omega
theorem apg (op : Int) (a b : Tr) (o : Nat) (h : op = 2 ∨ op = 3 ∨ op = 5 ∨ op = 6) : t6 o (ag3 op a b) = t6 o a ++ t6 (o + a.size) b ++ ([(op, (fun _ => false), ((o + a.size : Nat) : Int) - 1, ((o + a.size + b.size : Nat) : Int) - 1, 0, 0)] : List ND) := by
 rcases h with rfl | rfl | rfl | rfl <;> rfl
def ajy (n : List ND) (i : Int) (o : List ND) : Prop := NOK n ∧ ∃ x, Den n i x ∧ o.length + x.size ≤ 10000
def ab2 (o : List ND) (x : Tr) (l : List ND) (r : Int) : Prop := l = o ++ t6 o.length x ∧ r = ((o.length + x.size : Nat) : Int) - 1
def ah2 (n : List ND) (i : Int) (o l : List ND) (r : Int) : Prop := ∃ x, Den n i x ∧ ab2 o x l r
def a2a (n : List ND) (i : Int) (o : List ND) : Prop := NOK n ∧ ∃ x, Den n i x ∧ o.length + x.size + 2 ≤ 10000
def a10 (n : List ND) (i : Int) (o l : List ND) (r : Int) : Prop := ∃ x, Den n i x ∧ ab2 o (.alt x .eps) l r
def avk (n : List ND) (d : ND) (o : List ND) : Prop := NOK n ∧ aiy d.2.2.2.2.1 d.2.2.2.2.2 ∧ ∃ x, Den n d.2.2.1 x ∧ o.length + (ajz x d.2.2.2.2.1 d.2.2.2.2.2).size ≤ 10000
def aja (n : List ND) (d : ND) (o l : List ND) (r : Int) : Prop := ∃ x, Den n d.2.2.1 x ∧ ab2 o (ajz x d.2.2.2.2.1 d.2.2.2.2.2) l r
def aa6 (w : Value) (n : List ND) (i : Int) : Prop := ∀ (R : List (Nat × Obj)), aeb w R n.length (n.flatMap ndC) → ∀ (b : Nat) (wo : Value) (o : List ND) (r : Int), ajy n i o → d5 Tryd.prog 22 [w, .int .i64 i, .pointer (some ⟨b, 0, none⟩)] (R ++ []) [reB b wo r, ndR wo o]
 (fun out => ∃ w' l q, ah2 n i o l q ∧ out = .ret (.int .i64 q) [reB b w' r, ndR w' l])
def avg (w : Value) (n : List ND) (i : Int) : Prop := ∀ (R : List (Nat × Obj)), aeb w R n.length (n.flatMap ndC) → ∀ (b : Nat) (wo : Value) (o : List ND) (r : Int), a2a n i o → d5 Tryd.prog 51 [w, .int .i64 i, .pointer (some ⟨b, 0, none⟩)] (R ++ []) [reB b wo r, ndR wo o]
 (fun out => ∃ w' l q, a10 n i o l q ∧ out = .ret (.int .i64 q) [reB b w' r, ndR w' l])
def amc (w : Value) (n : List ND) (d : ND) : Prop := ∀ (R : List (Nat × Obj)), aeb w R n.length (n.flatMap ndC) → ∀ (b : Nat) (wo : Value) (o : List ND) (r : Int), avk n d o → d5 Tryd.prog 35 [w, .agg (ndC d).toArray, .pointer (some ⟨b, 0, none⟩)] (R ++ []) [reB b wo r, ndR wo o]
 (fun out => ∃ w' l q, aja n d o l q ∧ out = .ret (.int .i64 q) [reB b w' r, ndR w' l])
def aqd (w : Value) (n : List ND) (i : Int) (out_1 : Int) (outl : List ND) (K : Int → Int → (List ND) → Prop) : Prop :=
 (aa6 w n i) ∧
 (ajy n i outl) ∧
 (∀ (l : List ND) (r : Int), ah2 n i outl l r →
  (l.length ≤ 100000000) ∧
  (
   ((l ++ [(0, fun _ => false, 0, 0, 0, 0)]).length ≤ 100000000) ∧
   (
    K ((l ++ [(0, fun _ => false, 0, 0, 0, 0)]).length : Int) out_1 ((l ++ [(0, fun _ => false, 0, 0, 0, 0)]) ++ [(3, fun _ => false, r, (l.length : Int), 0, 0)]))))
theorem a0t (w : Value) (b : Nat) (w_1' : Value) (n : List ND) (i : Int) (out_1 : Int) (outl : List ND) (Ri1 : List (Nat × Obj)) (hRi1 : aeb w Ri1 n.length (n.flatMap ndC)) (K : Int → Int → (List ND) → Prop) (h : aqd w n i out_1 outl K) :
  d5 Tryd.prog 51 [w, zI i, zP b] (Ri1 ++ []) [HA.blk b (.cells [w_1', zI out_1].toArray 32 (0, 0)), HA.row w_1' 63 261 outl.length (outl.flatMap ndC)] (fun o => (∃ (v : Int) (d_1' : Int) (w_5' : Value) (d : List ND), K v d_1' d ∧ o = .ret (zI v) [HA.blk b (.cells [w_5', zI d_1'].toArray 32 (0, 0)), HA.row w_5' 63 261 d.length (d.flatMap ndC)]) ∨ (False)) := by
 unfold aqd at h
 refine c8 (n := 19) (L0 := [(0, w), (1, zI i), (2, zP b)]) Tryd.func51 rfl rfl rfl rfl (fun w0 M Q hE => ?_)
 have hi1 : LIn ⟨19, [], w0, M, (Ri1 ++ [])⟩ w n.length (n.flatMap ndC) := LIn.mk hRi1 (fun p hp => by simp [hp])
 refine a6 (fun _ hK => ?_)
 refine a4 ?_
 refine wa ?_
 refine WL.nil ?_
 refine kg (hK [(0, w), (1, zI i), (2, zP b)] _ ?_)
 refine a6 (fun _ hK_1' => ?_)
 refine a4 ?_
 refine wm ?_
 refine wm ?_
 refine wm ?_
 obtain ⟨o, h⟩ := h
 obtain ⟨o_1', h⟩ := h
 refine WL.callS1 ac4 rfl (fun R hR => o R hR b w_1' outl out_1 o_1') rfl (LOk.inn hi1) trivial rfl rfl (fun r H' hS => ?_) (fun c H' hS => ?_)
 ·obtain ⟨w_2', l, r, hc, ho⟩ := hS
  cases ho
  replace h := h l r hc
  refine wa ?_
  refine WL.nil ?_
  refine kg (hK_1' [(2, zP b), (7, zI r)] _ ?_)
  refine a6 (fun _ hK_2' => ?_)
  refine a4 ?_
  refine wm ?_
  obtain ⟨o_2', h⟩ := h
  refine WL.callS acj rfl (acl b w_2' l out_1 0 0 0 o_2') rfl trivial rfl rfl (fun r H' hS => ?_) (fun c H' hS => ?_)
  ·obtain ⟨w_3', ho⟩ := hS
   cases ho
   refine wa ?_
   refine WL.nil ?_
   refine kg (hK_2' [(2, zP b), (7, zI r), (8, zI (l.length : Int))] _ ?_)
   refine a6 (fun _ hK_3' => ?_)
   refine a4 ?_
   refine wm ?_
   refine wm ?_
   refine wm ?_
   obtain ⟨o_3', h⟩ := h
   refine WL.callS acj rfl (acl b w_3' (l ++ [(0, fun _ => false, 0, 0, 0, 0)]) out_1 3 r (l.length : Int) o_3') rfl trivial rfl rfl (fun r H' hS => ?_) (fun c H' hS => ?_)
   ·obtain ⟨w_4', ho⟩ := hS
    cases ho
    refine wa ?_
    refine WL.nil ?_
    refine kg (hK_3' [(6, zI ((l ++ [(0, fun _ => false, 0, 0, 0, 0)]).length : Int))] _ ?_)
    refine c9 ?_
    exact hE.ret [0, 1] rfl rfl (.inl ⟨_, _, _, _, h, rfl⟩) (f9.of1 rfl (RV.tmp rfl))
   ·obtain ⟨w_4', ho⟩ := hS
    cases ho
  ·obtain ⟨w_3', ho⟩ := hS
   cases ho
 ·obtain ⟨w_2', l, r, hc, ho⟩ := hS
  cases ho
def aiq (w : Value) (n : List ND) (d : ND) (out_1 : Int) (outl : List ND) (K : Int → Int → (List ND) → Prop) : Prop :=
 ∃ (J0 : Int → Prop),
  (∀ (m : Int), J0 m →
   (if ((decide (d.2.2.2.2.2 < 0)) && (decide (m = 0))) = true then
    (aa6 w n d.2.2.1) ∧
    (ajy n d.2.2.1 outl) ∧
    (∀ (l : List ND) (r : Int), ah2 n d.2.2.1 outl l r →
     (l.length ≤ 100000000) ∧
     (
      K (l.length : Int) out_1 (l ++ [(4, fun _ => false, r, 0, 0, 0)])))
   else
    (if (decide (d.2.2.2.2.2 = 0)) = true then
     (outl.length ≤ 100000000) ∧
     (
      K (outl.length : Int) out_1 (outl ++ [(0, fun _ => false, 0, 0, 0, 0)]))
    else
     ∃ (J0_1' : Int → Prop),
      (∀ (last : Int), J0_1' last →
       ∃ (Inv : Int → Int → (List ND) → Prop) (mu : Int → Int → (List ND) → Nat),
        Inv (-1) 0 outl ∧ ∀ (whole_2' : Int) (k_1' : Int) (l_23' : List ND), Inv whole_2' k_1' l_23' →
         (if (decide (k_1' < last)) = true then
          ∃ (J0_9' : Int → (List ND) → Prop),
           (∀ (whole_3' : Int) (l_29' : List ND), J0_9' whole_3' l_29' →
            (I64 (k_1' + 1)) ∧
            Inv whole_3' (k_1' + 1) l_29' ∧ mu whole_3' (k_1' + 1) l_29' < mu whole_2' k_1' l_23') ∧
           ∃ (J0_10' : Int → (List ND) → Prop),
            (∀ (part_5' : Int) (l_32' : List ND), J0_10' part_5' l_32' →
             (if (decide (whole_2' < 0)) = true then
              J0_9' part_5' l_32'
             else
              (l_32'.length ≤ 100000000) ∧
              (
               J0_9' (l_32'.length : Int) (l_32' ++ [(2, fun _ => false, whole_2', part_5', 0, 0)])))) ∧
            (if (decide (k_1' < m)) = true then
             (aa6 w n d.2.2.1) ∧
             (ajy n d.2.2.1 l_23') ∧
             (∀ (l_33' : List ND) (r_23' : Int), ah2 n d.2.2.1 l_23' l_33' r_23' →
              J0_10' r_23' l_33')
            else
             (avg w n d.2.2.1) ∧
             (a2a n d.2.2.1 l_23') ∧
             (∀ (l_34' : List ND) (r_24' : Int), a10 n d.2.2.1 l_23' l_34' r_24' →
              J0_10' r_24' l_34'))
         else
          ∃ (J0_11' : Int → (List ND) → Prop),
           (∀ (whole_4' : Int) (l_36' : List ND), J0_11' whole_4' l_36' →
            K whole_4' out_1 l_36') ∧
           (if (decide (d.2.2.2.2.2 < 0)) = true then
            (aa6 w n d.2.2.1) ∧
            (ajy n d.2.2.1 l_23') ∧
            (∀ (l_37' : List ND) (r_26' : Int), ah2 n d.2.2.1 l_23' l_37' r_26' →
             (l_37'.length ≤ 100000000) ∧
             (
              ((l_37' ++ [(4, fun _ => false, r_26', 0, 0, 0)]).length ≤ 100000000) ∧
              (
               J0_11' ((l_37' ++ [(4, fun _ => false, r_26', 0, 0, 0)]).length : Int) ((l_37' ++ [(4, fun _ => false, r_26', 0, 0, 0)]) ++ [(2, fun _ => false, whole_2', (l_37'.length : Int), 0, 0)]))))
           else
            J0_11' whole_2' l_23'))) ∧
      (if (decide (d.2.2.2.2.2 < 0)) = true then
       J0_1' m
      else
       J0_1' d.2.2.2.2.2)))) ∧
  (if (decide (d.2.2.2.2.1 = (-2))) = true then
   J0 1
  else
   J0 d.2.2.2.2.1)
theorem atm (w : Value) (b : Nat) (w_1' : Value) (n : List ND) (d : ND) (out_1 : Int) (outl : List ND) (Ri1 : List (Nat × Obj)) (hRi1 : aeb w Ri1 n.length (n.flatMap ndC)) (K : Int → Int → (List ND) → Prop) (h : aiq w n d out_1 outl K) :
  d5 Tryd.prog 35 [w, Value.agg (ndC d).toArray, zP b] (Ri1 ++ []) [HA.blk b (.cells [w_1', zI out_1].toArray 32 (0, 0)), HA.row w_1' 63 261 outl.length (outl.flatMap ndC)] (fun o => (∃ (v : Int) (d_2' : Int) (w_50' : Value) (d_1' : List ND), K v d_2' d_1' ∧ o = .ret (zI v) [HA.blk b (.cells [w_50', zI d_2'].toArray 32 (0, 0)), HA.row w_50' 63 261 d_1'.length (d_1'.flatMap ndC)]) ∨ (False)) := by
 unfold aiq at h
 refine c8 (n := 79) (L0 := [(0, w), (1, Value.agg (ndC d).toArray), (2, zP b)]) Tryd.func35 rfl rfl rfl rfl (fun w0 M Q hE => ?_)
 have hi1 : LIn ⟨79, [], w0, M, (Ri1 ++ [])⟩ w n.length (n.flatMap ndC) := LIn.mk hRi1 (fun p hp => by simp [hp])
 refine a6 (fun _ hK => ?_)
 refine a4 ?_
 refine WL.make (MV.box (cs := ndC d) rfl rfl) rfl rfl rfl (fun b_1' => ?_)
 refine wa ?_
 refine WL.nil ?_
 refine kg (hK [(0, w), (2, zP b), (4, zP b_1')] _ ?_)
 refine a6 (fun _ hK_1' => ?_)
 refine a4 ?_
 refine wv (OV.fieldAddr0 rfl ah4) ?_
 refine wv (OV.load rfl (At.own 0 rfl) (avt _) b5) ?_
 refine wa ?_
 refine WL.nil ?_
 refine kg (hK_1' [(0, w), (2, zP b), (4, zP b_1'), (7, zI d.2.2.2.2.1)] _ ?_)
 obtain ⟨J0, hJ, h⟩ := h
 refine n5 (X := Int) (fun σ => J0 σ) (fun σ => [(0, w), (2, zP b), (4, zP b_1'), (7, zI σ)]) (fun σ => [HA.blk b_1' (.cells (ndC d).toArray 63 (0, 0)), HA.blk b (.cells [w_1', zI out_1].toArray 32 (0, 0)), HA.row w_1' 63 261 outl.length (outl.flatMap ndC)]) ?_ (fun K0_3' hK_3' => ?_)
 ·rintro m hj
  replace h := hJ m hj
  show WC _ _ _ _ [(0, w), (2, zP b), (4, zP b_1'), (7, zI m)] [HA.blk b_1' (.cells (ndC d).toArray 63 (0, 0)), HA.blk b (.cells [w_1', zI out_1].toArray 32 (0, 0)), HA.row w_1' 63 261 outl.length (outl.flatMap ndC)]
  refine a6 (fun _ hK_4' => ?_)
  refine a6 (fun _ hK_5' => ?_)
  refine a4 ?_
  refine wv (OV.fieldAddr0 rfl ab7) ?_
  refine wv (OV.load rfl (At.own 0 rfl) (ai3 _) b5) ?_
  refine wv (OV.lss rfl rfl) ?_
  refine wm ?_
  refine WL.cut 3 [(0, w), (2, zP b), (4, zP b_1'), (7, zI m), (22, zB ((decide (d.2.2.2.2.2 < 0)) && (decide (m = 0))))] ?_ (fun K0_6' hK_6' => ?_)
  rotate_left
  ·refine WL.split (decide (d.2.2.2.2.2 < 0)) (fun hb => ?_) (fun hb => ?_)
   ·refine WL.set 19 rfl (congrArg zB hb) ?_
    refine wm ?_
    refine wv (OV.eql rfl rfl) ?_
    refine wv (OV.pickT rfl rfl) ?_
    refine WL.set 22 rfl (bT (v := decide (m = 0)) hb) ?_
    exact WL.end_ (kg hK_6')
   ·refine WL.set 19 rfl (congrArg zB hb) ?_
    refine wk ?_
    refine wk ?_
    refine wv (OV.pickF rfl rfl) ?_
    refine WL.set 22 rfl (bF (v := decide (m = 0)) hb) ?_
    exact WL.end_ (kg hK_6')
  refine WL.nil ?_
  refine kg (hK_5' [(0, w), (2, zP b), (4, zP b_1'), (7, zI m), (22, zB ((decide (d.2.2.2.2.2 < 0)) && (decide (m = 0))))] _ ?_)
  refine b6 (b := (decide (d.2.2.2.2.2 < 0)) && (decide (m = 0))) rfl (fun hb => ?_) (fun hb => ?_)
  ·replace h := j4 h hb
   refine a6 (fun _ hK_7' => ?_)
   refine a4 ?_
   refine wm ?_
   refine wm ?_
   refine wv (OV.fieldAddr0 rfl x5) ?_
   refine wv (OV.load rfl (At.own 0 rfl) (adu _) b5) ?_
   refine wm ?_
   obtain ⟨o_1', h⟩ := h
   obtain ⟨o_2', h⟩ := h
   refine WL.pick (H' := [HA.blk b (.cells [w_1', zI out_1].toArray 32 (0, 0)), HA.row w_1' 63 261 outl.length (outl.flatMap ndC), HA.blk b_1' (.cells (ndC d).toArray 63 (0, 0))]) [1, 2, 0] rfl rfl ?_
   refine WL.callS1 ac4 rfl (fun R hR => o_1' R hR b w_1' outl out_1 o_2') rfl (LOk.inn hi1) trivial rfl rfl (fun r H' hS => ?_) (fun c H' hS => ?_)
   ·obtain ⟨w_2', l, r, hc, ho⟩ := hS
    cases ho
    replace h := h l r hc
    obtain ⟨o_3', h⟩ := h
    refine WL.callS acj rfl (acl b w_2' l out_1 4 r 0 o_3') rfl trivial rfl rfl (fun r H' hS => ?_) (fun c H' hS => ?_)
    ·obtain ⟨w_3', ho⟩ := hS
     cases ho
     refine wa ?_
     refine WL.nil ?_
     refine kg (hK_7' [(6, zI (l.length : Int))] _ ?_)
     refine c9 ?_
     exact hE.ret [0, 1] rfl rfl (.inl ⟨_, _, _, _, h, rfl⟩) (f9.of1 rfl (RV.tmp rfl))
    ·obtain ⟨w_3', ho⟩ := hS
     cases ho
   ·obtain ⟨w_2', l, r, hc, ho⟩ := hS
    cases ho
  ·replace h := j5 h hb
   refine b7 ?_
   refine kg (hK_4' [(0, w), (2, zP b), (4, zP b_1'), (7, zI m)] _ ?_)
   refine a6 (fun _ hK_8' => ?_)
   refine a6 (fun _ hK_9' => ?_)
   refine a4 ?_
   refine wv (OV.fieldAddr0 rfl ab7) ?_
   refine wv (OV.load rfl (At.own 0 rfl) (ai3 _) b5) ?_
   refine wv (OV.eql rfl rfl) ?_
   refine WL.nil ?_
   refine kg (hK_9' [(0, w), (2, zP b), (4, zP b_1'), (7, zI m), (32, zB (decide (d.2.2.2.2.2 = 0)))] _ ?_)
   refine b6 (b := decide (d.2.2.2.2.2 = 0)) rfl (fun hb => ?_) (fun hb => ?_)
   ·replace h := j4 h hb
    refine a6 (fun _ hK_10' => ?_)
    refine a4 ?_
    refine wm ?_
    obtain ⟨o_4', h⟩ := h
    refine WL.pick (H' := [HA.blk b (.cells [w_1', zI out_1].toArray 32 (0, 0)), HA.row w_1' 63 261 outl.length (outl.flatMap ndC), HA.blk b_1' (.cells (ndC d).toArray 63 (0, 0))]) [1, 2, 0] rfl rfl ?_
    refine WL.callS acj rfl (acl b w_1' outl out_1 0 0 0 o_4') rfl trivial rfl rfl (fun r H' hS => ?_) (fun c H' hS => ?_)
    ·obtain ⟨w_4', ho⟩ := hS
     cases ho
     refine wa ?_
     refine WL.nil ?_
     refine kg (hK_10' [(6, zI (outl.length : Int))] _ ?_)
     refine c9 ?_
     exact hE.ret [0, 1] rfl rfl (.inl ⟨_, _, _, _, h, rfl⟩) (f9.of1 rfl (RV.tmp rfl))
    ·obtain ⟨w_4', ho⟩ := hS
     cases ho
   ·replace h := j5 h hb
    refine b7 ?_
    refine kg (hK_8' [(0, w), (2, zP b), (4, zP b_1'), (7, zI m)] _ ?_)
    refine a6 (fun _ hK_11' => ?_)
    refine a4 ?_
    refine wv (OV.fieldAddr0 rfl ab7) ?_
    refine wv (OV.load rfl (At.own 0 rfl) (ai3 _) b5) ?_
    refine wa ?_
    refine WL.nil ?_
    refine kg (hK_11' [(0, w), (2, zP b), (4, zP b_1'), (7, zI m), (8, zI d.2.2.2.2.2)] _ ?_)
    obtain ⟨J0_1', hJ_1', h⟩ := h
    refine n5 (X := Int) (fun σ => J0_1' σ) (fun σ => [(0, w), (2, zP b), (4, zP b_1'), (7, zI m), (8, zI σ)]) (fun σ => [HA.blk b_1' (.cells (ndC d).toArray 63 (0, 0)), HA.blk b (.cells [w_1', zI out_1].toArray 32 (0, 0)), HA.row w_1' 63 261 outl.length (outl.flatMap ndC)]) ?_ (fun K0_13' hK_13' => ?_)
    ·rintro last hj
     replace h := hJ_1' last hj
     show WC _ _ _ _ [(0, w), (2, zP b), (4, zP b_1'), (7, zI m), (8, zI last)] [HA.blk b_1' (.cells (ndC d).toArray 63 (0, 0)), HA.blk b (.cells [w_1', zI out_1].toArray 32 (0, 0)), HA.row w_1' 63 261 outl.length (outl.flatMap ndC)]
     refine a6 (fun _ hK_14' => ?_)
     refine a4 ?_
     refine wa ?_
     refine WL.nil ?_
     refine kg (hK_14' [(0, w), (2, zP b), (4, zP b_1'), (7, zI m), (8, zI last), (9, zI (-1))] _ ?_)
     refine a6 (fun _ hK_15' => ?_)
     refine a6 (fun _ hK_16' => ?_)
     refine a4 ?_
     refine wa ?_
     refine WL.nil ?_
     refine kg (hK_16' [(0, w), (2, zP b), (4, zP b_1'), (7, zI m), (8, zI last), (9, zI (-1)), (10, zI 0)] _ ?_)
     refine d6 ?_
     obtain ⟨Inv, mu, h0, hr⟩ := h
     refine w9 (S := Int × Int × Value × (List ND)) (fun σ => Inv σ.1 σ.2.1 σ.2.2.2) (fun σ => mu σ.1 σ.2.1 σ.2.2.2) (fun σ => [(0, w), (2, zP b), (4, zP b_1'), (7, zI m), (8, zI last), (9, zI σ.1), (10, zI σ.2.1)]) (fun σ => [HA.blk b_1' (.cells (ndC d).toArray 63 (0, 0)), HA.blk b (.cells [σ.2.2.1, zI out_1].toArray 32 (0, 0)), HA.row σ.2.2.1 63 261 σ.2.2.2.length (σ.2.2.2.flatMap ndC)]) ((-1), 0, w_1', outl) h0 ⟨rfl, rfl, rfl, rfl, rfl, rfl, rfl, trivial⟩ rfl ?_
     rintro ⟨whole_2', k_1', w_29', l_23'⟩ hi K0_43' hK_43'
     have h := hr whole_2' k_1' l_23' hi
     show WC _ _ _ _ [(0, w), (2, zP b), (4, zP b_1'), (7, zI m), (8, zI last), (9, zI whole_2'), (10, zI k_1')] [HA.blk b_1' (.cells (ndC d).toArray 63 (0, 0)), HA.blk b (.cells [w_29', zI out_1].toArray 32 (0, 0)), HA.row w_29' 63 261 l_23'.length (l_23'.flatMap ndC)]
     refine a6 (fun _ hK_44' => ?_)
     refine a6 (fun _ hK_45' => ?_)
     refine a4 ?_
     refine wm ?_
     refine wm ?_
     refine wv (OV.lss rfl rfl) ?_
     refine WL.nil ?_
     refine kg (hK_45' [(0, w), (2, zP b), (4, zP b_1'), (7, zI m), (8, zI last), (9, zI whole_2'), (10, zI k_1'), (42, zB (decide (k_1' < last)))] _ ?_)
     refine b6 (b := decide (k_1' < last)) rfl (fun hb => ?_) (fun hb => ?_)
     ·replace h := j4 h hb
      refine b7 ?_
      refine kg (hK_44' [(0, w), (2, zP b), (4, zP b_1'), (7, zI m), (8, zI last), (9, zI whole_2'), (10, zI k_1')] _ ?_)
      obtain ⟨J0_9', hJ_9', h⟩ := h
      refine n5 (X := Int × Value × (List ND)) (fun σ => J0_9' σ.1 σ.2.2) (fun σ => [(0, w), (2, zP b), (4, zP b_1'), (7, zI m), (8, zI last), (9, zI σ.1), (10, zI k_1')]) (fun σ => [HA.blk b (.cells [σ.2.1, zI out_1].toArray 32 (0, 0)), HA.row σ.2.1 63 261 σ.2.2.length (σ.2.2.flatMap ndC), HA.blk b_1' (.cells (ndC d).toArray 63 (0, 0))]) ?_ (fun K0_51' hK_51' => ?_)
      ·rintro ⟨whole_3', w_36', l_29'⟩ hj
       replace h := hJ_9' whole_3' l_29' hj
       show WC _ _ _ _ [(0, w), (2, zP b), (4, zP b_1'), (7, zI m), (8, zI last), (9, zI whole_3'), (10, zI k_1')] [HA.blk b (.cells [w_36', zI out_1].toArray 32 (0, 0)), HA.row w_36' 63 261 l_29'.length (l_29'.flatMap ndC), HA.blk b_1' (.cells (ndC d).toArray 63 (0, 0))]
       refine a4 ?_
       refine wm ?_
       obtain ⟨o_49', h⟩ := h
       refine wv (OV.add rfl rfl o_49') ?_
       refine wa ?_
       refine WL.nil ?_
       exact kh (hK_43' (whole_3', k_1' + 1, w_36', l_29') h.1 h.2) [2, 0, 1]
      ·skip
       refine d6 ?_
       refine a6 (fun _ hK_52' => ?_)
       refine a4 ?_
       refine wa ?_
       refine WL.nil ?_
       refine kg (hK_52' [(0, w), (2, zP b), (4, zP b_1'), (7, zI m), (8, zI last), (9, zI whole_2'), (10, zI k_1')] _ ?_)
       obtain ⟨J0_10', hJ_10', h⟩ := h
       refine n5 (X := Int × Value × (List ND)) (fun σ => J0_10' σ.1 σ.2.2) (fun σ => [(0, w), (2, zP b), (4, zP b_1'), (7, zI m), (8, zI last), (9, zI whole_2'), (10, zI k_1'), (11, zI σ.1)]) (fun σ => [HA.blk b (.cells [σ.2.1, zI out_1].toArray 32 (0, 0)), HA.row σ.2.1 63 261 σ.2.2.length (σ.2.2.flatMap ndC), HA.blk b_1' (.cells (ndC d).toArray 63 (0, 0))]) ?_ (fun K0_54' hK_54' => ?_)
       ·rintro ⟨part_5', w_39', l_32'⟩ hj
        replace h := hJ_10' part_5' l_32' hj
        show WC _ _ _ _ [(0, w), (2, zP b), (4, zP b_1'), (7, zI m), (8, zI last), (9, zI whole_2'), (10, zI k_1'), (11, zI part_5')] [HA.blk b (.cells [w_39', zI out_1].toArray 32 (0, 0)), HA.row w_39' 63 261 l_32'.length (l_32'.flatMap ndC), HA.blk b_1' (.cells (ndC d).toArray 63 (0, 0))]
        refine a6 (fun _ hK_55' => ?_)
        refine a4 ?_
        refine wm ?_
        refine wv (OV.lss rfl rfl) ?_
        refine WL.nil ?_
        refine kg (hK_55' [(0, w), (2, zP b), (4, zP b_1'), (7, zI m), (8, zI last), (9, zI whole_2'), (10, zI k_1'), (11, zI part_5'), (59, zB (decide (whole_2' < 0)))] _ ?_)
        refine b6 (b := decide (whole_2' < 0)) rfl (fun hb => ?_) (fun hb => ?_)
        ·replace h := j4 h hb
         refine a4 ?_
         refine wm ?_
         refine wa ?_
         refine WL.nil ?_
         exact kh (hK_51' (part_5', w_39', l_32') h) [0, 1, 2]
        ·replace h := j5 h hb
         refine a4 ?_
         refine wm ?_
         refine wm ?_
         refine wm ?_
         obtain ⟨o_54', h⟩ := h
         refine WL.callS acj rfl (acl b w_39' l_32' out_1 2 whole_2' part_5' o_54') rfl trivial rfl rfl (fun r H' hS => ?_) (fun c H' hS => ?_)
         ·obtain ⟨w_40', ho⟩ := hS
          cases ho
          refine wa ?_
          refine WL.nil ?_
          exact kh (hK_51' ((l_32'.length : Int), w_40', l_32' ++ [(2, fun _ => false, whole_2', part_5', 0, 0)]) h) [0, 1, 2]
         ·obtain ⟨w_40', ho⟩ := hS
          cases ho
       ·skip
        refine a6 (fun _ hK_56' => ?_)
        refine a4 ?_
        refine wm ?_
        refine wm ?_
        refine wv (OV.lss rfl rfl) ?_
        refine WL.nil ?_
        refine kg (hK_56' [(0, w), (2, zP b), (4, zP b_1'), (7, zI m), (8, zI last), (9, zI whole_2'), (10, zI k_1'), (47, zB (decide (k_1' < m)))] _ ?_)
        refine b6 (b := decide (k_1' < m)) rfl (fun hb => ?_) (fun hb => ?_)
        ·replace h := j4 h hb
         refine a4 ?_
         refine wm ?_
         refine wv (OV.fieldAddr0 rfl x5) ?_
         refine wv (OV.load rfl (At.own 0 rfl) (adu _) b5) ?_
         refine wm ?_
         obtain ⟨o_55', h⟩ := h
         obtain ⟨o_56', h⟩ := h
         refine WL.pick (H' := [HA.blk b (.cells [w_29', zI out_1].toArray 32 (0, 0)), HA.row w_29' 63 261 l_23'.length (l_23'.flatMap ndC), HA.blk b_1' (.cells (ndC d).toArray 63 (0, 0))]) [1, 2, 0] rfl rfl ?_
         refine WL.callS1 ac4 rfl (fun R hR => o_55' R hR b w_29' l_23' out_1 o_56') rfl (LOk.inn hi1) trivial rfl rfl (fun r H' hS => ?_) (fun c H' hS => ?_)
         ·obtain ⟨w_41', l_33', r_23', hc, ho⟩ := hS
          cases ho
          replace h := h l_33' r_23' hc
          refine wa ?_
          refine WL.nil ?_
          exact kh (hK_54' (r_23', w_41', l_33') h) [0, 1, 2]
         ·obtain ⟨w_41', l_33', r_23', hc, ho⟩ := hS
          cases ho
        ·replace h := j5 h hb
         refine a4 ?_
         refine wm ?_
         refine wv (OV.fieldAddr0 rfl x5) ?_
         refine wv (OV.load rfl (At.own 0 rfl) (adu _) b5) ?_
         refine wm ?_
         obtain ⟨o_57', h⟩ := h
         obtain ⟨o_58', h⟩ := h
         refine WL.pick (H' := [HA.blk b (.cells [w_29', zI out_1].toArray 32 (0, 0)), HA.row w_29' 63 261 l_23'.length (l_23'.flatMap ndC), HA.blk b_1' (.cells (ndC d).toArray 63 (0, 0))]) [1, 2, 0] rfl rfl ?_
         refine WL.callS1 awb rfl (fun R hR => o_57' R hR b w_29' l_23' out_1 o_58') rfl (LOk.inn hi1) trivial rfl rfl (fun r H' hS => ?_) (fun c H' hS => ?_)
         ·obtain ⟨w_42', l_34', r_24', hc, ho⟩ := hS
          cases ho
          replace h := h l_34' r_24' hc
          refine wa ?_
          refine WL.nil ?_
          exact kh (hK_54' (r_24', w_42', l_34') h) [0, 1, 2]
         ·obtain ⟨w_42', l_34', r_24', hc, ho⟩ := hS
          cases ho
     ·replace h := j5 h hb
      refine s5 ?_
      refine kg (hK_15' [(0, w), (2, zP b), (4, zP b_1'), (9, zI whole_2')] _ ?_)
      obtain ⟨J0_11', hJ_11', h⟩ := h
      refine n5 (X := Int × Value × (List ND)) (fun σ => J0_11' σ.1 σ.2.2) (fun σ => [(9, zI σ.1)]) (fun σ => [HA.blk b (.cells [σ.2.1, zI out_1].toArray 32 (0, 0)), HA.row σ.2.1 63 261 σ.2.2.length (σ.2.2.flatMap ndC)]) ?_ (fun K0_58' hK_58' => ?_)
      ·rintro ⟨whole_4', w_46', l_36'⟩ hj
       replace h := hJ_11' whole_4' l_36' hj
       show WC _ _ _ _ [(9, zI whole_4')] [HA.blk b (.cells [w_46', zI out_1].toArray 32 (0, 0)), HA.row w_46' 63 261 l_36'.length (l_36'.flatMap ndC)]
       refine a6 (fun _ hK_59' => ?_)
       refine a4 ?_
       refine wm ?_
       refine wa ?_
       refine WL.nil ?_
       refine kg (hK_59' [(6, zI whole_4')] _ ?_)
       refine c9 ?_
       exact hE.ret [0, 1] rfl rfl (.inl ⟨_, _, _, _, h, rfl⟩) (f9.of1 rfl (RV.tmp rfl))
      ·skip
       refine a6 (fun _ hK_60' => ?_)
       refine a4 ?_
       refine wv (OV.fieldAddr0 rfl ab7) ?_
       refine wv (OV.load rfl (At.own 0 rfl) (ai3 _) b5) ?_
       refine wv (OV.lss rfl rfl) ?_
       refine WL.nil ?_
       refine kg (hK_60' [(0, w), (2, zP b), (4, zP b_1'), (9, zI whole_2'), (67, zB (decide (d.2.2.2.2.2 < 0)))] _ ?_)
       refine b6 (b := decide (d.2.2.2.2.2 < 0)) rfl (fun hb => ?_) (fun hb => ?_)
       ·replace h := j4 h hb
        refine a4 ?_
        refine wm ?_
        refine wm ?_
        refine wm ?_
        refine wm ?_
        refine wv (OV.fieldAddr0 rfl x5) ?_
        refine wv (OV.load rfl (At.own 0 rfl) (adu _) b5) ?_
        refine wm ?_
        obtain ⟨o_63', h⟩ := h
        obtain ⟨o_64', h⟩ := h
        refine WL.pick (H' := [HA.blk b (.cells [w_29', zI out_1].toArray 32 (0, 0)), HA.row w_29' 63 261 l_23'.length (l_23'.flatMap ndC), HA.blk b_1' (.cells (ndC d).toArray 63 (0, 0))]) [1, 2, 0] rfl rfl ?_
        refine WL.callS1 ac4 rfl (fun R hR => o_63' R hR b w_29' l_23' out_1 o_64') rfl (LOk.inn hi1) trivial rfl rfl (fun r H' hS => ?_) (fun c H' hS => ?_)
        ·obtain ⟨w_47', l_37', r_26', hc, ho⟩ := hS
         cases ho
         replace h := h l_37' r_26' hc
         obtain ⟨o_65', h⟩ := h
         refine WL.callS acj rfl (acl b w_47' l_37' out_1 4 r_26' 0 o_65') rfl trivial rfl rfl (fun r H' hS => ?_) (fun c H' hS => ?_)
         ·obtain ⟨w_48', ho⟩ := hS
          cases ho
          obtain ⟨o_66', h⟩ := h
          refine WL.callS acj rfl (acl b w_48' (l_37' ++ [(4, fun _ => false, r_26', 0, 0, 0)]) out_1 2 whole_2' (l_37'.length : Int) o_66') rfl trivial rfl rfl (fun r H' hS => ?_) (fun c H' hS => ?_)
          ·obtain ⟨w_49', ho⟩ := hS
           cases ho
           refine wa ?_
           refine WL.nil ?_
           exact kh (hK_58' (((l_37' ++ [(4, fun _ => false, r_26', 0, 0, 0)]).length : Int), w_49', (l_37' ++ [(4, fun _ => false, r_26', 0, 0, 0)]) ++ [(2, fun _ => false, whole_2', (l_37'.length : Int), 0, 0)]) h) [0, 1]
          ·obtain ⟨w_49', ho⟩ := hS
           cases ho
         ·obtain ⟨w_48', ho⟩ := hS
          cases ho
        ·obtain ⟨w_47', l_37', r_26', hc, ho⟩ := hS
         cases ho
       ·replace h := j5 h hb
        refine b7 ?_
        exact kh (hK_58' (whole_2', w_29', l_23') h) [1, 2]
    ·skip
     refine a6 (fun _ hK_61' => ?_)
     refine a4 ?_
     refine wm ?_
     refine wv (OV.lss rfl rfl) ?_
     refine WL.nil ?_
     refine kg (hK_61' [(0, w), (2, zP b), (4, zP b_1'), (7, zI m), (8, zI d.2.2.2.2.2), (38, zB (decide (d.2.2.2.2.2 < 0)))] _ ?_)
     refine b6 (b := decide (d.2.2.2.2.2 < 0)) rfl (fun hb => ?_) (fun hb => ?_)
     ·replace h := j4 h hb
      refine a4 ?_
      refine wm ?_
      refine wa ?_
      refine WL.nil ?_
      exact kh (hK_13' m h) [0, 1, 2]
     ·replace h := j5 h hb
      refine b7 ?_
      exact kh (hK_13' d.2.2.2.2.2 h) [0, 1, 2]
 ·skip
  refine a6 (fun _ hK_62' => ?_)
  refine a4 ?_
  refine wm ?_
  refine wv (OV.eql rfl rfl) ?_
  refine WL.nil ?_
  refine kg (hK_62' [(0, w), (2, zP b), (4, zP b_1'), (7, zI d.2.2.2.2.1), (15, zB (decide (d.2.2.2.2.1 = (-2))))] _ ?_)
  refine b6 (b := decide (d.2.2.2.2.1 = (-2))) rfl (fun hb => ?_) (fun hb => ?_)
  ·replace h := j4 h hb
   refine a4 ?_
   refine wa ?_
   refine WL.nil ?_
   exact kh (hK_3' 1 h) [0, 1, 2]
  ·replace h := j5 h hb
   refine b7 ?_
   exact kh (hK_3' d.2.2.2.2.1 h) [0, 1, 2]
def ant (w : Value) (n : List ND) (i : Int) (out_1 : Int) (outl : List ND) (K : Int → Int → (List ND) → Prop) : Prop :=
 (0 ≤ i ∧ i < (n.length : Int)) ∧
 ∃ (J0 : Bool → Prop),
  (∀ (t16 : Bool), J0 t16 →
   (if t16 = true then
    (((outl.length + 1) + (outl.length + 1) / 4 + 192) * 296 ≤ 281474976710656 ∧ outl.length + 1 ≤ 9223372036854775807) ∧
    (I64 (((outl ++ [(((n.getD (i).toNat default).1), ((n.getD (i).toNat default).2.1), 0, 0, 0, 0)]).length : Int) - 1)) ∧
    K (((outl ++ [(((n.getD (i).toNat default).1), ((n.getD (i).toNat default).2.1), 0, 0, 0, 0)]).length : Int) - 1) out_1 (outl ++ [(((n.getD (i).toNat default).1), ((n.getD (i).toNat default).2.1), 0, 0, 0, 0)])
   else
    (if (decide ((n.getD (i).toNat default).1 = 7)) = true then
     (amc w n (n.getD (i).toNat default)) ∧
     (avk n (n.getD (i).toNat default) outl) ∧
     (∀ (l : List ND) (r : Int), aja n (n.getD (i).toNat default) outl l r →
      K r out_1 l)
    else
     (aa6 w n ((n.getD (i).toNat default).2.2.1)) ∧
     (ajy n ((n.getD (i).toNat default).2.2.1) outl) ∧
     (∀ (l_1' : List ND) (r_1' : Int), ah2 n ((n.getD (i).toNat default).2.2.1) outl l_1' r_1' →
      (aa6 w n ((n.getD (i).toNat default).2.2.2.1)) ∧
      (ajy n ((n.getD (i).toNat default).2.2.2.1) l_1') ∧
      (∀ (l_2' : List ND) (r_2' : Int), ah2 n ((n.getD (i).toNat default).2.2.2.1) l_1' l_2' r_2' →
       (l_2'.length ≤ 100000000) ∧
       (
        K (l_2'.length : Int) out_1 (l_2' ++ [((n.getD (i).toNat default).1, fun _ => false, r_1', r_2', 0, 0)]))))))) ∧
  (if (decide ((n.getD (i).toNat default).1 = 0)) = true then
   J0 (decide ((n.getD (i).toNat default).1 = 0))
  else
   J0 (decide ((n.getD (i).toNat default).1 = 1)))
theorem ayw (w : Value) (b : Nat) (w_1' : Value) (n : List ND) (i : Int) (out_1 : Int) (outl : List ND) (Ri1 : List (Nat × Obj)) (hRi1 : aeb w Ri1 n.length (n.flatMap ndC)) (K : Int → Int → (List ND) → Prop) (h : ant w n i out_1 outl K) :
  d5 Tryd.prog 22 [w, zI i, zP b] (Ri1 ++ []) [HA.blk b (.cells [w_1', zI out_1].toArray 32 (0, 0)), HA.row w_1' 63 261 outl.length (outl.flatMap ndC)] (fun o => (∃ (v : Int) (d_1' : Int) (w_7' : Value) (d : List ND), K v d_1' d ∧ o = .ret (zI v) [HA.blk b (.cells [w_7', zI d_1'].toArray 32 (0, 0)), HA.row w_7' 63 261 d.length (d.flatMap ndC)]) ∨ (False)) := by
 unfold ant at h
 refine c8 (n := 61) (L0 := [(0, w), (1, zI i), (2, zP b)]) Tryd.func22 rfl rfl rfl rfl (fun w0 M Q hE => ?_)
 have hi1 : LIn ⟨61, [], w0, M, (Ri1 ++ [])⟩ w n.length (n.flatMap ndC) := LIn.mk hRi1 (fun p hp => by simp [hp])
 refine a6 (fun _ hK => ?_)
 refine a4 ?_
 refine wa ?_
 refine WL.nil ?_
 refine kg (hK [(0, w), (1, zI i), (2, zP b)] _ ?_)
 refine a6 (fun _ hK_1' => ?_)
 refine a4 ?_
 refine wm ?_
 refine wm ?_
 obtain ⟨o, h⟩ := h
 refine wv (OV.indexIn hi1 rfl rfl p9 o) ?_
 refine wv (OV.loadInE (f := ndC) hi1 rfl s6 (by decide) (by omega) aka) ?_
 refine WL.make (MV.alloc ace) rfl rfl rfl (fun b_1' => ?_)
 refine WL.storeW (vs := ndC (n.getD (i).toNat default)) 0 rfl rfl rfl rfl (s6 _) anq ((s6 _).trans (s6 _).symm) (afr (n.getD (i).toNat default)) rfl ?_
 refine WL.nil ?_
 refine kg (hK_1' [(0, w), (2, zP b), (7, zP b_1')] _ ?_)
 refine a6 (fun _ hK_2' => ?_)
 refine a6 (fun _ hK_3' => ?_)
 refine a4 ?_
 refine wv (OV.fieldAddr0 rfl aaq) ?_
 refine wv (OV.load rfl (At.own 0 rfl) (alz _) b5) ?_
 refine WL.nil ?_
 refine kg (hK_3' [(0, w), (2, zP b), (7, zP b_1'), (15, zI ((n.getD (i).toNat default).1))] _ ?_)
 refine d6 ?_
 obtain ⟨J0, hJ, h⟩ := h
 refine n5 (X := Bool) (fun σ => J0 σ) (fun σ => [(0, w), (2, zP b), (7, zP b_1'), (15, zI ((n.getD (i).toNat default).1)), (16, zB σ)]) (fun σ => [HA.blk b_1' (.cells (ndC (n.getD (i).toNat default)).toArray 63 (0, 0)), HA.blk b (.cells [w_1', zI out_1].toArray 32 (0, 0)), HA.row w_1' 63 261 outl.length (outl.flatMap ndC)]) ?_ (fun K0_5' hK_5' => ?_)
 ·rintro t16 hj
  replace h := hJ t16 hj
  show WC _ _ _ _ [(0, w), (2, zP b), (7, zP b_1'), (15, zI ((n.getD (i).toNat default).1)), (16, zB t16)] [HA.blk b_1' (.cells (ndC (n.getD (i).toNat default)).toArray 63 (0, 0)), HA.blk b (.cells [w_1', zI out_1].toArray 32 (0, 0)), HA.row w_1' 63 261 outl.length (outl.flatMap ndC)]
  refine b6 (b := t16) rfl (fun hb => ?_) (fun hb => ?_)
  ·replace h := j4 h hb
   refine a6 (fun _ hK_6' => ?_)
   refine x1 10 [0, 1] [HA.blk b_1' (.cells (ndC (n.getD (i).toNat default)).toArray 63 (0, 0)), HA.blk b (.cells [w_1', zI out_1].toArray 32 (0, 0))] rfl rfl g8 (by kernel_rfl) (fun T hT => ?_)
   refine TW.val (OV.move rfl) rfl rfl rfl ?_
   refine TW.val (OV.move rfl) rfl rfl rfl ?_
   refine TW.val (OV.nilCheck rfl) rfl rfl rfl ?_
   refine TW.val (OV.fieldAddr0 rfl x9) rfl rfl rfl ?_
   refine TW.val (OV.load rfl (At.own 1 rfl) rfl v8) rfl rfl rfl ?_
   refine TW.val (OV.fieldAddr0 rfl aaq) rfl rfl rfl ?_
   refine TW.val (OV.load rfl (At.own 0 rfl) (alz _) b5) rfl rfl rfl ?_
   refine TW.val (OV.fieldAddr0 rfl ah0) rfl rfl rfl ?_
   refine TW.val (OV.loadM (vs := arr 256 (fun j => zB (((n.getD (i).toNat default).2.1) j))) rfl (At.own 0 rfl) (a0g _) (by rw [d8]; exact x3)) rfl rfl rfl ?_
   refine TW.val (OV.build rfl (cs := ndC (((n.getD (i).toNat default).1), ((n.getD (i).toNat default).2.1), 0, 0, 0, 0)) (by kernel_rfl)) rfl rfl rfl ?_
   refine TW.nil (hT _ ?_)
   refine WLX.make (MV.buildSlice1 (cs := ndC (((n.getD (i).toNat default).1), ((n.getD (i).toNat default).2.1), 0, 0, 0, 0)) rfl rfl p9 ace (s6 _) (s6 _)) [1, 2] rfl (fun _ => rfl) rfl rfl rfl (fun b_2' => ?_)
   obtain ⟨o_1', h⟩ := h
   refine WLX.valX (ach (f := ndC) (ms := [(((n.getD (i).toNat default).1), ((n.getD (i).toNat default).2.1), 0, 0, 0, 0)]) 3 0 rfl rfl rfl rfl (agu _ _) rfl s6 (by decide) (afr (((n.getD (i).toNat default).1), ((n.getD (i).toNat default).2.1), 0, 0, 0, 0)) p9 aec rfl o_1') [1, 2] rfl (fun _ _ e => by cases e; rfl) rfl rfl rfl (fun w_2' _ e => ?_)
   cases e
   refine WLX.op [1, 2] rfl rfl (OpK.val (OV.nilCheck rfl) rfl rfl) rfl ?_
   refine WLX.op [1, 2] rfl rfl (OpK.val (OV.fieldAddr0 rfl x9) rfl rfl) rfl ?_
   refine WLX.opZ (OpK.storeSl (cs' := [w_2', zI out_1]) 2 3 rfl rfl rfl rfl ad8 (Nat.le_of_ble_eq_true rfl) rfl) rfl ?_
   refine WLX.nil ?_
   refine kg (hK_6' [(2, zP b)] _ ?_)
   refine a6 (fun _ hK_7' => ?_)
   refine a4 ?_
   refine wm ?_
   refine wv (OV.nilCheck rfl) ?_
   refine wv (OV.fieldAddr0 rfl x9) ?_
   refine wv (OV.load rfl (At.own 2 rfl) rfl v8) ?_
   refine wv (OV.lenRow 3 rfl rfl p9) ?_
   obtain ⟨o_2', h⟩ := h
   refine wv (OV.sub rfl rfl o_2') ?_
   refine wa ?_
   refine WL.nil ?_
   refine kg (hK_7' [(6, zI (((outl ++ [(((n.getD (i).toNat default).1), ((n.getD (i).toNat default).2.1), 0, 0, 0, 0)]).length : Int) - 1))] _ ?_)
   refine c9 ?_
   exact hE.ret [2, 3] rfl rfl (.inl ⟨_, _, _, _, h, rfl⟩) (f9.of1 rfl (RV.tmp rfl))
  ·replace h := j5 h hb
   refine a6 (fun _ hK_8' => ?_)
   refine a4 ?_
   refine wv (OV.eql rfl rfl) ?_
   refine wa ?_
   refine WL.nil ?_
   refine kg (hK_8' [(0, w), (2, zP b), (7, zP b_1'), (39, zB (decide ((n.getD (i).toNat default).1 = 7)))] _ ?_)
   refine b6 (b := decide ((n.getD (i).toNat default).1 = 7)) rfl (fun hb => ?_) (fun hb => ?_)
   ·replace h := j4 h hb
    refine a6 (fun _ hK_9' => ?_)
    refine a4 ?_
    refine wm ?_
    refine wv (OV.loadR rfl (At.own 0 rfl) (by rw [s6]; exact aka)) ?_
    refine wm ?_
    obtain ⟨o_3', h⟩ := h
    obtain ⟨o_4', h⟩ := h
    refine WL.pick (H' := [HA.blk b (.cells [w_1', zI out_1].toArray 32 (0, 0)), HA.row w_1' 63 261 outl.length (outl.flatMap ndC), HA.blk b_1' (.cells (ndC (n.getD (i).toNat default)).toArray 63 (0, 0))]) [1, 2, 0] rfl rfl ?_
    refine WL.callS1 awm rfl (fun R hR => o_3' R hR b w_1' outl out_1 o_4') rfl (LOk.inn hi1) trivial rfl rfl (fun r H' hS => ?_) (fun c H' hS => ?_)
    ·obtain ⟨w_3', l, r, hc, ho⟩ := hS
     cases ho
     replace h := h l r hc
     refine wa ?_
     refine WL.nil ?_
     refine kg (hK_9' [(6, zI r)] _ ?_)
     refine c9 ?_
     exact hE.ret [0, 1] rfl rfl (.inl ⟨_, _, _, _, h, rfl⟩) (f9.of1 rfl (RV.tmp rfl))
    ·obtain ⟨w_3', l, r, hc, ho⟩ := hS
     cases ho
   ·replace h := j5 h hb
    refine b7 ?_
    refine kg (hK_2' [(0, w), (2, zP b), (7, zP b_1')] _ ?_)
    refine a6 (fun _ hK_10' => ?_)
    refine a4 ?_
    refine wm ?_
    refine wv (OV.fieldAddr0 rfl x5) ?_
    refine wv (OV.load rfl (At.own 0 rfl) (adu _) b5) ?_
    refine wm ?_
    obtain ⟨o_5', h⟩ := h
    obtain ⟨o_6', h⟩ := h
    refine WL.pick (H' := [HA.blk b (.cells [w_1', zI out_1].toArray 32 (0, 0)), HA.row w_1' 63 261 outl.length (outl.flatMap ndC), HA.blk b_1' (.cells (ndC (n.getD (i).toNat default)).toArray 63 (0, 0))]) [1, 2, 0] rfl rfl ?_
    refine WL.callS1 ac4 rfl (fun R hR => o_5' R hR b w_1' outl out_1 o_6') rfl (LOk.inn hi1) trivial rfl rfl (fun r H' hS => ?_) (fun c H' hS => ?_)
    ·obtain ⟨w_4', l_1', r_1', hc, ho⟩ := hS
     cases ho
     replace h := h l_1' r_1' hc
     refine wa ?_
     refine WL.nil ?_
     refine kg (hK_10' [(0, w), (2, zP b), (7, zP b_1'), (8, zI r_1')] _ ?_)
     refine a6 (fun _ hK_11' => ?_)
     refine a4 ?_
     refine wm ?_
     refine wv (OV.fieldAddr0 rfl adc) ?_
     refine wv (OV.load rfl (At.own 2 rfl) (aly _) b5) ?_
     refine wm ?_
     obtain ⟨o_7', h⟩ := h
     obtain ⟨o_8', h⟩ := h
     refine WL.callS1 ac4 rfl (fun R hR => o_7' R hR b w_4' l_1' out_1 o_8') rfl (LOk.inn hi1) trivial rfl rfl (fun r H' hS => ?_) (fun c H' hS => ?_)
     ·obtain ⟨w_5', l_2', r_2', hc, ho⟩ := hS
      cases ho
      replace h := h l_2' r_2' hc
      refine wa ?_
      refine WL.nil ?_
      refine kg (hK_11' [(2, zP b), (7, zP b_1'), (8, zI r_1'), (9, zI r_2')] _ ?_)
      refine a6 (fun _ hK_12' => ?_)
      refine a4 ?_
      refine wm ?_
      refine wv (OV.fieldAddr0 rfl aaq) ?_
      refine wv (OV.load rfl (At.own 2 rfl) (alz _) b5) ?_
      refine wm ?_
      refine wm ?_
      obtain ⟨o_9', h⟩ := h
      refine WL.callS acj rfl (acl b w_5' l_2' out_1 ((n.getD (i).toNat default).1) r_1' r_2' o_9') rfl trivial rfl rfl (fun r H' hS => ?_) (fun c H' hS => ?_)
      ·obtain ⟨w_6', ho⟩ := hS
       cases ho
       refine wa ?_
       refine WL.nil ?_
       refine kg (hK_12' [(6, zI (l_2'.length : Int))] _ ?_)
       refine c9 ?_
       exact hE.ret [0, 1] rfl rfl (.inl ⟨_, _, _, _, h, rfl⟩) (f9.of1 rfl (RV.tmp rfl))
      ·obtain ⟨w_6', ho⟩ := hS
       cases ho
     ·obtain ⟨w_5', l_2', r_2', hc, ho⟩ := hS
      cases ho
    ·obtain ⟨w_4', l_1', r_1', hc, ho⟩ := hS
     cases ho
 ·skip
  refine a6 (fun _ hK_13' => ?_)
  refine a4 ?_
  refine wv (OV.eql rfl rfl) ?_
  refine wa ?_
  refine WL.nil ?_
  refine kg (hK_13' [(0, w), (2, zP b), (7, zP b_1'), (15, zI ((n.getD (i).toNat default).1)), (16, zB (decide ((n.getD (i).toNat default).1 = 0)))] _ ?_)
  refine b6 (b := decide ((n.getD (i).toNat default).1 = 0)) rfl (fun hb => ?_) (fun hb => ?_)
  ·replace h := j4 h hb
   refine b7 ?_
   exact kh (hK_5' (decide ((n.getD (i).toNat default).1 = 0)) h) [0, 1, 2]
  ·replace h := j5 h hb
   refine a4 ?_
   refine wv (OV.eql rfl rfl) ?_
   refine wa ?_
   refine WL.nil ?_
   exact kh (hK_5' (decide ((n.getD (i).toNat default).1 = 1)) h) [0, 1, 2]
theorem ab2.len {o l : List ND} {x : Tr} {r : Int} (h : ab2 o x l r) : l.length = o.length + x.size := by rw [h.1, List.length_append, abw]
theorem ab2.eps (o : List ND) : ab2 o .eps (o ++ [(0, fun _ => false, 0, 0, 0, 0)]) (o.length : Int) := ⟨rfl, by simp only [Tr.size]; omega⟩
theorem ab2.star {o l : List ND} {x : Tr} {r : Int} (h : ab2 o x l r) : ab2 o (.star x) (l ++ [(4, fun _ => false, r, 0, 0, 0)]) (l.length : Int) := by
 refine ⟨?_, by rw [h.len]; simp only [Tr.size]; omega⟩
 rw [h.2, h.1, t6, List.append_assoc]
theorem ab2.bin {op : Int} {o l m : List ND} {x y : Tr} {r q : Int} (ho : op = 2 ∨ op = 3 ∨ op = 5 ∨ op = 6) (h : ab2 o x l r) (h' : ab2 l y m q) : ab2 o (ag3 op x y) (m ++ [(op, fun _ => false, r, q, 0, 0)]) (m.length : Int) := by
 refine ⟨?_, by rw [h'.len, h.len, ahd]; omega⟩
 rw [apg op x y _ ho, h'.2, h'.1, h.len, h.2, h.1]
 simp only [List.append_assoc]
theorem azn {w : Value} {n : List ND} {i : Int} (hG : aa6 w n i) : avg w n i := by
 rintro R hR b wo o r ⟨hok, x, hx, hb⟩
 refine (a0t w b wo n i r o R hR (fun q r' l => r' = r ∧ a10 n i o l q) ?_).weak ?_
 ·unfold aqd
  refine ⟨hG, ⟨hok, x, hx, by omega⟩, ?_⟩
  rintro l q ⟨x', hx', hg⟩
  obtain rfl := hx.det hx'
  have hl := hg.len
  have h2 := hg.bin (op := 3) (by omega) (ab2.eps l)
  exact ⟨by omega, by simp; omega, rfl, x, hx, h2⟩
 ·rintro out (⟨q, r', w', l, ⟨rfl, hK⟩, rfl⟩ | h)
  ·exact ⟨w', l, q, hK, rfl⟩
  ·exact h.elim
def agm (x : Tr) (m : Int) (k : Nat) : Tr := if (k : Int) < m then x else .alt x .eps
def rowN (x : Tr) (m : Int) : Nat → Tr
 | 0 => agm x m 0
 | k + 1 => .cat (rowN x m k) (agm x m (k + 1))
theorem awx (x : Tr) (m : Int) {k j : Nat} (h : k ≤ j) : (rowN x m k).size ≤ (rowN x m j).size := by
 induction j with
 | zero => have : k = 0 := by omega
           subst this; exact Nat.le_refl _
 | succ j ih =>
  by_cases e : k = j + 1
  ·rw [e]; exact Nat.le_refl _
  ·have := ih (by omega); simp only [rowN, Tr.size]; omega
theorem asc (x : Tr) (m : Int) (h0 : 0 ≤ m) : ∀ k : Nat, rowN x m k = if (k : Int) < max m 1 then ado (if m = 0 then .alt x .eps else x) x k else ado (ado (if m = 0 then .alt x .eps else x) x (max m 1 - 1).toNat) (.alt x .eps) (k + 1 - max m 1).toNat
 | 0 => by
  rw [if_pos (by omega)]
  unfold rowN agm ado
  by_cases hm : m = 0
  ·rw [if_pos hm, if_neg (by omega)]
  ·rw [if_neg hm, if_pos (by omega)]
 | k + 1 => by
  rw [rowN, asc x m h0 k]
  unfold agm
  by_cases h1 : ((k + 1 : Nat) : Int) < max m 1
  ·rw [if_pos (show (k : Int) < max m 1 by omega), if_pos h1, if_pos (show ((k + 1 : Nat) : Int) < m by omega), ad5]
  ·rw [if_neg h1, if_neg (show ¬ ((k + 1 : Nat) : Int) < m by omega)]
   by_cases h2 : (k : Int) < max m 1
   ·rw [if_pos h2, show (((k + 1 : Nat) : Int) + 1 - max m 1).toNat = 0 + 1 by omega, ad5, ado, show (max m 1 - 1).toNat = k by omega]
   ·rw [if_neg h2, show (((k + 1 : Nat) : Int) + 1 - max m 1).toNat = ((k : Int) + 1 - max m 1).toNat + 1 by omega, ad5]
theorem ar6 {w : Value} {n : List ND} {d : ND} (hG : aa6 w n d.2.2.1) : amc w n d := by
 rintro R hR b wo o r ⟨hok, hrb, x, hx, hb⟩
 have hO := azn hG
 refine (atm w b wo n d r o R hR (fun q r' l => r' = r ∧ aja n d o l q) ?_).weak ?_
 ·generalize hm0 : d.2.2.2.2.1 = m0 at *
  generalize hk0 : d.2.2.2.2.2 = k0 at *
  unfold aiq
  rw [hm0, hk0]
  have hrb' := hrb
  unfold aiy at hrb'
  obtain ⟨m, hm⟩ : ∃ m : Int, m = if m0 = -2 then 1 else m0 := ⟨_, rfl⟩
  have hm1 : 0 ≤ m ∧ m ≤ 255 := by split at hm <;> omega
  have hT : ajz x m0 k0 = aal x m k0 := by
   unfold ajz
   by_cases c : m0 = -2
   ·rw [if_pos c] at hm ⊢; rw [hm, show k0 = -1 by omega]
   ·rw [if_neg c] at hm ⊢; rw [hm]
  rw [hT] at hb
  have hU : ∀ l q, ab2 o (aal x m k0) l q → aja n d o l q := fun l q h => ⟨x, hx, by rw [hm0, hk0, hT]; exact h⟩
  refine ⟨fun m' => m' = m, ?_, ?_⟩
  ·rintro m' rfl
   by_cases c1 : k0 < 0 ∧ m' = 0
   ·rw [if_pos (by simpa using c1)]
    have e : aal x m' k0 = .star x := by rw [aal, if_pos ⟨c1.2, c1.1⟩]
    rw [e] at hb hU
    simp only [Tr.size] at hb
    refine ⟨hG, ⟨hok, x, hx, by omega⟩, ?_⟩
    rintro l q ⟨x', hx', hg⟩
    obtain rfl := hx.det hx'
    exact ⟨by have := hg.len; omega, rfl, hU _ _ hg.star⟩
   rw [if_neg (by simpa using c1)]
   by_cases c2 : k0 = 0
   ·rw [if_pos (by simpa using c2)]
    have e : aal x m' k0 = .eps := by
     have h0 : m' = 0 := by split at hm <;> omega
     rw [aal, if_neg (by omega), if_pos ⟨h0, c2⟩]
    rw [e] at hU
    exact ⟨by omega, rfl, hU _ _ (ab2.eps o)⟩
   rw [if_neg (by simpa using c2)]
   obtain ⟨last, hlast⟩ : ∃ last : Int, last = if k0 < 0 then m' else k0 := ⟨_, rfl⟩
   have hl1 : 1 ≤ last ∧ last ≤ 255 ∧ (k0 < 0 ∨ m' ≤ last) := by
    split at hlast
    ·omega
    ·have : m' ≤ k0 := by split at hm <;> omega
     omega
   have hfin : aal x m' k0 = if k0 < 0 then .cat (rowN x m' (last - 1).toNat) (.star x) else rowN x m' (last - 1).toNat := by
    rw [aal, if_neg (fun h => c1 ⟨h.2, h.1⟩), if_neg (fun h => c2 h.2), asc x m' hm1.1]
    by_cases hn : k0 < 0
    ·rw [if_pos hn] at hlast
     rw [if_pos hn, if_pos hn, if_pos (show (((last - 1).toNat : Nat) : Int) < max m' 1 by omega), hlast]
    ·rw [if_neg hn] at hlast
     rw [if_neg hn, if_neg hn]
     by_cases hlm : ((last - 1).toNat : Int) < max m' 1
     ·rw [if_pos hlm, show (k0 - max m' 1).toNat = 0 by omega, ado, show (last - 1).toNat = (m' - 1).toNat by omega]
     ·rw [if_neg hlm, show (((last - 1).toNat : Int) + 1 - max m' 1).toNat = (k0 - max m' 1).toNat by omega, show (max m' 1 - 1).toNat = (m' - 1).toNat by omega]
   have hsz : ∀ k : Nat, (k : Int) < last → o.length + (rowN x m' k).size ≤ 10000 ∧ (k0 < 0 → o.length + (rowN x m' k).size + x.size + 2 ≤ 10000) := fun k hk => by
    have h1 := awx x m' (k := k) (j := (last - 1).toNat) (by omega)
    rw [hfin] at hb
    split at hb
    ·simp only [Tr.size] at hb; omega
    ·omega
   refine ⟨fun q => q = last, ?_, ?_⟩
   ·rintro q rfl
    refine ⟨fun whole k l => 0 ≤ k ∧ k ≤ q ∧ (k = 0 ∧ whole = -1 ∧ l = o ∨ 1 ≤ k ∧ 0 ≤ whole ∧ ab2 o (rowN x m' (k - 1).toNat) l whole), fun _ k _ => (300 - k).toNat, ⟨by omega, by omega, .inl ⟨rfl, rfl, rfl⟩⟩, ?_⟩
    rintro whole k l ⟨k1, k2, hI⟩
    by_cases hk : k < q
    ·rw [if_pos (by simpa using hk)]
     have hsk := hsz k.toNat (by omega)
     have hpart : l.length + (agm x m' k.toNat).size ≤ 10000 := by
      rcases hI with ⟨rfl, rfl, rfl⟩ | ⟨h1, h2, h3⟩
      ·exact hsk.1
      ·have := h3.len
       rw [show k.toNat = (k - 1).toNat + 1 by omega] at hsk ⊢
       simp only [rowN, Tr.size] at hsk; omega
     refine ⟨fun whole' l' => 0 ≤ whole' ∧ ab2 o (rowN x m' k.toNat) l' whole', ?_, fun part l' => ab2 l (agm x m' k.toNat) l' part, ?_, ?_⟩
     ·rintro whole' l' ⟨g0, g1⟩
      exact ⟨by unfold I64; omega, ⟨by omega, by omega, .inr ⟨by omega, g0, by rw [show (k + 1 - 1).toNat = k.toNat by omega]; exact g1⟩⟩, by show (300 - (k + 1)).toNat < (300 - k).toNat; omega⟩
     ·rintro part l' hg
      have hgl := hg.len
      rcases hI with ⟨rfl, rfl, rfl⟩ | ⟨h1, h2, h3⟩
      ·rw [if_pos (by simp)]
       refine ⟨?_, hg⟩
       have := (agm x m' (0 : Int).toNat).size_pos
       rw [hg.2]; omega
      ·rw [if_neg (by simp; omega)]
       refine ⟨by omega, by omega, ?_⟩
       have := h3.bin (op := 2) (.inl rfl) hg
       rw [show k.toNat = (k - 1).toNat + 1 by omega] at this ⊢
       exact this
     ·by_cases hkm : k < m'
      ·rw [if_pos (by simpa using hkm)]
       have hp : agm x m' k.toNat = x := by unfold agm; rw [if_pos (by omega)]
       rw [hp] at hpart
       refine ⟨hG, ⟨hok, x, hx, hpart⟩, ?_⟩
       rintro l' q' ⟨x', hx', hg⟩
       obtain rfl := hx.det hx'
       rw [hp]; exact hg
      ·rw [if_neg (by simpa using hkm)]
       have hp : agm x m' k.toNat = .alt x .eps := by unfold agm; rw [if_neg (by omega)]
       rw [hp] at hpart
       simp only [Tr.size] at hpart
       refine ⟨hO, ⟨hok, x, hx, by omega⟩, ?_⟩
       rintro l' q' ⟨x', hx', hg⟩
       obtain rfl := hx.det hx'
       rw [hp]; exact hg
    ·rw [if_neg (by simpa using hk)]
     have hkq : k = q := by omega
     rcases hI with ⟨h1, _⟩ | ⟨h1, h2, h3⟩
     ·omega
     rw [hkq] at h3
     have hl := h3.len
     have hs3 := hsz (q - 1).toNat (by omega)
     refine ⟨fun whole' l' => aja n d o l' whole', fun whole' l' hJ => ⟨rfl, hJ⟩, ?_⟩
     by_cases hn : k0 < 0
     ·rw [if_pos (by simpa using hn)]
      rw [if_pos hn] at hfin
      rw [hfin] at hU
      have hs4 := hs3.2 hn
      refine ⟨hG, ⟨hok, x, hx, by omega⟩, ?_⟩
      rintro l' q' ⟨x', hx', hg⟩
      obtain rfl := hx.det hx'
      have hgl := hg.len
      refine ⟨by omega, by simp; omega, ?_⟩
      exact hU _ _ (h3.bin (op := 2) (.inl rfl) hg.star)
     ·rw [if_neg (by simpa using hn)]
      rw [if_neg hn] at hfin
      rw [hfin] at hU
      exact hU _ _ h3
   ·by_cases hn : k0 < 0
    ·rw [if_pos (by simpa using hn)]; rw [hlast, if_pos hn]
    ·rw [if_neg (by simpa using hn)]; rw [hlast, if_neg hn]
  ·by_cases c : m0 = -2
   ·rw [if_pos (by simpa using c)]; rw [hm, if_pos c]
   ·rw [if_neg (by simpa using c)]; rw [hm, if_neg c]
 ·rintro out (⟨q, r', w', l, ⟨rfl, hK⟩, rfl⟩ | h)
  ·exact ⟨w', l, q, hK, rfl⟩
  ·exact h.elim
theorem as3 {f g : Nat → Bool} (h : ∀ j, j < 256 → f j = g j) : arr 256 (fun j => zB (f j)) = arr 256 (fun j => zB (g j)) := aw7 fun i hi => by rw [h i hi]
theorem awy {w : Value} {n : List ND} {i : Int} (hG : ∀ j, j < i → aa6 w n j) : aa6 w n i := by
 rintro R hR b wo o r ⟨hok, x, hx, hb⟩
 have hlt := hx.lt
 refine (ayw w b wo n i r o R hR (fun q r' l => r' = r ∧ ∃ l2 : List ND, l2.length = l.length ∧ l2.flatMap ndC = l.flatMap ndC ∧ ah2 n i o l2 q) ?_).weak ?_
 ·unfold ant
  have hpos := x.size_pos
  refine ⟨hlt, fun q => q = decide ((nd n i).1 = 0 ∨ (nd n i).1 = 1), ?_, ?_⟩
  ·rintro q rfl
   show (if decide ((nd n i).1 = 0 ∨ (nd n i).1 = 1) = true then _ else (if decide ((nd n i).1 = 7) = true then _ else _))
   by_cases h01 : (nd n i).1 = 0 ∨ (nd n i).1 = 1
   ·rw [if_pos (by simpa using h01)]
    have hl : (o ++ [((nd n i).1, (nd n i).2.1, 0, 0, 0, 0)]).length = o.length + 1 := by simp
    refine ⟨by omega, by show I64 (((o ++ [((nd n i).1, (nd n i).2.1, 0, 0, 0, 0)]).length : Int) - 1); rw [hl]; unfold I64; omega, rfl, o ++ t6 o.length x, ?_, ?_, x, hx, rfl, ?_⟩
    ·show _ = (o ++ [((nd n i).1, (nd n i).2.1, 0, 0, 0, 0)]).length
     rw [hl, List.length_append, abw]
     cases hx with
     | eps => rfl
     | cls => rfl
     | bin _ _ g2 g3 => omega
     | star _ _ g2 => omega
     | rep _ _ g2 => omega
    ·show _ = (o ++ [((nd n i).1, (nd n i).2.1, 0, 0, 0, 0)]).flatMap ndC
     rw [List.flatMap_append, List.flatMap_append]
     congr 1
     cases hx with
     | eps _ _ g2 g3 =>
      simp only [t6, List.flatMap_cons, List.flatMap_nil, List.append_nil, ndC]
      rw [g2, as3 (f := (nd n i).2.1) (g := fun _ => false) g3]
     | cls _ _ g2 g3 =>
      simp only [t6, List.flatMap_cons, List.flatMap_nil, List.append_nil, ndC]
      rw [g2, as3 g3]
     | bin _ _ g2 g3 => omega
     | star _ _ g2 => omega
     | rep _ _ g2 => omega
    ·show ((o ++ [((nd n i).1, (nd n i).2.1, 0, 0, 0, 0)]).length : Int) - 1 = _
     rw [hl]
     cases hx with
     | eps => rfl
     | cls => rfl
     | bin _ _ g2 g3 => omega
     | star _ _ g2 => omega
     | rep _ _ g2 => omega
   rw [if_neg (by simpa using h01)]
   by_cases h7 : (nd n i).1 = 7
   ·rw [if_pos (by simpa using h7)]
    cases hx with
    | eps _ _ g2 => omega
    | cls _ _ g2 => omega
    | bin _ _ g2 g3 => omega
    | star _ _ g2 => omega
    | rep g0 g1 g2 g3 g4 g5 =>
     refine ⟨ar6 (hG _ g3), ⟨hok, g4, _, g5, hb⟩, ?_⟩
     rintro l q ⟨x', hx', hg⟩
     obtain rfl := g5.det hx'
     exact ⟨rfl, l, rfl, rfl, _, .rep g0 g1 g2 g3 g4 g5, hg⟩
   ·rw [if_neg (by simpa using h7)]
    cases hx with
    | eps _ _ g2 => omega
    | cls _ _ g2 => omega
    | star _ _ g2 => exact absurd g2 (hok i hlt.1 hlt.2).1
    | rep _ _ g2 => omega
    | bin g0 g1 g2 g3 g4 g5 g6 g7 =>
     rw [ahd] at hb
     refine ⟨hG _ g4, ⟨hok, _, g6, by omega⟩, ?_⟩
     rintro l q ⟨x', hx', hg⟩
     obtain rfl := g6.det hx'
     have hgl := hg.len
     refine ⟨hG _ g5, ⟨hok, _, g7, by omega⟩, ?_⟩
     rintro l2 q2 ⟨y', hy', hg2⟩
     obtain rfl := g7.det hy'
     have hgl2 := hg2.len
     refine ⟨by omega, rfl, _, rfl, rfl, _, .bin g0 g1 g2 g3 g4 g5 g6 g7, ?_⟩
     show ab2 o _ (l2 ++ [((nd n i).1, fun _ => false, q, q2, 0, 0)]) _
     rw [g2]; exact hg.bin g3 hg2
  ·show (if decide ((nd n i).1 = 0) = true then decide ((nd n i).1 = 0) = decide ((nd n i).1 = 0 ∨ (nd n i).1 = 1) else decide ((nd n i).1 = 1) = decide ((nd n i).1 = 0 ∨ (nd n i).1 = 1))
   by_cases k0 : (nd n i).1 = 0 <;> by_cases k1 : (nd n i).1 = 1 <;> first | omega | simp [k0, k1]
 ·rintro out (⟨q, r', w', l, ⟨rfl, l2, e1, e2, hK⟩, rfl⟩ | h)
  ·exact ⟨w', l2, q, hK, by simp only [ndR]; rw [e1, e2]⟩
  ·exact h.elim
theorem ar2 (w : Value) (n : List ND) : ∀ (k : Nat) (i : Int), i < k → aa6 w n i
 | 0, i, h => by
  rintro R hR b wo o r ⟨hok, x, hx, hb⟩
  have := hx.lt; omega
 | k + 1, i, h => awy fun j hj => ar2 w n k j (by omega)
theorem ax6 (w : Value) (n : List ND) (i : Int) : aa6 w n i := ar2 w n (i + 1).toNat i (by omega)
end Go.Proofs.YtffhedoahdgniaaDoor
