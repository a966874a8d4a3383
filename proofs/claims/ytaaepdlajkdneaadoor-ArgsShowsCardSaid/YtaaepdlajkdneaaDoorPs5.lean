/-
  Merged: ArR, Open.
-/
import Derived.ChangeArms
import Derived.DataReads
import Derived.WideShapes
import Derived.Lib.SmallJoins
import Derived.Test.YtaaepdlajkdneaaDoorPs4
set_option maxRecDepth 100000
namespace Go.Proofs.YtaaepdlajkdneaaDoor
open Go Go.RowKit
theorem r9 : k8 Tryd.prog 31 0 = some 0 := by kernel_rfl
theorem aby : k8 Tryd.prog 31 1 = some 1 := by kernel_rfl
theorem ab4 : k8 Tryd.prog 31 2 = some 2 := by kernel_rfl
theorem ab1 : k8 Tryd.prog 31 3 = some 3 := by kernel_rfl
theorem aah : k8 Tryd.prog 31 4 = some 4 := by kernel_rfl
theorem acd : k8 Tryd.prog 31 5 = some 5 := by kernel_rfl
theorem aal : k8 Tryd.prog 31 6 = some 6 := by kernel_rfl
theorem aaq : k8 Tryd.prog 31 7 = some 7 := by kernel_rfl
theorem ab6 : k8 Tryd.prog 31 8 = some 8 := by kernel_rfl
theorem acb : k8 Tryd.prog 31 9 = some 9 := by kernel_rfl
theorem abj : k8 Tryd.prog 31 10 = some 10 := by kernel_rfl
theorem aix : p9 Tryd.prog 26 = true := by kernel_rfl
theorem aa3 : ad6 Tryd.prog 31 = some [st [], st [], st [], st [], st [], zI 0, zI 0, zI 0, zI 0, zI 0, st []] := by kernel_rfl
theorem p4 : t7 Tryd.prog 31 11 = true := by kernel_rfl
theorem m2 : RowT Tryd.prog 31 11 := ⟨by kernel_rfl, by kernel_rfl⟩
theorem afo : p9 Tryd.prog 16 = true := by kernel_rfl
theorem ae4 : p9 Tryd.prog 17 = true := by kernel_rfl
theorem ajn : p9 Tryd.prog 18 = true := by kernel_rfl
theorem m9 : ag6 Tryd.prog 9 = some ([st []], 1, 16) := by kernel_rfl
theorem akr : p9 Tryd.prog 8 = true := by kernel_rfl
theorem acv : p9 Tryd.prog 9 = true := by kernel_rfl
def af8 (name : List UInt8) (K : (List (List UInt8)) → Prop) : Prop :=
 ∃ (J0 : Bool → Prop),
  (∀ (t4 : Bool), J0 t4 →
   (if t4 = true then
    K [([76, 101, 110, 115] : List UInt8)]
   else
    ∃ (J0_1' : Bool → Prop),
     (∀ (t9 : Bool), J0_1' t9 →
      (if t9 = true then
       K [([76, 101, 110, 115] : List UInt8), ([83, 111, 117, 114, 99, 101] : List UInt8)]
      else
       (if (decide (name = ([99, 114, 101, 97, 116, 101] : List UInt8))) = true then
        K [([76, 101, 110, 115] : List UInt8), ([86, 105, 101, 119] : List UInt8)]
       else
        (if (decide (name = ([112, 117, 116] : List UInt8))) = true then
         K [([76, 101, 110, 115] : List UInt8), ([86, 105, 101, 119] : List UInt8), ([83, 111, 117, 114, 99, 101] : List UInt8)]
        else
         (if (decide (name = ([101, 100, 105, 116] : List UInt8))) = true then
          K [([76, 101, 110, 115] : List UInt8), ([83, 111, 117, 114, 99, 101] : List UInt8), ([65, 116] : List UInt8), ([68, 101, 108] : List UInt8), ([84, 101, 120, 116] : List UInt8)]
         else
          K ([] : List (List UInt8))))))) ∧
     (if (decide (name = ([103, 101, 116] : List UInt8))) = true then
      J0_1' (decide (name = ([103, 101, 116] : List UInt8)))
     else
      (if (decide (name = ([99, 97, 110, 111, 110] : List UInt8))) = true then
       J0_1' (decide (name = ([99, 97, 110, 111, 110] : List UInt8)))
      else
       (if (decide (name = ([119, 104, 101, 114, 101] : List UInt8))) = true then
        J0_1' (decide (name = ([119, 104, 101, 114, 101] : List UInt8)))
       else
        J0_1' (decide (name = ([115, 116, 114, 101, 97, 109] : List UInt8)))))))) ∧
  (if (decide (name = ([99, 104, 101, 99, 107] : List UInt8))) = true then
   J0 (decide (name = ([99, 104, 101, 99, 107] : List UInt8)))
  else
   (if (decide (name = ([99, 111, 100, 101] : List UInt8))) = true then
    J0 (decide (name = ([99, 111, 100, 101] : List UInt8)))
   else
    J0 (decide (name = ([119, 111, 114, 100, 115] : List UInt8)))))
theorem alp  (name : List UInt8) (K : (List (List UInt8)) → Prop) (h : af8 name K) :
  j8 Tryd.prog 16 [st name] [] [] (fun o => (∃ (w : Value) (v : List (List UInt8)), K v ∧ o = .ret (w) [HA.row w 9 1 v.length (v.flatMap j3)]) ∨ (False)) := by
 unfold af8 at h
 refine g9 (n := 24) (L0 := [(0, st name)]) Tryd.func16 rfl rfl rfl rfl (fun w0 M Q hE => ?_)
 refine a7 (fun _ hK => ?_)
 refine a6 ?_
 refine wA ?_
 refine WL.nilRow 9 1 j3 ?_
 refine WL.nil ?_
 refine kg (hK [(0, st name)] _ ?_)
 refine a7 (fun _ hK_1' => ?_)
 refine a7 (fun _ hK_2' => ?_)
 refine a6 ?_
 refine wm ?_
 refine WL.nil ?_
 refine kg (hK_2' [(3, st name)] _ ?_)
 refine f9 ?_
 obtain ⟨J0, hJ, h⟩ := h
 refine q6 (X := Bool) (fun σ => J0 σ) (fun σ => [(3, st name), (4, zB σ)]) (fun σ => []) ?_ (fun K0_5' hK_5' => ?_)
 ·rintro t4 hj
  replace h := hJ t4 hj
  show WC _ _ _ _ [(3, st name), (4, zB t4)] []
  refine b9 (b := t4) rfl (fun hb => ?_) (fun hb => ?_)
  ·replace h := j6 h hb
   refine a7 (fun _ hK_6' => ?_)
   refine a6 ?_
   refine WL.make (MV.buildSlice (cs := [st ([76, 101, 110, 115] : List UInt8)]) rfl f0 (by kernel_rfl)) rfl rfl rfl (fun b => ?_)
   refine WL.asRow (f := j3) (ms := [([76, 101, 110, 115] : List UInt8)]) 0 rfl rfl rfl i6 rfl ?_
   refine wA ?_
   refine WL.nil ?_
   refine kg (hK_6' [(2, Value.slice (some ⟨b, 0, none⟩) 1 1)] _ ?_)
   refine g7 ?_
   exact hE.ret [0] rfl rfl (.inl ⟨_, _, h, rfl⟩) (l7.of1 rfl (RV.tmp rfl))
  ·replace h := j5 h hb
   obtain ⟨J0_1', hJ_1', h⟩ := h
   refine q6 (X := Bool) (fun σ => J0_1' σ) (fun σ => [(3, st name), (9, zB σ)]) (fun σ => []) ?_ (fun K0_10' hK_10' => ?_)
   ·rintro t9 hj
    replace h := hJ_1' t9 hj
    show WC _ _ _ _ [(3, st name), (9, zB t9)] []
    refine b9 (b := t9) rfl (fun hb => ?_) (fun hb => ?_)
    ·replace h := j6 h hb
     refine a7 (fun _ hK_11' => ?_)
     refine a6 ?_
     refine WL.make (MV.buildSlice (cs := [st ([76, 101, 110, 115] : List UInt8), st ([83, 111, 117, 114, 99, 101] : List UInt8)]) rfl f0 (by kernel_rfl)) rfl rfl rfl (fun b_1' => ?_)
     refine WL.asRow (f := j3) (ms := [([76, 101, 110, 115] : List UInt8), ([83, 111, 117, 114, 99, 101] : List UInt8)]) 0 rfl rfl rfl i6 rfl ?_
     refine wA ?_
     refine WL.nil ?_
     refine kg (hK_11' [(2, Value.slice (some ⟨b_1', 0, none⟩) 2 2)] _ ?_)
     refine g7 ?_
     exact hE.ret [0] rfl rfl (.inl ⟨_, _, h, rfl⟩) (l7.of1 rfl (RV.tmp rfl))
    ·replace h := j5 h hb
     refine a7 (fun _ hK_12' => ?_)
     refine a6 ?_
     refine wv (OV.eqlS rfl rfl) ?_
     refine wA ?_
     refine WL.nil ?_
     refine kg (hK_12' [(3, st name), (15, zB (decide (name = ([99, 114, 101, 97, 116, 101] : List UInt8))))] _ ?_)
     refine b9 (b := decide (name = ([99, 114, 101, 97, 116, 101] : List UInt8))) rfl (fun hb => ?_) (fun hb => ?_)
     ·replace h := j6 h hb
      refine a7 (fun _ hK_13' => ?_)
      refine a6 ?_
      refine WL.make (MV.buildSlice (cs := [st ([76, 101, 110, 115] : List UInt8), st ([86, 105, 101, 119] : List UInt8)]) rfl f0 (by kernel_rfl)) rfl rfl rfl (fun b_2' => ?_)
      refine WL.asRow (f := j3) (ms := [([76, 101, 110, 115] : List UInt8), ([86, 105, 101, 119] : List UInt8)]) 0 rfl rfl rfl i6 rfl ?_
      refine wA ?_
      refine WL.nil ?_
      refine kg (hK_13' [(2, Value.slice (some ⟨b_2', 0, none⟩) 2 2)] _ ?_)
      refine g7 ?_
      exact hE.ret [0] rfl rfl (.inl ⟨_, _, h, rfl⟩) (l7.of1 rfl (RV.tmp rfl))
     ·replace h := j5 h hb
      refine a7 (fun _ hK_14' => ?_)
      refine a6 ?_
      refine wv (OV.eqlS rfl rfl) ?_
      refine wA ?_
      refine WL.nil ?_
      refine kg (hK_14' [(3, st name), (18, zB (decide (name = ([112, 117, 116] : List UInt8))))] _ ?_)
      refine b9 (b := decide (name = ([112, 117, 116] : List UInt8))) rfl (fun hb => ?_) (fun hb => ?_)
      ·replace h := j6 h hb
       refine a7 (fun _ hK_15' => ?_)
       refine a6 ?_
       refine WL.make (MV.buildSlice (cs := [st ([76, 101, 110, 115] : List UInt8), st ([86, 105, 101, 119] : List UInt8), st ([83, 111, 117, 114, 99, 101] : List UInt8)]) rfl f0 (by kernel_rfl)) rfl rfl rfl (fun b_3' => ?_)
       refine WL.asRow (f := j3) (ms := [([76, 101, 110, 115] : List UInt8), ([86, 105, 101, 119] : List UInt8), ([83, 111, 117, 114, 99, 101] : List UInt8)]) 0 rfl rfl rfl i6 rfl ?_
       refine wA ?_
       refine WL.nil ?_
       refine kg (hK_15' [(2, Value.slice (some ⟨b_3', 0, none⟩) 3 3)] _ ?_)
       refine g7 ?_
       exact hE.ret [0] rfl rfl (.inl ⟨_, _, h, rfl⟩) (l7.of1 rfl (RV.tmp rfl))
      ·replace h := j5 h hb
       refine a7 (fun _ hK_16' => ?_)
       refine a6 ?_
       refine wv (OV.eqlS rfl rfl) ?_
       refine wA ?_
       refine WL.nil ?_
       refine kg (hK_16' [(21, zB (decide (name = ([101, 100, 105, 116] : List UInt8))))] _ ?_)
       refine b9 (b := decide (name = ([101, 100, 105, 116] : List UInt8))) rfl (fun hb => ?_) (fun hb => ?_)
       ·replace h := j6 h hb
        refine a7 (fun _ hK_17' => ?_)
        refine a6 ?_
        refine WL.make (MV.buildSlice (cs := [st ([76, 101, 110, 115] : List UInt8), st ([83, 111, 117, 114, 99, 101] : List UInt8), st ([65, 116] : List UInt8), st ([68, 101, 108] : List UInt8), st ([84, 101, 120, 116] : List UInt8)]) rfl f0 (by kernel_rfl)) rfl rfl rfl (fun b_4' => ?_)
        refine WL.asRow (f := j3) (ms := [([76, 101, 110, 115] : List UInt8), ([83, 111, 117, 114, 99, 101] : List UInt8), ([65, 116] : List UInt8), ([68, 101, 108] : List UInt8), ([84, 101, 120, 116] : List UInt8)]) 0 rfl rfl rfl i6 rfl ?_
        refine wA ?_
        refine WL.nil ?_
        refine kg (hK_17' [(2, Value.slice (some ⟨b_4', 0, none⟩) 5 5)] _ ?_)
        refine g7 ?_
        exact hE.ret [0] rfl rfl (.inl ⟨_, _, h, rfl⟩) (l7.of1 rfl (RV.tmp rfl))
       ·replace h := j5 h hb
        refine b8 ?_
        refine KX.go (hK_1' [] _ ?_) trivial
        refine a7 (fun _ hK_18' => ?_)
        refine a6 ?_
        refine wA ?_
        refine WL.nilRow 9 1 j3 ?_
        refine WL.nil ?_
        refine kg (hK_18' [(2, Value.slice none 0 0)] _ ?_)
        refine g7 ?_
        exact hE.ret [0] rfl rfl (.inl ⟨_, _, h, rfl⟩) (l7.of1 rfl (RV.tmp rfl))
   ·skip
    refine a7 (fun _ hK_19' => ?_)
    refine a6 ?_
    refine wv (OV.eqlS rfl rfl) ?_
    refine wA ?_
    refine WL.nil ?_
    refine kg (hK_19' [(3, st name), (9, zB (decide (name = ([103, 101, 116] : List UInt8))))] _ ?_)
    refine b9 (b := decide (name = ([103, 101, 116] : List UInt8))) rfl (fun hb => ?_) (fun hb => ?_)
    ·replace h := j6 h hb
     refine b8 ?_
     exact kh (hK_10' (decide (name = ([103, 101, 116] : List UInt8))) h) []
    ·replace h := j5 h hb
     refine a7 (fun _ hK_20' => ?_)
     refine a6 ?_
     refine wv (OV.eqlS rfl rfl) ?_
     refine wA ?_
     refine WL.nil ?_
     refine kg (hK_20' [(3, st name), (9, zB (decide (name = ([99, 97, 110, 111, 110] : List UInt8))))] _ ?_)
     refine b9 (b := decide (name = ([99, 97, 110, 111, 110] : List UInt8))) rfl (fun hb => ?_) (fun hb => ?_)
     ·replace h := j6 h hb
      refine b8 ?_
      exact kh (hK_10' (decide (name = ([99, 97, 110, 111, 110] : List UInt8))) h) []
     ·replace h := j5 h hb
      refine a7 (fun _ hK_21' => ?_)
      refine a6 ?_
      refine wv (OV.eqlS rfl rfl) ?_
      refine wA ?_
      refine WL.nil ?_
      refine kg (hK_21' [(3, st name), (9, zB (decide (name = ([119, 104, 101, 114, 101] : List UInt8))))] _ ?_)
      refine b9 (b := decide (name = ([119, 104, 101, 114, 101] : List UInt8))) rfl (fun hb => ?_) (fun hb => ?_)
      ·replace h := j6 h hb
       refine b8 ?_
       exact kh (hK_10' (decide (name = ([119, 104, 101, 114, 101] : List UInt8))) h) []
      ·replace h := j5 h hb
       refine a6 ?_
       refine wv (OV.eqlS rfl rfl) ?_
       refine wA ?_
       refine WL.nil ?_
       exact kh (hK_10' (decide (name = ([115, 116, 114, 101, 97, 109] : List UInt8))) h) []
 ·skip
  refine a7 (fun _ hK_22' => ?_)
  refine a6 ?_
  refine wv (OV.eqlS rfl rfl) ?_
  refine wA ?_
  refine WL.nil ?_
  refine kg (hK_22' [(3, st name), (4, zB (decide (name = ([99, 104, 101, 99, 107] : List UInt8))))] _ ?_)
  refine b9 (b := decide (name = ([99, 104, 101, 99, 107] : List UInt8))) rfl (fun hb => ?_) (fun hb => ?_)
  ·replace h := j6 h hb
   refine b8 ?_
   exact kh (hK_5' (decide (name = ([99, 104, 101, 99, 107] : List UInt8))) h) []
  ·replace h := j5 h hb
   refine a7 (fun _ hK_23' => ?_)
   refine a6 ?_
   refine wv (OV.eqlS rfl rfl) ?_
   refine wA ?_
   refine WL.nil ?_
   refine kg (hK_23' [(3, st name), (4, zB (decide (name = ([99, 111, 100, 101] : List UInt8))))] _ ?_)
   refine b9 (b := decide (name = ([99, 111, 100, 101] : List UInt8))) rfl (fun hb => ?_) (fun hb => ?_)
   ·replace h := j6 h hb
    refine b8 ?_
    exact kh (hK_5' (decide (name = ([99, 111, 100, 101] : List UInt8))) h) []
   ·replace h := j5 h hb
    refine a6 ?_
    refine wv (OV.eqlS rfl rfl) ?_
    refine wA ?_
    refine WL.nil ?_
    exact kh (hK_5' (decide (name = ([119, 111, 114, 100, 115] : List UInt8))) h) []
def ahx (name : List UInt8) (letter : Int) (K : Bool → Prop) : Prop :=
 (if (decide (letter = 98)) = true then
  K true
 else
  (if (decide (letter = 110)) = true then
   K (decide (name = ([119, 111, 114, 100, 115] : List UInt8)))
  else
   (if (decide (letter = 99)) = true then
    K (decide (name = ([115, 116, 114, 101, 97, 109] : List UInt8)))
   else
    K (((((decide (name = ([103, 101, 116] : List UInt8))) || (decide (name = ([99, 97, 110, 111, 110] : List UInt8)))) || (decide (name = ([99, 114, 101, 97, 116, 101] : List UInt8)))) || (decide (name = ([112, 117, 116] : List UInt8)))) || (decide (name = ([101, 100, 105, 116] : List UInt8)))))))
theorem amt  (name : List UInt8) (letter : Int) (K : Bool → Prop) (h : ahx name letter K) :
  j8 Tryd.prog 18 [st name, zU letter] [] [] (fun o => (∃ (v : Bool), K v ∧ o = .ret (zB v) []) ∨ (False)) := by
 unfold ahx at h
 refine g9 (n := 34) (L0 := [(0, st name), (1, zU letter)]) Tryd.func18 rfl rfl rfl rfl (fun w0 M Q hE => ?_)
 refine a7 (fun _ hK => ?_)
 refine a6 ?_
 refine wA ?_
 refine WL.nil ?_
 refine kg (hK [(0, st name), (1, zU letter)] _ ?_)
 refine a7 (fun _ hK_1' => ?_)
 refine a7 (fun _ hK_2' => ?_)
 refine a6 ?_
 refine wm ?_
 refine WL.nil ?_
 refine kg (hK_2' [(0, st name), (5, zU letter)] _ ?_)
 refine f9 ?_
 refine a7 (fun _ hK_3' => ?_)
 refine a6 ?_
 refine wv (OV.eql rfl rfl) ?_
 refine wA ?_
 refine WL.nil ?_
 refine kg (hK_3' [(0, st name), (5, zU letter), (6, zB (decide (letter = 98)))] _ ?_)
 refine b9 (b := decide (letter = 98)) rfl (fun hb => ?_) (fun hb => ?_)
 ·replace h := j6 h hb
  refine a7 (fun _ hK_4' => ?_)
  refine a6 ?_
  refine wA ?_
  refine WL.nil ?_
  refine kg (hK_4' [(4, zB true)] _ ?_)
  refine g7 ?_
  exact hE.ret [] rfl rfl (.inl ⟨_, h, rfl⟩) (l7.of1 rfl (RV.tmp rfl))
 ·replace h := j5 h hb
  refine a7 (fun _ hK_5' => ?_)
  refine a6 ?_
  refine wv (OV.eql rfl rfl) ?_
  refine wA ?_
  refine WL.nil ?_
  refine kg (hK_5' [(0, st name), (5, zU letter), (8, zB (decide (letter = 110)))] _ ?_)
  refine b9 (b := decide (letter = 110)) rfl (fun hb => ?_) (fun hb => ?_)
  ·replace h := j6 h hb
   refine a7 (fun _ hK_6' => ?_)
   refine a6 ?_
   refine wm ?_
   refine wv (OV.eqlS rfl rfl) ?_
   refine wA ?_
   refine WL.nil ?_
   refine kg (hK_6' [(4, zB (decide (name = ([119, 111, 114, 100, 115] : List UInt8))))] _ ?_)
   refine g7 ?_
   exact hE.ret [] rfl rfl (.inl ⟨_, h, rfl⟩) (l7.of1 rfl (RV.tmp rfl))
  ·replace h := j5 h hb
   refine a7 (fun _ hK_7' => ?_)
   refine a6 ?_
   refine wv (OV.eql rfl rfl) ?_
   refine wA ?_
   refine WL.nil ?_
   refine kg (hK_7' [(0, st name), (12, zB (decide (letter = 99)))] _ ?_)
   refine b9 (b := decide (letter = 99)) rfl (fun hb => ?_) (fun hb => ?_)
   ·replace h := j6 h hb
    refine a7 (fun _ hK_8' => ?_)
    refine a6 ?_
    refine wm ?_
    refine wv (OV.eqlS rfl rfl) ?_
    refine wA ?_
    refine WL.nil ?_
    refine kg (hK_8' [(4, zB (decide (name = ([115, 116, 114, 101, 97, 109] : List UInt8))))] _ ?_)
    refine g7 ?_
    exact hE.ret [] rfl rfl (.inl ⟨_, h, rfl⟩) (l7.of1 rfl (RV.tmp rfl))
   ·replace h := j5 h hb
    refine b8 ?_
    refine kg (hK_1' [(0, st name)] _ ?_)
    refine a7 (fun _ hK_9' => ?_)
    refine a6 ?_
    refine wm ?_
    refine wv (OV.eqlS rfl rfl) ?_
    refine wm ?_
    refine WL.cut 3 [(0, st name), (21, zB ((decide (name = ([103, 101, 116] : List UInt8))) || (decide (name = ([99, 97, 110, 111, 110] : List UInt8)))))] ?_ (fun K0_10' hK_10' => ?_)
    rotate_left
    ·refine WL.split (decide (name = ([103, 101, 116] : List UInt8))) (fun hb => ?_) (fun hb => ?_)
     ·refine WL.set 18 rfl (congrArg zB hb) ?_
      refine wk ?_
      refine wk ?_
      refine wv (OV.pickT rfl rfl) ?_
      refine WL.set 21 rfl (oT (v := decide (name = ([99, 97, 110, 111, 110] : List UInt8))) hb) ?_
      exact WL.end_ (kg hK_10')
     ·refine WL.set 18 rfl (congrArg zB hb) ?_
      refine wm ?_
      refine wv (OV.eqlS rfl rfl) ?_
      refine wv (OV.pickF rfl rfl) ?_
      refine WL.set 21 rfl (oF (v := decide (name = ([99, 97, 110, 111, 110] : List UInt8))) hb) ?_
      exact WL.end_ (kg hK_10')
    refine wm ?_
    refine WL.cut 3 [(0, st name), (25, zB (((decide (name = ([103, 101, 116] : List UInt8))) || (decide (name = ([99, 97, 110, 111, 110] : List UInt8)))) || (decide (name = ([99, 114, 101, 97, 116, 101] : List UInt8)))))] ?_ (fun K0_11' hK_11' => ?_)
    rotate_left
    ·refine WL.split ((decide (name = ([103, 101, 116] : List UInt8))) || (decide (name = ([99, 97, 110, 111, 110] : List UInt8)))) (fun hb => ?_) (fun hb => ?_)
     ·refine WL.set 22 rfl (congrArg zB hb) ?_
      refine wk ?_
      refine wk ?_
      refine wv (OV.pickT rfl rfl) ?_
      refine WL.set 25 rfl (oT (v := decide (name = ([99, 114, 101, 97, 116, 101] : List UInt8))) hb) ?_
      exact WL.end_ (kg hK_11')
     ·refine WL.set 22 rfl (congrArg zB hb) ?_
      refine wm ?_
      refine wv (OV.eqlS rfl rfl) ?_
      refine wv (OV.pickF rfl rfl) ?_
      refine WL.set 25 rfl (oF (v := decide (name = ([99, 114, 101, 97, 116, 101] : List UInt8))) hb) ?_
      exact WL.end_ (kg hK_11')
    refine wm ?_
    refine WL.cut 3 [(0, st name), (29, zB ((((decide (name = ([103, 101, 116] : List UInt8))) || (decide (name = ([99, 97, 110, 111, 110] : List UInt8)))) || (decide (name = ([99, 114, 101, 97, 116, 101] : List UInt8)))) || (decide (name = ([112, 117, 116] : List UInt8)))))] ?_ (fun K0_12' hK_12' => ?_)
    rotate_left
    ·refine WL.split (((decide (name = ([103, 101, 116] : List UInt8))) || (decide (name = ([99, 97, 110, 111, 110] : List UInt8)))) || (decide (name = ([99, 114, 101, 97, 116, 101] : List UInt8)))) (fun hb => ?_) (fun hb => ?_)
     ·refine WL.set 26 rfl (congrArg zB hb) ?_
      refine wk ?_
      refine wk ?_
      refine wv (OV.pickT rfl rfl) ?_
      refine WL.set 29 rfl (oT (v := decide (name = ([112, 117, 116] : List UInt8))) hb) ?_
      exact WL.end_ (kg hK_12')
     ·refine WL.set 26 rfl (congrArg zB hb) ?_
      refine wm ?_
      refine wv (OV.eqlS rfl rfl) ?_
      refine wv (OV.pickF rfl rfl) ?_
      refine WL.set 29 rfl (oF (v := decide (name = ([112, 117, 116] : List UInt8))) hb) ?_
      exact WL.end_ (kg hK_12')
    refine wm ?_
    refine WL.cut 3 [(33, zB (((((decide (name = ([103, 101, 116] : List UInt8))) || (decide (name = ([99, 97, 110, 111, 110] : List UInt8)))) || (decide (name = ([99, 114, 101, 97, 116, 101] : List UInt8)))) || (decide (name = ([112, 117, 116] : List UInt8)))) || (decide (name = ([101, 100, 105, 116] : List UInt8)))))] ?_ (fun K0_13' hK_13' => ?_)
    rotate_left
    ·refine WL.split ((((decide (name = ([103, 101, 116] : List UInt8))) || (decide (name = ([99, 97, 110, 111, 110] : List UInt8)))) || (decide (name = ([99, 114, 101, 97, 116, 101] : List UInt8)))) || (decide (name = ([112, 117, 116] : List UInt8)))) (fun hb => ?_) (fun hb => ?_)
     ·refine WL.set 30 rfl (congrArg zB hb) ?_
      refine wk ?_
      refine wk ?_
      refine wv (OV.pickT rfl rfl) ?_
      refine WL.set 33 rfl (oT (v := decide (name = ([101, 100, 105, 116] : List UInt8))) hb) ?_
      exact WL.end_ (kg hK_13')
     ·refine WL.set 30 rfl (congrArg zB hb) ?_
      refine wm ?_
      refine wv (OV.eqlS rfl rfl) ?_
      refine wv (OV.pickF rfl rfl) ?_
      refine WL.set 33 rfl (oF (v := decide (name = ([101, 100, 105, 116] : List UInt8))) hb) ?_
      exact WL.end_ (kg hK_13')
    refine wA ?_
    refine WL.nil ?_
    refine kg (hK_9' [(4, zB (((((decide (name = ([103, 101, 116] : List UInt8))) || (decide (name = ([99, 97, 110, 111, 110] : List UInt8)))) || (decide (name = ([99, 114, 101, 97, 116, 101] : List UInt8)))) || (decide (name = ([112, 117, 116] : List UInt8)))) || (decide (name = ([101, 100, 105, 116] : List UInt8)))))] _ ?_)
    refine g7 ?_
    exact hE.ret [] rfl rfl (.inl ⟨_, h, rfl⟩) (l7.of1 rfl (RV.tmp rfl))
def aep (a : List (List UInt8)) (b : List (List UInt8)) (K : Bool → Prop) : Prop :=
 (if (!decide ((a.length : Int) = (b.length : Int))) = true then
  K false
 else
  ∃ (Inv : Int → Prop) (mu : Int → Nat),
   Inv 0 ∧ ∀ (i_1' : Int), Inv i_1' →
    (if (decide (i_1' < (a.length : Int))) = true then
     (0 ≤ i_1' ∧ i_1' < (a.length : Int)) ∧
     (0 ≤ i_1' ∧ i_1' < (b.length : Int)) ∧
     (if (!decide ((a.getD (i_1').toNat default) = (b.getD (i_1').toNat default))) = true then
      K false
     else
      (I64 (i_1' + 1)) ∧
      Inv (i_1' + 1) ∧ mu (i_1' + 1) < mu i_1')
    else
     K true))
theorem akn (w : Value) (w_1' : Value) (a : List (List UInt8)) (b : List (List UInt8)) (Ri1 : List (Nat × Obj)) (hRi1 : w8 w Ri1 a.length (a.flatMap j3)) (Ri2 : List (Nat × Obj)) (hRi2 : w8 w_1' Ri2 b.length (b.flatMap j3)) (K : Bool → Prop) (h : aep a b K) :
  j8 Tryd.prog 9 [w, w_1'] (Ri1 ++ (Ri2 ++ [])) [] (fun o => (∃ (v : Bool), K v ∧ o = .ret (zB v) []) ∨ (False)) := by
 unfold aep at h
 refine g9 (n := 26) (L0 := [(0, w), (1, w_1')]) Tryd.func9 rfl rfl rfl rfl (fun w0 M Q hE => ?_)
 have hi1 : LIn ⟨26, [], w0, M, (Ri1 ++ (Ri2 ++ []))⟩ w a.length (a.flatMap j3) := LIn.mk hRi1 (fun p hp => by simp [hp])
 have hi2 : LIn ⟨26, [], w0, M, (Ri1 ++ (Ri2 ++ []))⟩ w_1' b.length (b.flatMap j3) := LIn.mk hRi2 (fun p hp => by simp [hp])
 refine a7 (fun _ hK => ?_)
 refine a6 ?_
 refine wA ?_
 refine WL.nil ?_
 refine kg (hK [(0, w), (1, w_1')] _ ?_)
 refine a7 (fun _ hK_1' => ?_)
 refine a7 (fun _ hK_2' => ?_)
 refine a6 ?_
 refine wm ?_
 refine wv (OV.lenIn hi1 rfl f0) ?_
 refine wm ?_
 refine wv (OV.lenIn hi2 rfl f0) ?_
 refine wv (OV.neq rfl rfl) ?_
 refine WL.nil ?_
 refine kg (hK_2' [(0, w), (1, w_1'), (10, zB (!decide ((a.length : Int) = (b.length : Int))))] _ ?_)
 refine b9 (b := !decide ((a.length : Int) = (b.length : Int))) rfl (fun hb => ?_) (fun hb => ?_)
 ·replace h := j6 h hb
  refine a7 (fun _ hK_3' => ?_)
  refine a6 ?_
  refine wA ?_
  refine WL.nil ?_
  refine kg (hK_3' [(4, zB false)] _ ?_)
  refine g7 ?_
  exact hE.ret [] rfl rfl (.inl ⟨_, h, rfl⟩) (l7.of1 rfl (RV.tmp rfl))
 ·replace h := j5 h hb
  refine b8 ?_
  refine kg (hK_1' [(0, w), (1, w_1')] _ ?_)
  refine a7 (fun _ hK_4' => ?_)
  refine a7 (fun _ hK_5' => ?_)
  refine a6 ?_
  refine wA ?_
  refine WL.nil ?_
  refine kg (hK_5' [(0, w), (1, w_1'), (5, zI 0)] _ ?_)
  refine f9 ?_
  obtain ⟨Inv, mu, h0, hr⟩ := h
  refine x1 (S := Int) (fun σ => Inv σ) (fun σ => mu σ) (fun σ => [(0, w), (1, w_1'), (5, zI σ)]) (fun σ => []) 0 h0 ⟨rfl, rfl, rfl, trivial⟩ rfl ?_
  rintro i_1' hi K0_16' hK_16'
  have h := hr i_1' hi
  show WC _ _ _ _ [(0, w), (1, w_1'), (5, zI i_1')] []
  refine a7 (fun _ hK_17' => ?_)
  refine a7 (fun _ hK_18' => ?_)
  refine a6 ?_
  refine wm ?_
  refine wm ?_
  refine wv (OV.lenIn hi1 rfl f0) ?_
  refine wv (OV.lss rfl rfl) ?_
  refine WL.nil ?_
  refine kg (hK_18' [(0, w), (1, w_1'), (5, zI i_1'), (14, zB (decide (i_1' < (a.length : Int))))] _ ?_)
  refine b9 (b := decide (i_1' < (a.length : Int))) rfl (fun hb => ?_) (fun hb => ?_)
  ·replace h := j6 h hb
   refine b8 ?_
   refine kg (hK_17' [(0, w), (1, w_1'), (5, zI i_1')] _ ?_)
   refine a7 (fun _ hK_19' => ?_)
   refine f9 ?_
   refine a7 (fun _ hK_20' => ?_)
   refine w5 8 [] r5 (by kernel_rfl) rfl (fun T_2' hT_2' => ?_)
   refine fv (fun _ => OV.move rfl) ?_
   refine fv (fun _ => OV.move rfl) ?_
   obtain ⟨o_5', h⟩ := h
   refine fv (fun _ => OV.indexIn hi1 rfl rfl f0 o_5') ?_
   refine fv (fun _ => OV.loadInE1 (f := j3) hi1 rfl i6 (by omega) rfl f7) ?_
   refine fv (fun _ => OV.move rfl) ?_
   refine fv (fun _ => OV.move rfl) ?_
   obtain ⟨o_6', h⟩ := h
   refine fv (fun _ => OV.indexIn hi2 rfl rfl f0 o_6') ?_
   refine fv (fun _ => OV.loadInE1 (f := j3) hi2 rfl i6 (by omega) rfl f7) ?_
   refine FL.weak (L' := fun γ => [(0, w), (1, w_1'), (5, zI i_1'), (20, st (a.getD (i_1').toNat default)), (24, st (b.getD (i_1').toNat default))]) (fun γ => ⟨rfl, rfl, rfl, rfl, rfl, trivial⟩) (FL.nil (hT_2' (fun γ => [(0, w), (1, w_1'), (5, zI i_1'), (20, st (a.getD (i_1').toNat default)), (24, st (b.getD (i_1').toNat default))]) (fun γ => ?_)))
   refine wv (OV.neqS rfl rfl) ?_
   refine WL.nil ?_
   refine kg (hK_20' [(0, w), (1, w_1'), (5, zI i_1'), (25, zB (!decide ((a.getD (i_1').toNat default) = (b.getD (i_1').toNat default))))] _ ?_)
   refine b9 (b := !decide ((a.getD (i_1').toNat default) = (b.getD (i_1').toNat default))) rfl (fun hb => ?_) (fun hb => ?_)
   ·replace h := j6 h hb
    refine a7 (fun _ hK_21' => ?_)
    refine a6 ?_
    refine wA ?_
    refine WL.nil ?_
    refine kg (hK_21' [(4, zB false)] _ ?_)
    refine g7 ?_
    exact hE.ret [] rfl rfl (.inl ⟨_, h, rfl⟩) (l7.of1 rfl (RV.tmp rfl))
   ·replace h := j5 h hb
    refine b8 ?_
    refine kg (hK_19' [(0, w), (1, w_1'), (5, zI i_1')] _ ?_)
    refine a6 ?_
    refine wm ?_
    obtain ⟨o_7', h⟩ := h
    refine wv (OV.add rfl rfl o_7') ?_
    refine wA ?_
    refine WL.nil ?_
    exact kh (hK_16' (i_1' + 1) h.1 h.2) []
  ·replace h := j5 h hb
   refine s8 ?_
   refine KX.go (hK_4' [] _ ?_) trivial
   refine a7 (fun _ hK_22' => ?_)
   refine a6 ?_
   refine wA ?_
   refine WL.nil ?_
   refine kg (hK_22' [(4, zB true)] _ ?_)
   refine g7 ?_
   exact hE.ret [] rfl rfl (.inl ⟨_, h, rfl⟩) (l7.of1 rfl (RV.tmp rfl))
def ah9 (c_0 : List UInt8) (c_1 : List UInt8) (c_2 : List UInt8) (c_3 : List UInt8) (c_4 : List UInt8) (c_5 : Int) (c_6 : Int) (c_7 : Int) (c_8 : Int) (c_9 : Int) (c_10 : List UInt8) (field : List UInt8) (value : List UInt8) (K : Bool → (List UInt8) → (List UInt8) → (List UInt8) → (List UInt8) → (List UInt8) → Int → Int → Int → Int → Int → (List UInt8) → Prop) : Prop :=
 ∃ (J0 : (List UInt8) → (List UInt8) → (List UInt8) → (List UInt8) → Prop),
  (∀ (c_1_1' : List UInt8) (c_2_1' : List UInt8) (c_3_1' : List UInt8) (c_10_1' : List UInt8), J0 c_1_1' c_2_1' c_3_1' c_10_1' →
   K true c_0 c_1_1' c_2_1' c_3_1' c_4 c_5 c_6 c_7 c_8 c_9 c_10_1') ∧
  (if (decide (field = ([76, 101, 110, 115] : List UInt8))) = true then
   J0 value c_2 c_3 c_10
  else
   (if (decide (field = ([86, 105, 101, 119] : List UInt8))) = true then
    J0 c_1 value c_3 c_10
   else
    (if (decide (field = ([83, 111, 117, 114, 99, 101] : List UInt8))) = true then
     J0 c_1 c_2 value c_10
    else
     (if (decide (field = ([84, 101, 120, 116] : List UInt8))) = true then
      J0 c_1 c_2 c_3 value
     else
      (if (decide (field = ([65, 116] : List UInt8))) = true then
       K (decide (0 ≤ k7 value)) c_0 c_1 c_2 c_3 c_4 c_5 c_6 c_7 (k7 value) c_9 c_10
      else
       (if (decide (field = ([68, 101, 108] : List UInt8))) = true then
        K (decide (0 ≤ k7 value)) c_0 c_1 c_2 c_3 c_4 c_5 c_6 c_7 c_8 (k7 value) c_10
       else
        (if (decide (field = ([111] : List UInt8))) = true then
         K (!decide (value = [])) c_0 c_1 c_2 c_3 value c_5 c_6 c_7 c_8 c_9 c_10
        else
         (if (decide (field = ([98] : List UInt8))) = true then
          K ((decide (1 ≤ k7 value)) && (decide (k7 value ≤ 4096))) c_0 c_1 c_2 c_3 c_4 (k7 value) c_6 c_7 c_8 c_9 c_10
         else
          (if (decide (field = ([110] : List UInt8))) = true then
           K ((decide (0 ≤ k7 value)) && (decide (k7 value ≤ 100))) c_0 c_1 c_2 c_3 c_4 c_5 (k7 value) c_7 c_8 c_9 c_10
          else
           (if (decide (field = ([99] : List UInt8))) = true then
            K ((decide (1 ≤ k7 value)) && (decide (k7 value ≤ 16384))) c_0 c_1 c_2 c_3 c_4 c_5 c_6 (k7 value) c_8 c_9 c_10
           else
            J0 c_1 c_2 c_3 c_10))))))))))
theorem amv (b : Nat) (c_0 : List UInt8) (c_1 : List UInt8) (c_2 : List UInt8) (c_3 : List UInt8) (c_4 : List UInt8) (c_5 : Int) (c_6 : Int) (c_7 : Int) (c_8 : Int) (c_9 : Int) (c_10 : List UInt8) (field : List UInt8) (value : List UInt8) (K : Bool → (List UInt8) → (List UInt8) → (List UInt8) → (List UInt8) → (List UInt8) → Int → Int → Int → Int → Int → (List UInt8) → Prop) (h : ah9 c_0 c_1 c_2 c_3 c_4 c_5 c_6 c_7 c_8 c_9 c_10 field value K) :
  j8 Tryd.prog 17 [zP b, st field, st value] [] [HA.blk b (.cells [st c_0, st c_1, st c_2, st c_3, st c_4, zI c_5, zI c_6, zI c_7, zI c_8, zI c_9, st c_10].toArray 31 (0, 0))] (fun o => (∃ (v : Bool) (d_0 : List UInt8) (d_1 : List UInt8) (d_2 : List UInt8) (d_3 : List UInt8) (d_4 : List UInt8) (d_5 : Int) (d_6 : Int) (d_7 : Int) (d_8 : Int) (d_9 : Int) (d_10 : List UInt8), K v d_0 d_1 d_2 d_3 d_4 d_5 d_6 d_7 d_8 d_9 d_10 ∧ o = .ret (zB v) [HA.blk b (.cells [st d_0, st d_1, st d_2, st d_3, st d_4, zI d_5, zI d_6, zI d_7, zI d_8, zI d_9, st d_10].toArray 31 (0, 0))]) ∨ (False)) := by
 unfold ah9 at h
 refine g9 (n := 95) (L0 := [(0, zP b), (1, st field), (2, st value)]) Tryd.func17 rfl rfl rfl rfl (fun w0 M Q hE => ?_)
 refine a7 (fun _ hK => ?_)
 refine a6 ?_
 refine wA ?_
 refine WL.nil ?_
 refine kg (hK [(0, zP b), (1, st field), (2, st value)] _ ?_)
 refine a7 (fun _ hK_1' => ?_)
 refine a6 ?_
 refine wm ?_
 refine WL.call (A := []) aix rfl (afu value) rfl trivial rfl rfl ?_
 refine wA ?_
 refine WL.nil ?_
 refine kg (hK_1' [(0, zP b), (1, st field), (2, st value), (7, zI (k7 value))] _ ?_)
 obtain ⟨J0, hJ, h⟩ := h
 refine q6 (X := (List UInt8) × (List UInt8) × (List UInt8) × (List UInt8)) (fun σ => J0 σ.1 σ.2.1 σ.2.2.1 σ.2.2.2) (fun σ => []) (fun σ => [HA.blk b (.cells [st c_0, st σ.1, st σ.2.1, st σ.2.2.1, st c_4, zI c_5, zI c_6, zI c_7, zI c_8, zI c_9, st σ.2.2.2].toArray 31 (0, 0))]) ?_ (fun K0_28' hK_28' => ?_)
 ·rintro ⟨c_1_1', c_2_1', c_3_1', c_10_1'⟩ hj
  replace h := hJ c_1_1' c_2_1' c_3_1' c_10_1' hj
  show WC _ _ _ _ [] [HA.blk b (.cells [st c_0, st c_1_1', st c_2_1', st c_3_1', st c_4, zI c_5, zI c_6, zI c_7, zI c_8, zI c_9, st c_10_1'].toArray 31 (0, 0))]
  refine a7 (fun _ hK_29' => ?_)
  refine a6 ?_
  refine wA ?_
  refine WL.nil ?_
  refine kg (hK_29' [(6, zB true)] _ ?_)
  refine g7 ?_
  exact hE.ret [0] rfl rfl (.inl ⟨_, _, _, _, _, _, _, _, _, _, _, _, h, rfl⟩) (l7.of1 rfl (RV.tmp rfl))
 ·skip
  refine a7 (fun _ hK_30' => ?_)
  refine a6 ?_
  refine wm ?_
  refine WL.nil ?_
  refine kg (hK_30' [(0, zP b), (2, st value), (7, zI (k7 value)), (10, st field)] _ ?_)
  refine f9 ?_
  refine a7 (fun _ hK_31' => ?_)
  refine a6 ?_
  refine wv (OV.eqlS rfl rfl) ?_
  refine wA ?_
  refine WL.nil ?_
  refine kg (hK_31' [(0, zP b), (2, st value), (7, zI (k7 value)), (10, st field), (11, zB (decide (field = ([76, 101, 110, 115] : List UInt8))))] _ ?_)
  refine b9 (b := decide (field = ([76, 101, 110, 115] : List UInt8))) rfl (fun hb => ?_) (fun hb => ?_)
  ·replace h := j6 h hb
   refine a6 ?_
   refine wm ?_
   refine wm ?_
   refine wv (OV.nilCheck rfl) ?_
   refine wv (OV.fieldAddr0 rfl aby) ?_
   refine WL.store (vs := [st value]) (cs' := [st c_0, st value, st c_2, st c_3, st c_4, zI c_5, zI c_6, zI c_7, zI c_8, zI c_9, st c_10]) 0 rfl rfl rfl rfl r3 (Nat.le_of_ble_eq_true rfl) rfl rfl rfl ?_
   refine WL.nil ?_
   exact KX.goH (hK_28' (value, c_2, c_3, c_10) h) trivial [0] rfl rfl
  ·replace h := j5 h hb
   refine a7 (fun _ hK_32' => ?_)
   refine a6 ?_
   refine wv (OV.eqlS rfl rfl) ?_
   refine wA ?_
   refine WL.nil ?_
   refine kg (hK_32' [(0, zP b), (2, st value), (7, zI (k7 value)), (10, st field), (17, zB (decide (field = ([86, 105, 101, 119] : List UInt8))))] _ ?_)
   refine b9 (b := decide (field = ([86, 105, 101, 119] : List UInt8))) rfl (fun hb => ?_) (fun hb => ?_)
   ·replace h := j6 h hb
    refine a6 ?_
    refine wm ?_
    refine wm ?_
    refine wv (OV.nilCheck rfl) ?_
    refine wv (OV.fieldAddr0 rfl ab4) ?_
    refine WL.store (vs := [st value]) (cs' := [st c_0, st c_1, st value, st c_3, st c_4, zI c_5, zI c_6, zI c_7, zI c_8, zI c_9, st c_10]) 0 rfl rfl rfl rfl r3 (Nat.le_of_ble_eq_true rfl) rfl rfl rfl ?_
    refine WL.nil ?_
    exact KX.goH (hK_28' (c_1, value, c_3, c_10) h) trivial [0] rfl rfl
   ·replace h := j5 h hb
    refine a7 (fun _ hK_33' => ?_)
    refine a6 ?_
    refine wv (OV.eqlS rfl rfl) ?_
    refine wA ?_
    refine WL.nil ?_
    refine kg (hK_33' [(0, zP b), (2, st value), (7, zI (k7 value)), (10, st field), (23, zB (decide (field = ([83, 111, 117, 114, 99, 101] : List UInt8))))] _ ?_)
    refine b9 (b := decide (field = ([83, 111, 117, 114, 99, 101] : List UInt8))) rfl (fun hb => ?_) (fun hb => ?_)
    ·replace h := j6 h hb
     refine a6 ?_
     refine wm ?_
     refine wm ?_
     refine wv (OV.nilCheck rfl) ?_
     refine wv (OV.fieldAddr0 rfl ab1) ?_
     refine WL.store (vs := [st value]) (cs' := [st c_0, st c_1, st c_2, st value, st c_4, zI c_5, zI c_6, zI c_7, zI c_8, zI c_9, st c_10]) 0 rfl rfl rfl rfl r3 (Nat.le_of_ble_eq_true rfl) rfl rfl rfl ?_
     refine WL.nil ?_
     exact KX.goH (hK_28' (c_1, c_2, value, c_10) h) trivial [0] rfl rfl
    ·replace h := j5 h hb
     refine a7 (fun _ hK_34' => ?_)
     refine a6 ?_
     refine wv (OV.eqlS rfl rfl) ?_
     refine wA ?_
     refine WL.nil ?_
     refine kg (hK_34' [(0, zP b), (2, st value), (7, zI (k7 value)), (10, st field), (29, zB (decide (field = ([84, 101, 120, 116] : List UInt8))))] _ ?_)
     refine b9 (b := decide (field = ([84, 101, 120, 116] : List UInt8))) rfl (fun hb => ?_) (fun hb => ?_)
     ·replace h := j6 h hb
      refine a6 ?_
      refine wm ?_
      refine wm ?_
      refine wv (OV.nilCheck rfl) ?_
      refine wv (OV.fieldAddr0 rfl abj) ?_
      refine WL.store (vs := [st value]) (cs' := [st c_0, st c_1, st c_2, st c_3, st c_4, zI c_5, zI c_6, zI c_7, zI c_8, zI c_9, st value]) 0 rfl rfl rfl rfl r3 (Nat.le_of_ble_eq_true rfl) rfl rfl rfl ?_
      refine WL.nil ?_
      exact KX.goH (hK_28' (c_1, c_2, c_3, value) h) trivial [0] rfl rfl
     ·replace h := j5 h hb
      refine a7 (fun _ hK_35' => ?_)
      refine a6 ?_
      refine wv (OV.eqlS rfl rfl) ?_
      refine wA ?_
      refine WL.nil ?_
      refine kg (hK_35' [(0, zP b), (2, st value), (7, zI (k7 value)), (10, st field), (35, zB (decide (field = ([65, 116] : List UInt8))))] _ ?_)
      refine b9 (b := decide (field = ([65, 116] : List UInt8))) rfl (fun hb => ?_) (fun hb => ?_)
      ·replace h := j6 h hb
       refine a7 (fun _ hK_36' => ?_)
       refine a6 ?_
       refine wm ?_
       refine wm ?_
       refine wv (OV.nilCheck rfl) ?_
       refine wv (OV.fieldAddr0 rfl ab6) ?_
       refine WL.store (vs := [zI (k7 value)]) (cs' := [st c_0, st c_1, st c_2, st c_3, st c_4, zI c_5, zI c_6, zI c_7, zI (k7 value), zI c_9, st c_10]) 0 rfl rfl rfl rfl m8 (Nat.le_of_ble_eq_true rfl) rfl rfl rfl ?_
       refine WL.nil ?_
       refine kg (hK_36' [(7, zI (k7 value))] _ ?_)
       refine a7 (fun _ hK_37' => ?_)
       refine a6 ?_
       refine wm ?_
       refine wv (OV.geq rfl rfl) ?_
       refine wA ?_
       refine WL.nil ?_
       refine kg (hK_37' [(6, zB (decide (0 ≤ k7 value)))] _ ?_)
       refine g7 ?_
       exact hE.ret [0] rfl rfl (.inl ⟨_, _, _, _, _, _, _, _, _, _, _, _, h, rfl⟩) (l7.of1 rfl (RV.tmp rfl))
      ·replace h := j5 h hb
       refine a7 (fun _ hK_38' => ?_)
       refine a6 ?_
       refine wv (OV.eqlS rfl rfl) ?_
       refine wA ?_
       refine WL.nil ?_
       refine kg (hK_38' [(0, zP b), (2, st value), (7, zI (k7 value)), (10, st field), (43, zB (decide (field = ([68, 101, 108] : List UInt8))))] _ ?_)
       refine b9 (b := decide (field = ([68, 101, 108] : List UInt8))) rfl (fun hb => ?_) (fun hb => ?_)
       ·replace h := j6 h hb
        refine a7 (fun _ hK_39' => ?_)
        refine a6 ?_
        refine wm ?_
        refine wm ?_
        refine wv (OV.nilCheck rfl) ?_
        refine wv (OV.fieldAddr0 rfl acb) ?_
        refine WL.store (vs := [zI (k7 value)]) (cs' := [st c_0, st c_1, st c_2, st c_3, st c_4, zI c_5, zI c_6, zI c_7, zI c_8, zI (k7 value), st c_10]) 0 rfl rfl rfl rfl m8 (Nat.le_of_ble_eq_true rfl) rfl rfl rfl ?_
        refine WL.nil ?_
        refine kg (hK_39' [(7, zI (k7 value))] _ ?_)
        refine a7 (fun _ hK_40' => ?_)
        refine a6 ?_
        refine wm ?_
        refine wv (OV.geq rfl rfl) ?_
        refine wA ?_
        refine WL.nil ?_
        refine kg (hK_40' [(6, zB (decide (0 ≤ k7 value)))] _ ?_)
        refine g7 ?_
        exact hE.ret [0] rfl rfl (.inl ⟨_, _, _, _, _, _, _, _, _, _, _, _, h, rfl⟩) (l7.of1 rfl (RV.tmp rfl))
       ·replace h := j5 h hb
        refine a7 (fun _ hK_41' => ?_)
        refine a6 ?_
        refine wv (OV.eqlS rfl rfl) ?_
        refine wA ?_
        refine WL.nil ?_
        refine kg (hK_41' [(0, zP b), (2, st value), (7, zI (k7 value)), (10, st field), (51, zB (decide (field = ([111] : List UInt8))))] _ ?_)
        refine b9 (b := decide (field = ([111] : List UInt8))) rfl (fun hb => ?_) (fun hb => ?_)
        ·replace h := j6 h hb
         refine a7 (fun _ hK_42' => ?_)
         refine a6 ?_
         refine wm ?_
         refine wm ?_
         refine wv (OV.nilCheck rfl) ?_
         refine wv (OV.fieldAddr0 rfl aah) ?_
         refine WL.store (vs := [st value]) (cs' := [st c_0, st c_1, st c_2, st c_3, st value, zI c_5, zI c_6, zI c_7, zI c_8, zI c_9, st c_10]) 0 rfl rfl rfl rfl r3 (Nat.le_of_ble_eq_true rfl) rfl rfl rfl ?_
         refine WL.nil ?_
         refine kg (hK_42' [(2, st value)] _ ?_)
         refine a7 (fun _ hK_43' => ?_)
         refine a6 ?_
         refine wm ?_
         refine wv (OV.neqS rfl rfl) ?_
         refine wA ?_
         refine WL.nil ?_
         refine kg (hK_43' [(6, zB (!decide (value = [])))] _ ?_)
         refine g7 ?_
         exact hE.ret [0] rfl rfl (.inl ⟨_, _, _, _, _, _, _, _, _, _, _, _, h, rfl⟩) (l7.of1 rfl (RV.tmp rfl))
        ·replace h := j5 h hb
         refine a7 (fun _ hK_44' => ?_)
         refine a6 ?_
         refine wv (OV.eqlS rfl rfl) ?_
         refine wA ?_
         refine WL.nil ?_
         refine kg (hK_44' [(0, zP b), (7, zI (k7 value)), (10, st field), (59, zB (decide (field = ([98] : List UInt8))))] _ ?_)
         refine b9 (b := decide (field = ([98] : List UInt8))) rfl (fun hb => ?_) (fun hb => ?_)
         ·replace h := j6 h hb
          refine a7 (fun _ hK_45' => ?_)
          refine a6 ?_
          refine wm ?_
          refine wm ?_
          refine wv (OV.nilCheck rfl) ?_
          refine wv (OV.fieldAddr0 rfl acd) ?_
          refine WL.store (vs := [zI (k7 value)]) (cs' := [st c_0, st c_1, st c_2, st c_3, st c_4, zI (k7 value), zI c_6, zI c_7, zI c_8, zI c_9, st c_10]) 0 rfl rfl rfl rfl m8 (Nat.le_of_ble_eq_true rfl) rfl rfl rfl ?_
          refine WL.nil ?_
          refine kg (hK_45' [(7, zI (k7 value))] _ ?_)
          refine a7 (fun _ hK_46' => ?_)
          refine a6 ?_
          refine wm ?_
          refine wv (OV.geq rfl rfl) ?_
          refine wm ?_
          refine WL.cut 3 [(70, zB ((decide (1 ≤ k7 value)) && (decide (k7 value ≤ 4096))))] ?_ (fun K0_47' hK_47' => ?_)
          rotate_left
          ·refine WL.split (decide (1 ≤ k7 value)) (fun hb => ?_) (fun hb => ?_)
           ·refine WL.set 67 rfl (congrArg zB hb) ?_
            refine wm ?_
            refine wv (OV.leq rfl rfl) ?_
            refine wv (OV.pickT rfl rfl) ?_
            refine WL.set 70 rfl (bT (v := decide (k7 value ≤ 4096)) hb) ?_
            exact WL.end_ (kg hK_47')
           ·refine WL.set 67 rfl (congrArg zB hb) ?_
            refine wk ?_
            refine wk ?_
            refine wv (OV.pickF rfl rfl) ?_
            refine WL.set 70 rfl (bF (v := decide (k7 value ≤ 4096)) hb) ?_
            exact WL.end_ (kg hK_47')
          refine wA ?_
          refine WL.nil ?_
          refine kg (hK_46' [(6, zB ((decide (1 ≤ k7 value)) && (decide (k7 value ≤ 4096))))] _ ?_)
          refine g7 ?_
          exact hE.ret [0] rfl rfl (.inl ⟨_, _, _, _, _, _, _, _, _, _, _, _, h, rfl⟩) (l7.of1 rfl (RV.tmp rfl))
         ·replace h := j5 h hb
          refine a7 (fun _ hK_48' => ?_)
          refine a6 ?_
          refine wv (OV.eqlS rfl rfl) ?_
          refine wA ?_
          refine WL.nil ?_
          refine kg (hK_48' [(0, zP b), (7, zI (k7 value)), (10, st field), (71, zB (decide (field = ([110] : List UInt8))))] _ ?_)
          refine b9 (b := decide (field = ([110] : List UInt8))) rfl (fun hb => ?_) (fun hb => ?_)
          ·replace h := j6 h hb
           refine a7 (fun _ hK_49' => ?_)
           refine a6 ?_
           refine wm ?_
           refine wm ?_
           refine wv (OV.nilCheck rfl) ?_
           refine wv (OV.fieldAddr0 rfl aal) ?_
           refine WL.store (vs := [zI (k7 value)]) (cs' := [st c_0, st c_1, st c_2, st c_3, st c_4, zI c_5, zI (k7 value), zI c_7, zI c_8, zI c_9, st c_10]) 0 rfl rfl rfl rfl m8 (Nat.le_of_ble_eq_true rfl) rfl rfl rfl ?_
           refine WL.nil ?_
           refine kg (hK_49' [(7, zI (k7 value))] _ ?_)
           refine a7 (fun _ hK_50' => ?_)
           refine a6 ?_
           refine wm ?_
           refine wv (OV.geq rfl rfl) ?_
           refine wm ?_
           refine WL.cut 3 [(82, zB ((decide (0 ≤ k7 value)) && (decide (k7 value ≤ 100))))] ?_ (fun K0_51' hK_51' => ?_)
           rotate_left
           ·refine WL.split (decide (0 ≤ k7 value)) (fun hb => ?_) (fun hb => ?_)
            ·refine WL.set 79 rfl (congrArg zB hb) ?_
             refine wm ?_
             refine wv (OV.leq rfl rfl) ?_
             refine wv (OV.pickT rfl rfl) ?_
             refine WL.set 82 rfl (bT (v := decide (k7 value ≤ 100)) hb) ?_
             exact WL.end_ (kg hK_51')
            ·refine WL.set 79 rfl (congrArg zB hb) ?_
             refine wk ?_
             refine wk ?_
             refine wv (OV.pickF rfl rfl) ?_
             refine WL.set 82 rfl (bF (v := decide (k7 value ≤ 100)) hb) ?_
             exact WL.end_ (kg hK_51')
           refine wA ?_
           refine WL.nil ?_
           refine kg (hK_50' [(6, zB ((decide (0 ≤ k7 value)) && (decide (k7 value ≤ 100))))] _ ?_)
           refine g7 ?_
           exact hE.ret [0] rfl rfl (.inl ⟨_, _, _, _, _, _, _, _, _, _, _, _, h, rfl⟩) (l7.of1 rfl (RV.tmp rfl))
          ·replace h := j5 h hb
           refine a7 (fun _ hK_52' => ?_)
           refine a6 ?_
           refine wv (OV.eqlS rfl rfl) ?_
           refine wA ?_
           refine WL.nil ?_
           refine kg (hK_52' [(0, zP b), (7, zI (k7 value)), (83, zB (decide (field = ([99] : List UInt8))))] _ ?_)
           refine b9 (b := decide (field = ([99] : List UInt8))) rfl (fun hb => ?_) (fun hb => ?_)
           ·replace h := j6 h hb
            refine a7 (fun _ hK_53' => ?_)
            refine a6 ?_
            refine wm ?_
            refine wm ?_
            refine wv (OV.nilCheck rfl) ?_
            refine wv (OV.fieldAddr0 rfl aaq) ?_
            refine WL.store (vs := [zI (k7 value)]) (cs' := [st c_0, st c_1, st c_2, st c_3, st c_4, zI c_5, zI c_6, zI (k7 value), zI c_8, zI c_9, st c_10]) 0 rfl rfl rfl rfl m8 (Nat.le_of_ble_eq_true rfl) rfl rfl rfl ?_
            refine WL.nil ?_
            refine kg (hK_53' [(7, zI (k7 value))] _ ?_)
            refine a7 (fun _ hK_54' => ?_)
            refine a6 ?_
            refine wm ?_
            refine wv (OV.geq rfl rfl) ?_
            refine wm ?_
            refine WL.cut 3 [(94, zB ((decide (1 ≤ k7 value)) && (decide (k7 value ≤ 16384))))] ?_ (fun K0_55' hK_55' => ?_)
            rotate_left
            ·refine WL.split (decide (1 ≤ k7 value)) (fun hb => ?_) (fun hb => ?_)
             ·refine WL.set 91 rfl (congrArg zB hb) ?_
              refine wm ?_
              refine wv (OV.leq rfl rfl) ?_
              refine wv (OV.pickT rfl rfl) ?_
              refine WL.set 94 rfl (bT (v := decide (k7 value ≤ 16384)) hb) ?_
              exact WL.end_ (kg hK_55')
             ·refine WL.set 91 rfl (congrArg zB hb) ?_
              refine wk ?_
              refine wk ?_
              refine wv (OV.pickF rfl rfl) ?_
              refine WL.set 94 rfl (bF (v := decide (k7 value ≤ 16384)) hb) ?_
              exact WL.end_ (kg hK_55')
            refine wA ?_
            refine WL.nil ?_
            refine kg (hK_54' [(6, zB ((decide (1 ≤ k7 value)) && (decide (k7 value ≤ 16384))))] _ ?_)
            refine g7 ?_
            exact hE.ret [0] rfl rfl (.inl ⟨_, _, _, _, _, _, _, _, _, _, _, _, h, rfl⟩) (l7.of1 rfl (RV.tmp rfl))
           ·replace h := j5 h hb
            refine b8 ?_
            exact KX.goH (hK_28' (c_1, c_2, c_3, c_10) h) trivial [0] rfl rfl
abbrev abe : Bs := [76, 101, 110, 115]
abbrev adh : Bs := [86, 105, 101, 119]
abbrev y4 : Bs := [83, 111, 117, 114, 99, 101]
abbrev fAt : Bs := [65, 116]
abbrev alr : Bs := [68, 101, 108]
abbrev ad5 : Bs := [84, 101, 120, 116]
def m1 (nm : Bs) : List Bs :=
 if nm = [99, 104, 101, 99, 107] ∨ nm = [99, 111, 100, 101] ∨ nm = [119, 111, 114, 100, 115] then [abe] else if nm = [103, 101, 116] ∨ nm = [99, 97, 110, 111, 110] ∨ nm = [119, 104, 101, 114, 101] ∨ nm = [115, 116, 114, 101, 97, 109] then [abe, y4] else if nm = [99, 114, 101, 97, 116, 101] then [abe, adh] else if nm = [112, 117, 116] then [abe, adh, y4] else if nm = [101, 100, 105, 116] then [abe, y4, fAt, alr, ad5] else []
theorem afn (nm : Bs) : j8 Tryd.prog 16 [st nm] [] [] (fun o => ∃ w : Value, o = .ret w [HA.row w 9 1 (m1 nm).length ((m1 nm).flatMap j3)]) := by
 refine (alp nm (fun l => l = m1 nm) ?_).weak (by rintro o (⟨w, d, rfl, rfl⟩ | h) <;> first | exact ⟨w, rfl⟩ | exact h.elim)
 unfold af8 m1
 refine ⟨fun t => t = decide (nm = [99, 104, 101, 99, 107] ∨ nm = [99, 111, 100, 101] ∨ nm = [119, 111, 114, 100, 115]), fun t ht => ?_, ?_⟩
 ·subst ht
  by_cases h : nm = [99, 104, 101, 99, 107] ∨ nm = [99, 111, 100, 101] ∨ nm = [119, 111, 114, 100, 115]
  ·rw [if_pos (decide_eq_true h), if_pos h]
  ·rw [if_neg (by rw [decide_eq_true_eq]; exact h), if_neg h]
   refine ⟨fun t => t = decide (nm = [103, 101, 116] ∨ nm = [99, 97, 110, 111, 110] ∨ nm = [119, 104, 101, 114, 101] ∨ nm = [115, 116, 114, 101, 97, 109]), fun t ht => ?_, ?_⟩
   ·subst ht
    by_cases h2 : nm = [103, 101, 116] ∨ nm = [99, 97, 110, 111, 110] ∨ nm = [119, 104, 101, 114, 101] ∨ nm = [115, 116, 114, 101, 97, 109]
    ·rw [if_pos (decide_eq_true h2), if_pos h2]
    ·rw [if_neg (by rw [decide_eq_true_eq]; exact h2), if_neg h2]
     by_cases h3 : nm = [99, 114, 101, 97, 116, 101]
     ·rw [if_pos (decide_eq_true h3), if_pos h3]
     rw [if_neg (by rw [decide_eq_true_eq]; exact h3), if_neg h3]
     by_cases h4 : nm = [112, 117, 116]
     ·rw [if_pos (decide_eq_true h4), if_pos h4]
     rw [if_neg (by rw [decide_eq_true_eq]; exact h4), if_neg h4]
     by_cases h5 : nm = [101, 100, 105, 116]
     ·rw [if_pos (decide_eq_true h5), if_pos h5]
     rw [if_neg (by rw [decide_eq_true_eq]; exact h5), if_neg h5]
   ·clear h
    by_cases g1 : nm = [103, 101, 116]
    ·rw [if_pos (decide_eq_true g1), decide_eq_true g1]; exact (decide_eq_true (.inl g1)).symm
    rw [if_neg (by rw [decide_eq_true_eq]; exact g1)]
    by_cases g2 : nm = [99, 97, 110, 111, 110]
    ·rw [if_pos (decide_eq_true g2), decide_eq_true g2]; exact (decide_eq_true (.inr (.inl g2))).symm
    rw [if_neg (by rw [decide_eq_true_eq]; exact g2)]
    by_cases g3 : nm = [119, 104, 101, 114, 101]
    ·rw [if_pos (decide_eq_true g3), decide_eq_true g3]; exact (decide_eq_true (.inr (.inr (.inl g3)))).symm
    rw [if_neg (by rw [decide_eq_true_eq]; exact g3)]
    simp only [g1, g2, g3, false_or]
 ·by_cases g1 : nm = [99, 104, 101, 99, 107]
  ·rw [if_pos (decide_eq_true g1), decide_eq_true g1]; exact (decide_eq_true (.inl g1)).symm
  rw [if_neg (by rw [decide_eq_true_eq]; exact g1)]
  by_cases g2 : nm = [99, 111, 100, 101]
  ·rw [if_pos (decide_eq_true g2), decide_eq_true g2]; exact (decide_eq_true (.inr (.inl g2))).symm
  rw [if_neg (by rw [decide_eq_true_eq]; exact g2)]
  simp only [g1, g2, false_or]
def ag4 (nm : Bs) (l : Int) : Bool := if l = 98 then true else if l = 110 then decide (nm = [119, 111, 114, 100, 115]) else if l = 99 then decide (nm = [115, 116, 114, 101, 97, 109]) else ((((decide (nm = [103, 101, 116]) || decide (nm = [99, 97, 110, 111, 110])) || decide (nm = [99, 114, 101, 97, 116, 101])) || decide (nm = [112, 117, 116])) || decide (nm = [101, 100, 105, 116]))
theorem akl (nm : Bs) (l : Int) (_h : 0 ≤ l ∧ l < 256) : j8 Tryd.prog 18 [st nm, .int .u8 l] [] [] (Ret (.bool (ag4 nm l)) []) := by
 refine j8.one (e := fun v => .bool v) (amt nm l (fun v => v = ag4 nm l) ?_)
 unfold ahx ag4
 simp only [decide_eq_true_eq]
 (repeat' split) <;> rfl
theorem aa7 (v : Value) (a : List Bs) (w : Value) (b : List Bs) (hb : AvB a ∧ AvB b) (R : List (Nat × Obj)) (hR : w8 v R a.length (a.flatMap j3)) (R2 : List (Nat × Obj)) (hR2 : w8 w R2 b.length (b.flatMap j3)) :
  j8 Tryd.prog 9 [v, w] (R ++ (R2 ++ [])) [] (Ret (.bool (decide (a = b))) []) := by
 refine j8.one (e := fun v => .bool v) (akn v w a b R hR R2 hR2 (fun v => v = decide (a = b)) ?_)
 have h1 := hb.1.1
 unfold aep
 by_cases hl : a.length = b.length
 ·rw [if_neg (by simp [hl])]
  refine ⟨fun i => 0 ≤ i ∧ i ≤ a.length ∧ ∀ j : Nat, (j : Int) < i → a.getD j default = b.getD j default, fun i => (a.length - i).toNat, ⟨by omega, by omega, fun j hj => by omega⟩, fun i ⟨i0, i1, i2⟩ => ?_⟩
  by_cases hi : i < a.length
  ·rw [if_pos (by simpa using hi)]
   refine ⟨⟨by omega, by omega⟩, ⟨by omega, by omega⟩, ?_⟩
   by_cases he : a.getD i.toNat default = b.getD i.toNat default
   ·rw [if_neg (by simp only [he, decide_true]; decide)]
    refine ⟨by unfold I64; omega, ⟨by omega, by omega, fun j hj => ?_⟩, by dsimp only; omega⟩
    by_cases hji : (j : Int) < i
    ·exact i2 j hji
    ·obtain rfl : j = i.toNat := by omega
     exact he
   ·rw [if_pos (by rw [Bool.not_eq_true', decide_eq_false_iff_not]; exact he)]
    exact (decide_eq_false (fun h => he (by rw [h]))).symm
  ·rw [if_neg (by simpa using hi)]
   refine (decide_eq_true (List.ext_getElem hl fun j hj hj2 => ?_)).symm
   have := i2 j (by omega)
   rwa [List.getD_eq_getElem?_getD, List.getD_eq_getElem?_getD, List.getElem?_eq_getElem hj, List.getElem?_eq_getElem hj2] at this
 ·rw [if_pos (by rw [Bool.not_eq_true', decide_eq_false_iff_not]; omega)]
  exact (decide_eq_false (fun h => hl (by rw [h]))).symm
def af7 (f v : Bs) : CmT → Bool × CmT
 | (c0, c1, c2, c3, c4, c5, c6, c7, c8, c9, c10) =>
  if f = abe then (true, (c0, v, c2, c3, c4, c5, c6, c7, c8, c9, c10))
  else if f = adh then (true, (c0, c1, v, c3, c4, c5, c6, c7, c8, c9, c10))
  else if f = y4 then (true, (c0, c1, c2, v, c4, c5, c6, c7, c8, c9, c10))
  else if f = ad5 then (true, (c0, c1, c2, c3, c4, c5, c6, c7, c8, c9, v))
  else if f = fAt then (decide (0 ≤ k7 v), (c0, c1, c2, c3, c4, c5, c6, c7, k7 v, c9, c10))
  else if f = alr then (decide (0 ≤ k7 v), (c0, c1, c2, c3, c4, c5, c6, c7, c8, k7 v, c10))
  else if f = [111] then (!decide (v = []), (c0, c1, c2, c3, v, c5, c6, c7, c8, c9, c10))
  else if f = [98] then ((decide (1 ≤ k7 v)) && (decide (k7 v ≤ 4096)), (c0, c1, c2, c3, c4, k7 v, c6, c7, c8, c9, c10))
  else if f = [110] then ((decide (0 ≤ k7 v)) && (decide (k7 v ≤ 100)), (c0, c1, c2, c3, c4, c5, k7 v, c7, c8, c9, c10))
  else if f = [99] then ((decide (1 ≤ k7 v)) && (decide (k7 v ≤ 16384)), (c0, c1, c2, c3, c4, c5, c6, k7 v, c8, c9, c10))
  else (true, (c0, c1, c2, c3, c4, c5, c6, c7, c8, c9, c10))
def amo (f v : Bs) (c : CmT) (ok : Bool) (c2 : CmT) : Prop := af7 f v c = (ok, c2)
abbrev cmL (c : CmT) : List Value := [st c.1, st c.2.1, st c.2.2.1, st c.2.2.2.1, st c.2.2.2.2.1, .int .i64 c.2.2.2.2.2.1, .int .i64 c.2.2.2.2.2.2.1, .int .i64 c.2.2.2.2.2.2.2.1, .int .i64 c.2.2.2.2.2.2.2.2.1, .int .i64 c.2.2.2.2.2.2.2.2.2.1, st c.2.2.2.2.2.2.2.2.2.2]
theorem agn (b : Nat) (f v : Bs) (c : CmT) : j8 Tryd.prog 17 [.pointer (some ⟨b, 0, none⟩), st f, st v] [] [.blk b (.cells (cmL c).toArray 31 (0, 0))]
  (fun o => ∃ ok c2, amo f v c ok c2 ∧ o = .ret (.bool ok) [.blk b (.cells (cmL c2).toArray 31 (0, 0))]) := by
 obtain ⟨c0, c1, c2, c3, c4, c5, c6, c7, c8, c9, c10⟩ := c
 refine (amv b c0 c1 c2 c3 c4 c5 c6 c7 c8 c9 c10 f v (fun ok d0 d1 d2 d3 d4 d5 d6 d7 d8 d9 d10 => af7 f v (c0, c1, c2, c3, c4, c5, c6, c7, c8, c9, c10) = (ok, (d0, d1, d2, d3, d4, d5, d6, d7, d8, d9, d10))) ?_).weak ?_
 ·unfold ah9
  refine ⟨fun d1 d2 d3 d10 => af7 f v (c0, c1, c2, c3, c4, c5, c6, c7, c8, c9, c10) = (true, (c0, d1, d2, d3, c4, c5, c6, c7, c8, c9, d10)), fun d1 d2 d3 d10 h => h, ?_⟩
  simp only [decide_eq_true_eq]
  by_cases e1 : f = abe
  ·subst e1; rfl
  rw [if_neg e1]
  by_cases e2 : f = adh
  ·subst e2; rfl
  rw [if_neg e2]
  by_cases e3 : f = y4
  ·subst e3; rfl
  rw [if_neg e3]
  by_cases e4 : f = ad5
  ·subst e4; rfl
  rw [if_neg e4]
  by_cases e5 : f = fAt
  ·subst e5; rfl
  rw [if_neg e5]
  by_cases e6 : f = alr
  ·subst e6; rfl
  rw [if_neg e6]
  by_cases e7 : f = [111]
  ·subst e7; rfl
  rw [if_neg e7]
  by_cases e8 : f = [98]
  ·subst e8; rfl
  rw [if_neg e8]
  by_cases e9 : f = [110]
  ·subst e9; rfl
  rw [if_neg e9]
  by_cases e10 : f = [99]
  ·subst e10; rfl
  rw [if_neg e10]
  simp only [af7, if_neg e1, if_neg e2, if_neg e3, if_neg e4, if_neg e5, if_neg e6, if_neg e7, if_neg e8, if_neg e9, if_neg e10]
 ·rintro o (⟨ok, d0, d1, d2, d3, d4, d5, d6, d7, d8, d9, d10, h, rfl⟩ | h)
  ·exact ⟨ok, _, h, rfl⟩
  ·cases h
def adb (argv : List (List UInt8)) (K : (List UInt8) → (List UInt8) → (List UInt8) → (List UInt8) → (List UInt8) → Int → Int → Int → Int → Int → (List UInt8) → Bool → Int → (List UInt8) → Prop) : Prop :=
 (if (decide ((argv.length : Int) = 0)) = true then
  K [] [] [] [] [] 0 0 0 0 0 [] true 0 ([110, 111, 32, 99, 111, 109, 109, 97, 110, 100] : List UInt8)
 else
  (0 ≤ (0 : Int) ∧ (0 : Int) < (argv.length : Int)) ∧
  (
   (if (decide (((m1 (argv.getD ((0 : Int)).toNat default)).length : Int) = 0)) = true then
    K [] [] [] [] [] 0 0 0 0 0 [] true 0 ([117, 110, 107, 110, 111, 119, 110, 32, 99, 111, 109, 109, 97, 110, 100] : List UInt8)
   else
    (0 ≤ (0 : Int) ∧ (0 : Int) < (argv.length : Int)) ∧
    ∃ (J0 : Int → Prop),
     (∀ (c_6 : Int), J0 c_6 →
      ∃ (J0_1' : Int → Prop),
       (∀ (c_7 : Int), J0_1' c_7 →
        ∃ (Inv_2' : Nat → (List UInt8) → Bool → Int → (List UInt8) → (List UInt8) → (List UInt8) → (List UInt8) → (List UInt8) → Int → Int → Int → Int → Int → (List UInt8) → Prop) (mu_2' : Nat → (List UInt8) → Bool → Int → (List UInt8) → (List UInt8) → (List UInt8) → (List UInt8) → (List UInt8) → Int → Int → Int → Int → Int → (List UInt8) → Nat),
         Inv_2' 0 [] false 1 (argv.getD ((0 : Int)).toNat default) [] [] [] [] 1024 c_6 c_7 0 0 [] ∧ ∀ (want_1' : Nat) (seen_1' : List UInt8) (plain_1' : Bool) (i_3' : Int) (c_0_1' : List UInt8) (c_1_1' : List UInt8) (c_2_1' : List UInt8) (c_3_1' : List UInt8) (c_4_1' : List UInt8) (c_5_1' : Int) (c_6_2' : Int) (c_7_2' : Int) (c_8_1' : Int) (c_9_1' : Int) (c_10_1' : List UInt8), Inv_2' want_1' seen_1' plain_1' i_3' c_0_1' c_1_1' c_2_1' c_3_1' c_4_1' c_5_1' c_6_2' c_7_2' c_8_1' c_9_1' c_10_1' →
          (if (decide (i_3' < (argv.length : Int))) = true then
           (0 ≤ i_3' ∧ i_3' < (argv.length : Int)) ∧
           (if ((!plain_1') && (decide ((argv.getD (i_3').toNat default) = ([45, 45] : List UInt8)))) = true then
            (I64 (i_3' + 1)) ∧
            Inv_2' want_1' seen_1' true (i_3' + 1) c_0_1' c_1_1' c_2_1' c_3_1' c_4_1' c_5_1' c_6_2' c_7_2' c_8_1' c_9_1' c_10_1' ∧ mu_2' want_1' seen_1' true (i_3' + 1) c_0_1' c_1_1' c_2_1' c_3_1' c_4_1' c_5_1' c_6_2' c_7_2' c_8_1' c_9_1' c_10_1' < mu_2' want_1' seen_1' plain_1' i_3' c_0_1' c_1_1' c_2_1' c_3_1' c_4_1' c_5_1' c_6_2' c_7_2' c_8_1' c_9_1' c_10_1'
           else
            ((plain_1' || (decide (((argv.getD (i_3').toNat default).length : Int) < 2))) = false → (0 ≤ (0 : Int) ∧ (0 : Int) < (argv.getD (i_3').toNat default).length)) ∧
            (if ((plain_1' || (decide (((argv.getD (i_3').toNat default).length : Int) < 2))) || (!decide ((((argv.getD (i_3').toNat default).getD (0 : Int).toNat 0).toNat : Int) = 45))) = true then
             (want_1' ≤ (m1 (argv.getD ((0 : Int)).toNat default)).length) ∧
             (if (decide ((((m1 (argv.getD ((0 : Int)).toNat default)).length - want_1' : Nat) : Int) = 0)) = true then
              K [] [] [] [] [] 0 0 0 0 0 [] true i_3' ([101, 120, 116, 114, 97, 32, 111, 112, 101, 114, 97, 110, 100] : List UInt8)
             else
              (0 ≤ (0 : Int) ∧ ((want_1' : Nat) : Int) + (0 : Int) < ((m1 (argv.getD ((0 : Int)).toNat default)).length : Int)) ∧
              (∀ (ok_4' : Bool) (c_4' : CmT), amo ((m1 (argv.getD ((0 : Int)).toNat default)).getD (want_1' + ((0 : Int)).toNat) default) (argv.getD (i_3').toNat default) (c_0_1', c_1_1', c_2_1', c_3_1', c_4_1', c_5_1', c_6_2', c_7_2', c_8_1', c_9_1', c_10_1') ok_4' c_4' →
               (if (!ok_4') = true then
                K [] [] [] [] [] 0 0 0 0 0 [] true i_3' ([98, 97, 100, 32, 118, 97, 108, 117, 101] : List UInt8)
               else
                (want_1' < (m1 (argv.getD ((0 : Int)).toNat default)).length) ∧
                (I64 (i_3' + 1)) ∧
                Inv_2' (want_1' + 1) seen_1' plain_1' (i_3' + 1) c_4'.1 c_4'.2.1 c_4'.2.2.1 c_4'.2.2.2.1 c_4'.2.2.2.2.1 c_4'.2.2.2.2.2.1 c_4'.2.2.2.2.2.2.1 c_4'.2.2.2.2.2.2.2.1 c_4'.2.2.2.2.2.2.2.2.1 c_4'.2.2.2.2.2.2.2.2.2.1 c_4'.2.2.2.2.2.2.2.2.2.2 ∧ mu_2' (want_1' + 1) seen_1' plain_1' (i_3' + 1) c_4'.1 c_4'.2.1 c_4'.2.2.1 c_4'.2.2.2.1 c_4'.2.2.2.2.1 c_4'.2.2.2.2.2.1 c_4'.2.2.2.2.2.2.1 c_4'.2.2.2.2.2.2.2.1 c_4'.2.2.2.2.2.2.2.2.1 c_4'.2.2.2.2.2.2.2.2.2.1 c_4'.2.2.2.2.2.2.2.2.2.2 < mu_2' want_1' seen_1' plain_1' i_3' c_0_1' c_1_1' c_2_1' c_3_1' c_4_1' c_5_1' c_6_2' c_7_2' c_8_1' c_9_1' c_10_1')))
            else
             (0 ≤ (1 : Int) ∧ (1 : Int) < (argv.getD (i_3').toNat default).length) ∧
             (if ((((!decide ((((argv.getD (i_3').toNat default).getD (1 : Int).toNat 0).toNat : Int) = 98)) && (!decide ((((argv.getD (i_3').toNat default).getD (1 : Int).toNat 0).toNat : Int) = 110))) && (!decide ((((argv.getD (i_3').toNat default).getD (1 : Int).toNat 0).toNat : Int) = 99))) && (!decide ((((argv.getD (i_3').toNat default).getD (1 : Int).toNat 0).toNat : Int) = 111))) = true then
              K [] [] [] [] [] 0 0 0 0 0 [] true i_3' ([117, 110, 107, 110, 111, 119, 110, 32, 111, 112, 116, 105, 111, 110] : List UInt8)
             else
              (0 ≤ (((argv.getD (i_3').toNat default).getD (1 : Int).toNat 0).toNat : Int) ∧ (((argv.getD (i_3').toNat default).getD (1 : Int).toNat 0).toNat : Int) < 256) ∧
              (if (!(ag4 c_0_1' (((argv.getD (i_3').toNat default).getD (1 : Int).toNat 0).toNat : Int))) = true then
               K [] [] [] [] [] 0 0 0 0 0 [] true i_3' ([111, 112, 116, 105, 111, 110, 32, 111, 117, 116, 32, 111, 102, 32, 112, 108, 97, 99, 101] : List UInt8)
              else
               ∃ (Inv_3' : Int → Prop) (mu_3' : Int → Nat),
                Inv_3' 0 ∧ ∀ (k_5' : Int), Inv_3' k_5' →
                 (if (decide (k_5' < (seen_1'.length : Int))) = true then
                  (0 ≤ k_5' ∧ k_5' < seen_1'.length) ∧
                  (if (decide (((seen_1'.getD k_5'.toNat 0).toNat : Int) = (((argv.getD (i_3').toNat default).getD (1 : Int).toNat 0).toNat : Int))) = true then
                   K [] [] [] [] [] 0 0 0 0 0 [] true i_3' ([111, 112, 116, 105, 111, 110, 32, 116, 119, 105, 99, 101] : List UInt8)
                  else
                   (I64 (k_5' + 1)) ∧
                   Inv_3' (k_5' + 1) ∧ mu_3' (k_5' + 1) < mu_3' k_5')
                 else
                  (seen_1'.length + [((argv.getD (i_3').toNat default).getD (1 : Int).toNat 0)].length ≤ 9223372036854775807) ∧
                  (0 ≤ (2 : Int) ∧ (2 : Int) ≤ (argv.getD (i_3').toNat default).length) ∧
                  ∃ (J0_4' : Int → (List UInt8) → Prop),
                   (∀ (i_4' : Int) (v_2' : List UInt8), J0_4' i_4' v_2' →
                    (∀ (ok_5' : Bool) (c_5' : CmT), amo [((argv.getD (i_3').toNat default).getD (1 : Int).toNat 0)] v_2' (c_0_1', c_1_1', c_2_1', c_3_1', c_4_1', c_5_1', c_6_2', c_7_2', c_8_1', c_9_1', c_10_1') ok_5' c_5' →
                     (if (!ok_5') = true then
                      K [] [] [] [] [] 0 0 0 0 0 [] true i_4' ([98, 97, 100, 32, 118, 97, 108, 117, 101] : List UInt8)
                     else
                      (I64 (i_4' + 1)) ∧
                      Inv_2' want_1' (seen_1' ++ [((argv.getD (i_3').toNat default).getD (1 : Int).toNat 0)]) plain_1' (i_4' + 1) c_5'.1 c_5'.2.1 c_5'.2.2.1 c_5'.2.2.2.1 c_5'.2.2.2.2.1 c_5'.2.2.2.2.2.1 c_5'.2.2.2.2.2.2.1 c_5'.2.2.2.2.2.2.2.1 c_5'.2.2.2.2.2.2.2.2.1 c_5'.2.2.2.2.2.2.2.2.2.1 c_5'.2.2.2.2.2.2.2.2.2.2 ∧ mu_2' want_1' (seen_1' ++ [((argv.getD (i_3').toNat default).getD (1 : Int).toNat 0)]) plain_1' (i_4' + 1) c_5'.1 c_5'.2.1 c_5'.2.2.1 c_5'.2.2.2.1 c_5'.2.2.2.2.1 c_5'.2.2.2.2.2.1 c_5'.2.2.2.2.2.2.1 c_5'.2.2.2.2.2.2.2.1 c_5'.2.2.2.2.2.2.2.2.1 c_5'.2.2.2.2.2.2.2.2.2.1 c_5'.2.2.2.2.2.2.2.2.2.2 < mu_2' want_1' seen_1' plain_1' i_3' c_0_1' c_1_1' c_2_1' c_3_1' c_4_1' c_5_1' c_6_2' c_7_2' c_8_1' c_9_1' c_10_1'))) ∧
                   (if (decide ((argv.getD (i_3').toNat default).drop (2 : Int).toNat = [])) = true then
                    (I64 (i_3' + 1)) ∧
                    (if (decide (i_3' + 1 = (argv.length : Int))) = true then
                     K [] [] [] [] [] 0 0 0 0 0 [] true i_3' ([111, 112, 116, 105, 111, 110, 32, 119, 105, 116, 104, 111, 117, 116, 32, 118, 97, 108, 117, 101] : List UInt8)
                    else
                     (I64 (i_3' + 1)) ∧
                     (0 ≤ (i_3' + 1) ∧ (i_3' + 1) < (argv.length : Int)) ∧
                     J0_4' (i_3' + 1) (argv.getD ((i_3' + 1)).toNat default))
                   else
                    J0_4' i_3' ((argv.getD (i_3').toNat default).drop (2 : Int).toNat)))))))
          else
           (want_1' ≤ (m1 (argv.getD ((0 : Int)).toNat default)).length) ∧
           (if (decide (0 < (((m1 (argv.getD ((0 : Int)).toNat default)).length - want_1' : Nat) : Int))) = true then
            K [] [] [] [] [] 0 0 0 0 0 [] true (argv.length : Int) ([109, 105, 115, 115, 105, 110, 103, 32, 111, 112, 101, 114, 97, 110, 100] : List UInt8)
           else
            K c_0_1' c_1_1' c_2_1' c_3_1' c_4_1' c_5_1' c_6_2' c_7_2' c_8_1' c_9_1' c_10_1' false 0 []))) ∧
       (if (decide ((argv.getD ((0 : Int)).toNat default) = ([115, 116, 114, 101, 97, 109] : List UInt8))) = true then
        J0_1' 16
       else
        J0_1' 0)) ∧
     (if (decide ((argv.getD ((0 : Int)).toNat default) = ([119, 111, 114, 100, 115] : List UInt8))) = true then
      J0 10
     else
      J0 0))))
theorem ai1 (w : Value) (argv : List (List UInt8)) (Ri1 : List (Nat × Obj)) (hRi1 : w8 w Ri1 argv.length (argv.flatMap j3)) (K : (List UInt8) → (List UInt8) → (List UInt8) → (List UInt8) → (List UInt8) → Int → Int → Int → Int → Int → (List UInt8) → Bool → Int → (List UInt8) → Prop) (h : adb argv K) :
  j8 Tryd.prog 8 [w] (Ri1 ++ []) [] (fun o => (∃ (v_3'_0 : List UInt8) (v_3'_1 : List UInt8) (v_3'_2 : List UInt8) (v_3'_3 : List UInt8) (v_3'_4 : List UInt8) (v_3'_5 : Int) (v_3'_6 : Int) (v_3'_7 : Int) (v_3'_8 : Int) (v_3'_9 : Int) (v_3'_10 : List UInt8) (v_4' : Bool) (v_5' : Int) (v_6' : List UInt8), K v_3'_0 v_3'_1 v_3'_2 v_3'_3 v_3'_4 v_3'_5 v_3'_6 v_3'_7 v_3'_8 v_3'_9 v_3'_10 v_4' v_5' v_6' ∧ o = .ret (Value.tuple #[Value.agg [st v_3'_0, st v_3'_1, st v_3'_2, st v_3'_3, st v_3'_4, zI v_3'_5, zI v_3'_6, zI v_3'_7, zI v_3'_8, zI v_3'_9, st v_3'_10].toArray, zB v_4', zI v_5', st v_6']) []) ∨ (False)) := by
 unfold adb at h
 refine g9 (n := 162) (L0 := [(0, w)]) Tryd.func8 rfl rfl rfl rfl (fun w0 M Q hE => ?_)
 have hi1 : LIn ⟨162, [], w0, M, (Ri1 ++ [])⟩ w argv.length (argv.flatMap j3) := LIn.mk hRi1 (fun p hp => by simp [hp])
 refine a7 (fun _ hK => ?_)
 refine a6 ?_
 refine WL.make (MV.alloc aa3) rfl rfl rfl (fun b => ?_)
 refine wA ?_
 refine wA ?_
 refine wA ?_
 refine WL.nil ?_
 refine kg (hK [(0, w), (2, zP b)] _ ?_)
 refine a7 (fun _ hK_1' => ?_)
 refine a6 ?_
 refine wv (OV.build rfl (cs := [st [], st [], st [], st [], st [], zI 0, zI 0, zI 0, zI 0, zI 0, st []]) rfl) ?_
 refine WL.make (MV.alloc aa3) rfl rfl rfl (fun b_1' => ?_)
 refine WL.storeW (vs := [st [], st [], st [], st [], st [], zI 0, zI 0, zI 0, zI 0, zI 0, st []]) 0 rfl rfl rfl rfl rfl p4 rfl rfl rfl ?_
 refine WL.nil ?_
 refine kg (hK_1' [(0, w), (2, zP b), (6, zP b_1')] _ ?_)
 refine a7 (fun _ hK_2' => ?_)
 refine a7 (fun _ hK_3' => ?_)
 refine a6 ?_
 refine wm ?_
 refine wv (OV.lenIn hi1 rfl f0) ?_
 refine wv (OV.eql rfl rfl) ?_
 refine WL.nil ?_
 refine kg (hK_3' [(0, w), (2, zP b), (6, zP b_1'), (19, zB (decide ((argv.length : Int) = 0)))] _ ?_)
 refine b9 (b := decide ((argv.length : Int) = 0)) rfl (fun hb => ?_) (fun hb => ?_)
 ·replace h := j6 h hb
  refine a7 (fun _ hK_4' => ?_)
  refine a6 ?_
  refine wv (OV.loadR rfl (At.own 0 rfl) m2) ?_
  refine WL.storeW (vs := [st [], st [], st [], st [], st [], zI 0, zI 0, zI 0, zI 0, zI 0, st []]) 1 rfl rfl rfl rfl rfl p4 rfl rfl rfl ?_
  refine wA ?_
  refine wA ?_
  refine wA ?_
  refine WL.nil ?_
  refine kg (hK_4' [(2, zP b), (3, zB true), (4, zI 0), (5, st ([110, 111, 32, 99, 111, 109, 109, 97, 110, 100] : List UInt8))] _ ?_)
  refine g7 ?_
  exact hE.ret [] rfl rfl (.inl ⟨_, _, _, _, _, _, _, _, _, _, _, _, _, _, h, rfl⟩) (l7.of4 rfl (RV.row rfl (At.own 1 rfl) m2) (RV.tmp rfl) (RV.tmp rfl) (RV.tmp rfl))
 ·replace h := j5 h hb
  refine b8 ?_
  refine kg (hK_2' [(0, w), (2, zP b), (6, zP b_1')] _ ?_)
  refine a7 (fun _ hK_5' => ?_)
  refine a6 ?_
  refine wm ?_
  obtain ⟨o, h⟩ := h
  refine wv (OV.indexIn hi1 rfl rfl f0 o) ?_
  refine wv (OV.loadInE1 (f := j3) hi1 rfl i6 (by omega) rfl f7) ?_
  refine WL.callS afo rfl (afn (argv.getD ((0 : Int)).toNat default)) rfl trivial rfl rfl (fun r H' hS => ?_) (fun c H' hS => ?_)
  ·obtain ⟨w_1', ho⟩ := hS
   obtain ⟨hr1, hr2⟩ := Out.ret.inj ho
   subst hr2
   replace hr1 := hr1.symm
   subst hr1
   refine wA ?_
   refine WL.nil ?_
   refine kg (hK_5' [(0, w), (2, zP b), (6, zP b_1'), (7, w_1')] _ ?_)
   refine a7 (fun _ hK_6' => ?_)
   refine a7 (fun _ hK_7' => ?_)
   refine a6 ?_
   refine wm ?_
   refine wv (OV.lenRow 0 rfl rfl f0) ?_
   refine wv (OV.eql rfl rfl) ?_
   refine WL.nil ?_
   refine kg (hK_7' [(0, w), (2, zP b), (6, zP b_1'), (7, w_1'), (27, zB (decide (((m1 (argv.getD ((0 : Int)).toNat default)).length : Int) = 0)))] _ ?_)
   refine b9 (b := decide (((m1 (argv.getD ((0 : Int)).toNat default)).length : Int) = 0)) rfl (fun hb => ?_) (fun hb => ?_)
   ·replace h := j6 h hb
    refine a7 (fun _ hK_8' => ?_)
    refine a6 ?_
    refine wv (OV.loadR rfl (At.own 1 rfl) m2) ?_
    refine WL.storeW (vs := [st [], st [], st [], st [], st [], zI 0, zI 0, zI 0, zI 0, zI 0, st []]) 2 rfl rfl rfl rfl rfl p4 rfl rfl rfl ?_
    refine wA ?_
    refine wA ?_
    refine wA ?_
    refine WL.nil ?_
    refine kg (hK_8' [(2, zP b), (3, zB true), (4, zI 0), (5, st ([117, 110, 107, 110, 111, 119, 110, 32, 99, 111, 109, 109, 97, 110, 100] : List UInt8))] _ ?_)
    refine g7 ?_
    exact hE.ret [] rfl rfl (.inl ⟨_, _, _, _, _, _, _, _, _, _, _, _, _, _, h, rfl⟩) (l7.of4 rfl (RV.row rfl (At.own 2 rfl) m2) (RV.tmp rfl) (RV.tmp rfl) (RV.tmp rfl))
   ·replace h := j5 h hb
    refine b8 ?_
    refine kg (hK_6' [(0, w), (2, zP b), (6, zP b_1'), (7, w_1')] _ ?_)
    refine a7 (fun _ hK_9' => ?_)
    refine a6 ?_
    refine wm ?_
    obtain ⟨o_1', h⟩ := h
    refine wv (OV.indexIn hi1 rfl rfl f0 o_1') ?_
    refine wv (OV.loadInE1 (f := j3) hi1 rfl i6 (by omega) rfl f7) ?_
    refine wv (OV.build rfl (cs := [st (argv.getD ((0 : Int)).toNat default), st [], st [], st [], st [], zI 1024, zI 0, zI 0, zI 0, zI 0, st []]) rfl) ?_
    refine WL.make (MV.alloc aa3) rfl rfl rfl (fun b_2' => ?_)
    refine WL.storeW (vs := [st (argv.getD ((0 : Int)).toNat default), st [], st [], st [], st [], zI 1024, zI 0, zI 0, zI 0, zI 0, st []]) 0 rfl rfl rfl rfl rfl p4 rfl rfl rfl ?_
    refine WL.nil ?_
    refine kg (hK_9' [(0, w), (2, zP b), (6, zP b_1'), (7, w_1'), (8, zP b_2')] _ ?_)
    obtain ⟨J0, hJ, h⟩ := h
    refine q6 (X := Int) (fun σ => J0 σ) (fun σ => [(0, w), (2, zP b), (6, zP b_1'), (7, w_1'), (8, zP b_2')]) (fun σ => [HA.blk b_2' (.cells [st (argv.getD ((0 : Int)).toNat default), st [], st [], st [], st [], zI 1024, zI σ, zI 0, zI 0, zI 0, st []].toArray 31 (0, 0)), HA.row w_1' 9 1 (m1 (argv.getD ((0 : Int)).toNat default)).length ((m1 (argv.getD ((0 : Int)).toNat default)).flatMap j3), HA.blk b_1' (.cells [st [], st [], st [], st [], st [], zI 0, zI 0, zI 0, zI 0, zI 0, st []].toArray 31 (0, 0)), HA.blk b (.cells [st [], st [], st [], st [], st [], zI 0, zI 0, zI 0, zI 0, zI 0, st []].toArray 31 (0, 0))]) ?_ (fun K0_11' hK_11' => ?_)
    ·rintro c_6 hj
     replace h := hJ c_6 hj
     show WC _ _ _ _ [(0, w), (2, zP b), (6, zP b_1'), (7, w_1'), (8, zP b_2')] [HA.blk b_2' (.cells [st (argv.getD ((0 : Int)).toNat default), st [], st [], st [], st [], zI 1024, zI c_6, zI 0, zI 0, zI 0, st []].toArray 31 (0, 0)), HA.row w_1' 9 1 (m1 (argv.getD ((0 : Int)).toNat default)).length ((m1 (argv.getD ((0 : Int)).toNat default)).flatMap j3), HA.blk b_1' (.cells [st [], st [], st [], st [], st [], zI 0, zI 0, zI 0, zI 0, zI 0, st []].toArray 31 (0, 0)), HA.blk b (.cells [st [], st [], st [], st [], st [], zI 0, zI 0, zI 0, zI 0, zI 0, st []].toArray 31 (0, 0))]
     obtain ⟨J0_1', hJ_1', h⟩ := h
     refine q6 (X := Int) (fun σ => J0_1' σ) (fun σ => [(0, w), (2, zP b), (6, zP b_1'), (7, w_1'), (8, zP b_2')]) (fun σ => [HA.blk b_2' (.cells [st (argv.getD ((0 : Int)).toNat default), st [], st [], st [], st [], zI 1024, zI c_6, zI σ, zI 0, zI 0, st []].toArray 31 (0, 0)), HA.row w_1' 9 1 (m1 (argv.getD ((0 : Int)).toNat default)).length ((m1 (argv.getD ((0 : Int)).toNat default)).flatMap j3), HA.blk b_1' (.cells [st [], st [], st [], st [], st [], zI 0, zI 0, zI 0, zI 0, zI 0, st []].toArray 31 (0, 0)), HA.blk b (.cells [st [], st [], st [], st [], st [], zI 0, zI 0, zI 0, zI 0, zI 0, st []].toArray 31 (0, 0))]) ?_ (fun K0_13' hK_13' => ?_)
     ·rintro c_7 hj
      replace h := hJ_1' c_7 hj
      show WC _ _ _ _ [(0, w), (2, zP b), (6, zP b_1'), (7, w_1'), (8, zP b_2')] [HA.blk b_2' (.cells [st (argv.getD ((0 : Int)).toNat default), st [], st [], st [], st [], zI 1024, zI c_6, zI c_7, zI 0, zI 0, st []].toArray 31 (0, 0)), HA.row w_1' 9 1 (m1 (argv.getD ((0 : Int)).toNat default)).length ((m1 (argv.getD ((0 : Int)).toNat default)).flatMap j3), HA.blk b_1' (.cells [st [], st [], st [], st [], st [], zI 0, zI 0, zI 0, zI 0, zI 0, st []].toArray 31 (0, 0)), HA.blk b (.cells [st [], st [], st [], st [], st [], zI 0, zI 0, zI 0, zI 0, zI 0, st []].toArray 31 (0, 0))]
      refine a7 (fun _ hK_14' => ?_)
      refine a6 ?_
      refine wA ?_
      refine WL.nil ?_
      refine kg (hK_14' [(0, w), (2, zP b), (6, zP b_1'), (7, w_1'), (8, zP b_2'), (9, st [])] _ ?_)
      refine a7 (fun _ hK_15' => ?_)
      refine a6 ?_
      refine wA ?_
      refine WL.nil ?_
      refine kg (hK_15' [(0, w), (2, zP b), (6, zP b_1'), (7, w_1'), (8, zP b_2'), (9, st []), (10, zB false)] _ ?_)
      refine a7 (fun _ hK_16' => ?_)
      refine a6 ?_
      refine wA ?_
      refine WL.nil ?_
      refine kg (hK_16' [(0, w), (2, zP b), (6, zP b_1'), (7, w_1'), (8, zP b_2'), (9, st []), (10, zB false), (11, zI 1)] _ ?_)
      refine a7 (fun _ hK_17' => ?_)
      refine f9 ?_
      obtain ⟨Inv_2', mu_2', h0_2', hr_2'⟩ := h
      refine x1 (S := Nat × (List UInt8) × Bool × Int × (List UInt8) × (List UInt8) × (List UInt8) × (List UInt8) × (List UInt8) × Int × Int × Int × Int × Int × (List UInt8)) (fun σ => Inv_2' σ.1 σ.2.1 σ.2.2.1 σ.2.2.2.1 σ.2.2.2.2.1 σ.2.2.2.2.2.1 σ.2.2.2.2.2.2.1 σ.2.2.2.2.2.2.2.1 σ.2.2.2.2.2.2.2.2.1 σ.2.2.2.2.2.2.2.2.2.1 σ.2.2.2.2.2.2.2.2.2.2.1 σ.2.2.2.2.2.2.2.2.2.2.2.1 σ.2.2.2.2.2.2.2.2.2.2.2.2.1 σ.2.2.2.2.2.2.2.2.2.2.2.2.2.1 σ.2.2.2.2.2.2.2.2.2.2.2.2.2.2) (fun σ => mu_2' σ.1 σ.2.1 σ.2.2.1 σ.2.2.2.1 σ.2.2.2.2.1 σ.2.2.2.2.2.1 σ.2.2.2.2.2.2.1 σ.2.2.2.2.2.2.2.1 σ.2.2.2.2.2.2.2.2.1 σ.2.2.2.2.2.2.2.2.2.1 σ.2.2.2.2.2.2.2.2.2.2.1 σ.2.2.2.2.2.2.2.2.2.2.2.1 σ.2.2.2.2.2.2.2.2.2.2.2.2.1 σ.2.2.2.2.2.2.2.2.2.2.2.2.2.1 σ.2.2.2.2.2.2.2.2.2.2.2.2.2.2) (fun σ => [(0, w), (2, zP b), (6, zP b_1'), (7, p5 w_1' 1 σ.1), (8, zP b_2'), (9, st σ.2.1), (10, zB σ.2.2.1), (11, zI σ.2.2.2.1)]) (fun σ => [HA.blk b_2' (.cells [st σ.2.2.2.2.1, st σ.2.2.2.2.2.1, st σ.2.2.2.2.2.2.1, st σ.2.2.2.2.2.2.2.1, st σ.2.2.2.2.2.2.2.2.1, zI σ.2.2.2.2.2.2.2.2.2.1, zI σ.2.2.2.2.2.2.2.2.2.2.1, zI σ.2.2.2.2.2.2.2.2.2.2.2.1, zI σ.2.2.2.2.2.2.2.2.2.2.2.2.1, zI σ.2.2.2.2.2.2.2.2.2.2.2.2.2.1, st σ.2.2.2.2.2.2.2.2.2.2.2.2.2.2].toArray 31 (0, 0)), HA.row w_1' 9 1 (m1 (argv.getD ((0 : Int)).toNat default)).length ((m1 (argv.getD ((0 : Int)).toNat default)).flatMap j3), HA.blk b_1' (.cells [st [], st [], st [], st [], st [], zI 0, zI 0, zI 0, zI 0, zI 0, st []].toArray 31 (0, 0)), HA.blk b (.cells [st [], st [], st [], st [], st [], zI 0, zI 0, zI 0, zI 0, zI 0, st []].toArray 31 (0, 0))]) (0, [], false, 1, (argv.getD ((0 : Int)).toNat default), [], [], [], [], 1024, c_6, c_7, 0, 0, []) h0_2' ⟨rfl, rfl, rfl, rfl, rfl, rfl, rfl, rfl, trivial⟩ rfl ?_
      rintro ⟨want_1', seen_1', plain_1', i_3', c_0_1', c_1_1', c_2_1', c_3_1', c_4_1', c_5_1', c_6_2', c_7_2', c_8_1', c_9_1', c_10_1'⟩ hi K0_144' hK_144'
      have h := hr_2' want_1' seen_1' plain_1' i_3' c_0_1' c_1_1' c_2_1' c_3_1' c_4_1' c_5_1' c_6_2' c_7_2' c_8_1' c_9_1' c_10_1' hi
      show WC _ _ _ _ [(0, w), (2, zP b), (6, zP b_1'), (7, p5 w_1' 1 want_1'), (8, zP b_2'), (9, st seen_1'), (10, zB plain_1'), (11, zI i_3')] [HA.blk b_2' (.cells [st c_0_1', st c_1_1', st c_2_1', st c_3_1', st c_4_1', zI c_5_1', zI c_6_2', zI c_7_2', zI c_8_1', zI c_9_1', st c_10_1'].toArray 31 (0, 0)), HA.row w_1' 9 1 (m1 (argv.getD ((0 : Int)).toNat default)).length ((m1 (argv.getD ((0 : Int)).toNat default)).flatMap j3), HA.blk b_1' (.cells [st [], st [], st [], st [], st [], zI 0, zI 0, zI 0, zI 0, zI 0, st []].toArray 31 (0, 0)), HA.blk b (.cells [st [], st [], st [], st [], st [], zI 0, zI 0, zI 0, zI 0, zI 0, st []].toArray 31 (0, 0))]
      refine a7 (fun _ hK_145' => ?_)
      refine a7 (fun _ hK_146' => ?_)
      refine a6 ?_
      refine wm ?_
      refine wm ?_
      refine wv (OV.lenIn hi1 rfl f0) ?_
      refine wv (OV.lss rfl rfl) ?_
      refine WL.nil ?_
      refine kg (hK_146' [(0, w), (2, zP b), (6, zP b_1'), (7, p5 w_1' 1 want_1'), (8, zP b_2'), (9, st seen_1'), (10, zB plain_1'), (11, zI i_3'), (44, zB (decide (i_3' < (argv.length : Int))))] _ ?_)
      refine b9 (b := decide (i_3' < (argv.length : Int))) rfl (fun hb => ?_) (fun hb => ?_)
      ·replace h := j6 h hb
       refine b8 ?_
       refine kg (hK_145' [(0, w), (2, zP b), (6, zP b_1'), (7, p5 w_1' 1 want_1'), (8, zP b_2'), (9, st seen_1'), (10, zB plain_1'), (11, zI i_3')] _ ?_)
       refine f9 ?_
       refine a7 (fun _ hK_147' => ?_)
       refine a6 ?_
       refine wm ?_
       refine wm ?_
       obtain ⟨o_51', h⟩ := h
       refine wv (OV.indexIn hi1 rfl rfl f0 o_51') ?_
       refine wv (OV.loadInE1 (f := j3) hi1 rfl i6 (by omega) rfl f7) ?_
       refine wA ?_
       refine WL.nil ?_
       refine kg (hK_147' [(0, w), (2, zP b), (6, zP b_1'), (7, p5 w_1' 1 want_1'), (8, zP b_2'), (9, st seen_1'), (10, zB plain_1'), (11, zI i_3'), (12, st (argv.getD (i_3').toNat default))] _ ?_)
       refine a7 (fun _ hK_148' => ?_)
       refine a7 (fun _ hK_149' => ?_)
       refine a6 ?_
       refine wm ?_
       refine wv (OV.not rfl) ?_
       refine wm ?_
       refine WL.cut 3 [(0, w), (2, zP b), (6, zP b_1'), (7, p5 w_1' 1 want_1'), (8, zP b_2'), (9, st seen_1'), (10, zB plain_1'), (11, zI i_3'), (12, st (argv.getD (i_3').toNat default)), (54, zB ((!plain_1') && (decide ((argv.getD (i_3').toNat default) = ([45, 45] : List UInt8)))))] ?_ (fun K0_150' hK_150' => ?_)
       rotate_left
       ·refine WL.split (!plain_1') (fun hb => ?_) (fun hb => ?_)
        ·refine WL.set 51 rfl (congrArg zB hb) ?_
         refine wm ?_
         refine wv (OV.eqlS rfl rfl) ?_
         refine wv (OV.pickT rfl rfl) ?_
         refine WL.set 54 rfl (bT (v := decide ((argv.getD (i_3').toNat default) = ([45, 45] : List UInt8))) hb) ?_
         exact WL.end_ (kg hK_150')
        ·refine WL.set 51 rfl (congrArg zB hb) ?_
         refine wk ?_
         refine wk ?_
         refine wv (OV.pickF rfl rfl) ?_
         refine WL.set 54 rfl (bF (v := decide ((argv.getD (i_3').toNat default) = ([45, 45] : List UInt8))) hb) ?_
         exact WL.end_ (kg hK_150')
       refine WL.nil ?_
       refine kg (hK_149' [(0, w), (2, zP b), (6, zP b_1'), (7, p5 w_1' 1 want_1'), (8, zP b_2'), (9, st seen_1'), (10, zB plain_1'), (11, zI i_3'), (12, st (argv.getD (i_3').toNat default)), (54, zB ((!plain_1') && (decide ((argv.getD (i_3').toNat default) = ([45, 45] : List UInt8)))))] _ ?_)
       refine b9 (b := (!plain_1') && (decide ((argv.getD (i_3').toNat default) = ([45, 45] : List UInt8)))) rfl (fun hb => ?_) (fun hb => ?_)
       ·replace h := j6 h hb
        refine a7 (fun _ hK_151' => ?_)
        refine a6 ?_
        refine wA ?_
        refine WL.nil ?_
        refine kg (hK_151' [(0, w), (2, zP b), (6, zP b_1'), (7, p5 w_1' 1 want_1'), (8, zP b_2'), (9, st seen_1'), (10, zB true), (11, zI i_3')] _ ?_)
        refine a7 (fun _ hK_152' => ?_)
        refine a6 ?_
        refine wm ?_
        obtain ⟨o_53', h⟩ := h
        refine wv (OV.add rfl rfl o_53') ?_
        refine wA ?_
        refine WL.nil ?_
        refine kg (hK_152' [(0, w), (2, zP b), (6, zP b_1'), (7, p5 w_1' 1 want_1'), (8, zP b_2'), (9, st seen_1'), (10, zB true), (11, zI (i_3' + 1))] _ ?_)
        refine s8 ?_
        exact kh (hK_144' (want_1', seen_1', true, i_3' + 1, c_0_1', c_1_1', c_2_1', c_3_1', c_4_1', c_5_1', c_6_2', c_7_2', c_8_1', c_9_1', c_10_1') h.1 h.2) [0, 1, 2, 3]
       ·replace h := j5 h hb
        refine b8 ?_
        refine kg (hK_148' [(0, w), (2, zP b), (6, zP b_1'), (7, p5 w_1' 1 want_1'), (8, zP b_2'), (9, st seen_1'), (10, zB plain_1'), (11, zI i_3'), (12, st (argv.getD (i_3').toNat default))] _ ?_)
        refine a7 (fun _ hK_153' => ?_)
        refine a7 (fun _ hK_154' => ?_)
        refine a6 ?_
        refine wm ?_
        refine wm ?_
        refine WL.cut 4 [(0, w), (2, zP b), (6, zP b_1'), (7, p5 w_1' 1 want_1'), (8, zP b_2'), (9, st seen_1'), (10, zB plain_1'), (11, zI i_3'), (12, st (argv.getD (i_3').toNat default)), (62, zB (plain_1' || (decide (((argv.getD (i_3').toNat default).length : Int) < 2))))] ?_ (fun K0_155' hK_155' => ?_)
        rotate_left
        ·refine WL.split (plain_1') (fun hb => ?_) (fun hb => ?_)
         ·refine WL.set 58 rfl (congrArg zB hb) ?_
          refine wk ?_
          refine wk ?_
          refine wk ?_
          refine wv (OV.pickT rfl rfl) ?_
          refine WL.set 62 rfl (oT (v := decide (((argv.getD (i_3').toNat default).length : Int) < 2)) hb) ?_
          exact WL.end_ (kg hK_155')
         ·refine WL.set 58 rfl (congrArg zB hb) ?_
          refine wm ?_
          refine wv (OV.len rfl f8) ?_
          refine wv (OV.lss rfl rfl) ?_
          refine wv (OV.pickF rfl rfl) ?_
          refine WL.set 62 rfl (oF (v := decide (((argv.getD (i_3').toNat default).length : Int) < 2)) hb) ?_
          exact WL.end_ (kg hK_155')
        refine wm ?_
        obtain ⟨o_56', h⟩ := h
        refine WL.cut 4 [(0, w), (2, zP b), (6, zP b_1'), (7, p5 w_1' 1 want_1'), (8, zP b_2'), (9, st seen_1'), (10, zB plain_1'), (11, zI i_3'), (12, st (argv.getD (i_3').toNat default)), (67, zB ((plain_1' || (decide (((argv.getD (i_3').toNat default).length : Int) < 2))) || (!decide ((((argv.getD (i_3').toNat default).getD (0 : Int).toNat 0).toNat : Int) = 45))))] ?_ (fun K0_156' hK_156' => ?_)
        rotate_left
        ·refine WL.split (plain_1' || (decide (((argv.getD (i_3').toNat default).length : Int) < 2))) (fun hb => ?_) (fun hb => ?_)
         ·refine WL.set 63 rfl (congrArg zB hb) ?_
          refine wk ?_
          refine wk ?_
          refine wk ?_
          refine wv (OV.pickT rfl rfl) ?_
          refine WL.set 67 rfl (oT (v := !decide ((((argv.getD (i_3').toNat default).getD (0 : Int).toNat 0).toNat : Int) = 45)) hb) ?_
          exact WL.end_ (kg hK_156')
         ·have o_55' := o_56' hb
          refine WL.set 63 rfl (congrArg zB hb) ?_
          refine wm ?_
          refine wv (OV.index rfl rfl f8 o_55') ?_
          refine wv (OV.neq rfl rfl) ?_
          refine wv (OV.pickF rfl rfl) ?_
          refine WL.set 67 rfl (oF (v := !decide ((((argv.getD (i_3').toNat default).getD (0 : Int).toNat 0).toNat : Int) = 45)) hb) ?_
          exact WL.end_ (kg hK_156')
        refine WL.nil ?_
        refine kg (hK_154' [(0, w), (2, zP b), (6, zP b_1'), (7, p5 w_1' 1 want_1'), (8, zP b_2'), (9, st seen_1'), (10, zB plain_1'), (11, zI i_3'), (12, st (argv.getD (i_3').toNat default)), (67, zB ((plain_1' || (decide (((argv.getD (i_3').toNat default).length : Int) < 2))) || (!decide ((((argv.getD (i_3').toNat default).getD (0 : Int).toNat 0).toNat : Int) = 45))))] _ ?_)
        refine b9 (b := (plain_1' || (decide (((argv.getD (i_3').toNat default).length : Int) < 2))) || (!decide ((((argv.getD (i_3').toNat default).getD (0 : Int).toNat 0).toNat : Int) = 45))) rfl (fun hb => ?_) (fun hb => ?_)
        ·replace h := j6 h hb
         refine a7 (fun _ hK_157' => ?_)
         refine a7 (fun _ hK_158' => ?_)
         refine a6 ?_
         refine wm ?_
         obtain ⟨o_57', h⟩ := h
         refine wv (OV.lenSuf 1 rfl rfl f0 o_57') ?_
         refine wv (OV.eql rfl rfl) ?_
         refine WL.nil ?_
         refine kg (hK_158' [(0, w), (2, zP b), (6, zP b_1'), (7, p5 w_1' 1 want_1'), (8, zP b_2'), (9, st seen_1'), (10, zB plain_1'), (11, zI i_3'), (12, st (argv.getD (i_3').toNat default)), (70, zB (decide ((((m1 (argv.getD ((0 : Int)).toNat default)).length - want_1' : Nat) : Int) = 0)))] _ ?_)
         refine b9 (b := decide ((((m1 (argv.getD ((0 : Int)).toNat default)).length - want_1' : Nat) : Int) = 0)) rfl (fun hb => ?_) (fun hb => ?_)
         ·replace h := j6 h hb
          refine a7 (fun _ hK_159' => ?_)
          refine a6 ?_
          refine wv (OV.loadR rfl (At.own 2 rfl) m2) ?_
          refine wm ?_
          refine WL.storeW (vs := [st [], st [], st [], st [], st [], zI 0, zI 0, zI 0, zI 0, zI 0, st []]) 3 rfl rfl rfl rfl rfl p4 rfl rfl rfl ?_
          refine wA ?_
          refine wA ?_
          refine wA ?_
          refine WL.nil ?_
          refine kg (hK_159' [(2, zP b), (3, zB true), (4, zI i_3'), (5, st ([101, 120, 116, 114, 97, 32, 111, 112, 101, 114, 97, 110, 100] : List UInt8))] _ ?_)
          refine g7 ?_
          exact hE.ret [] rfl rfl (.inl ⟨_, _, _, _, _, _, _, _, _, _, _, _, _, _, h, rfl⟩) (l7.of4 rfl (RV.row rfl (At.own 3 rfl) m2) (RV.tmp rfl) (RV.tmp rfl) (RV.tmp rfl))
         ·replace h := j5 h hb
          refine b8 ?_
          refine kg (hK_157' [(0, w), (2, zP b), (6, zP b_1'), (7, p5 w_1' 1 want_1'), (8, zP b_2'), (9, st seen_1'), (10, zB plain_1'), (11, zI i_3'), (12, st (argv.getD (i_3').toNat default))] _ ?_)
          refine a7 (fun _ hK_160' => ?_)
          refine a7 (fun _ hK_161' => ?_)
          refine a6 ?_
          refine wm ?_
          obtain ⟨o_58', h⟩ := h
          refine wv (OV.indexSuf (k := want_1') 1 rfl rfl rfl f0 o_58') ?_
          refine wv (OV.loadE1 (f := j3) 1 rfl rfl i6 (by omega) rfl f7) ?_
          refine wm ?_
          refine WL.callS ae4 rfl (agn b_2' ((m1 (argv.getD ((0 : Int)).toNat default)).getD (want_1' + ((0 : Int)).toNat) default) (argv.getD (i_3').toNat default) (c_0_1', c_1_1', c_2_1', c_3_1', c_4_1', c_5_1', c_6_2', c_7_2', c_8_1', c_9_1', c_10_1')) rfl trivial rfl rfl (fun r H' hS => ?_) (fun c H' hS => ?_)
          ·obtain ⟨ok_4', c_4', hc, ho⟩ := hS
           cases ho
           replace h := h ok_4' c_4' hc
           refine wv (OV.not rfl) ?_
           refine WL.nil ?_
           refine kg (hK_161' [(0, w), (2, zP b), (6, zP b_1'), (7, p5 w_1' 1 want_1'), (8, zP b_2'), (9, st seen_1'), (10, zB plain_1'), (11, zI i_3'), (78, zB (!ok_4'))] _ ?_)
           refine b9 (b := !ok_4') rfl (fun hb => ?_) (fun hb => ?_)
           ·replace h := j6 h hb
            refine a7 (fun _ hK_162' => ?_)
            refine a6 ?_
            refine wv (OV.loadR rfl (At.own 2 rfl) m2) ?_
            refine wm ?_
            refine WL.storeW (vs := [st [], st [], st [], st [], st [], zI 0, zI 0, zI 0, zI 0, zI 0, st []]) 3 rfl rfl rfl rfl rfl p4 rfl rfl rfl ?_
            refine wA ?_
            refine wA ?_
            refine wA ?_
            refine WL.nil ?_
            refine kg (hK_162' [(2, zP b), (3, zB true), (4, zI i_3'), (5, st ([98, 97, 100, 32, 118, 97, 108, 117, 101] : List UInt8))] _ ?_)
            refine g7 ?_
            exact hE.ret [] rfl rfl (.inl ⟨_, _, _, _, _, _, _, _, _, _, _, _, _, _, h, rfl⟩) (l7.of4 rfl (RV.row rfl (At.own 3 rfl) m2) (RV.tmp rfl) (RV.tmp rfl) (RV.tmp rfl))
           ·replace h := j5 h hb
            refine b8 ?_
            refine kg (hK_160' [(0, w), (2, zP b), (6, zP b_1'), (7, p5 w_1' 1 want_1'), (8, zP b_2'), (9, st seen_1'), (10, zB plain_1'), (11, zI i_3')] _ ?_)
            refine a7 (fun _ hK_163' => ?_)
            refine a6 ?_
            refine wm ?_
            obtain ⟨o_59', h⟩ := h
            refine wv (OV.sufNext (k := want_1') 1 rfl rfl rfl f0 o_59') ?_
            refine wA ?_
            refine WL.nil ?_
            refine kg (hK_163' [(0, w), (2, zP b), (6, zP b_1'), (7, p5 w_1' 1 (want_1' + 1)), (8, zP b_2'), (9, st seen_1'), (10, zB plain_1'), (11, zI i_3')] _ ?_)
            refine a7 (fun _ hK_164' => ?_)
            refine a6 ?_
            refine wm ?_
            obtain ⟨o_60', h⟩ := h
            refine wv (OV.add rfl rfl o_60') ?_
            refine wA ?_
            refine WL.nil ?_
            refine kg (hK_164' [(0, w), (2, zP b), (6, zP b_1'), (7, p5 w_1' 1 (want_1' + 1)), (8, zP b_2'), (9, st seen_1'), (10, zB plain_1'), (11, zI (i_3' + 1))] _ ?_)
            refine s8 ?_
            exact kh (hK_144' (want_1' + 1, seen_1', plain_1', i_3' + 1, c_4'.1, c_4'.2.1, c_4'.2.2.1, c_4'.2.2.2.1, c_4'.2.2.2.2.1, c_4'.2.2.2.2.2.1, c_4'.2.2.2.2.2.2.1, c_4'.2.2.2.2.2.2.2.1, c_4'.2.2.2.2.2.2.2.2.1, c_4'.2.2.2.2.2.2.2.2.2.1, c_4'.2.2.2.2.2.2.2.2.2.2) h.1 h.2) [0, 1, 2, 3]
          ·obtain ⟨ok_4', c_4', hc, ho⟩ := hS
           cases ho
        ·replace h := j5 h hb
         refine b8 ?_
         refine kg (hK_153' [(0, w), (2, zP b), (6, zP b_1'), (7, p5 w_1' 1 want_1'), (8, zP b_2'), (9, st seen_1'), (10, zB plain_1'), (11, zI i_3'), (12, st (argv.getD (i_3').toNat default))] _ ?_)
         refine a7 (fun _ hK_165' => ?_)
         refine a6 ?_
         refine wm ?_
         obtain ⟨o_61', h⟩ := h
         refine wv (OV.index rfl rfl f8 o_61') ?_
         refine wA ?_
         refine WL.nil ?_
         refine kg (hK_165' [(0, w), (2, zP b), (6, zP b_1'), (7, p5 w_1' 1 want_1'), (8, zP b_2'), (9, st seen_1'), (10, zB plain_1'), (11, zI i_3'), (12, st (argv.getD (i_3').toNat default)), (13, zU (((argv.getD (i_3').toNat default).getD (1 : Int).toNat 0).toNat : Int))] _ ?_)
         refine a7 (fun _ hK_166' => ?_)
         refine a7 (fun _ hK_167' => ?_)
         refine a6 ?_
         refine wm ?_
         refine wv (OV.neq rfl rfl) ?_
         refine wm ?_
         refine WL.cut 3 [(0, w), (2, zP b), (6, zP b_1'), (7, p5 w_1' 1 want_1'), (8, zP b_2'), (9, st seen_1'), (10, zB plain_1'), (11, zI i_3'), (12, st (argv.getD (i_3').toNat default)), (13, zU (((argv.getD (i_3').toNat default).getD (1 : Int).toNat 0).toNat : Int)), (92, zB ((!decide ((((argv.getD (i_3').toNat default).getD (1 : Int).toNat 0).toNat : Int) = 98)) && (!decide ((((argv.getD (i_3').toNat default).getD (1 : Int).toNat 0).toNat : Int) = 110))))] ?_ (fun K0_168' hK_168' => ?_)
         rotate_left
         ·refine WL.split (!decide ((((argv.getD (i_3').toNat default).getD (1 : Int).toNat 0).toNat : Int) = 98)) (fun hb => ?_) (fun hb => ?_)
          ·refine WL.set 89 rfl (congrArg zB hb) ?_
           refine wm ?_
           refine wv (OV.neq rfl rfl) ?_
           refine wv (OV.pickT rfl rfl) ?_
           refine WL.set 92 rfl (bT (v := !decide ((((argv.getD (i_3').toNat default).getD (1 : Int).toNat 0).toNat : Int) = 110)) hb) ?_
           exact WL.end_ (kg hK_168')
          ·refine WL.set 89 rfl (congrArg zB hb) ?_
           refine wk ?_
           refine wk ?_
           refine wv (OV.pickF rfl rfl) ?_
           refine WL.set 92 rfl (bF (v := !decide ((((argv.getD (i_3').toNat default).getD (1 : Int).toNat 0).toNat : Int) = 110)) hb) ?_
           exact WL.end_ (kg hK_168')
         refine wm ?_
         refine WL.cut 3 [(0, w), (2, zP b), (6, zP b_1'), (7, p5 w_1' 1 want_1'), (8, zP b_2'), (9, st seen_1'), (10, zB plain_1'), (11, zI i_3'), (12, st (argv.getD (i_3').toNat default)), (13, zU (((argv.getD (i_3').toNat default).getD (1 : Int).toNat 0).toNat : Int)), (96, zB (((!decide ((((argv.getD (i_3').toNat default).getD (1 : Int).toNat 0).toNat : Int) = 98)) && (!decide ((((argv.getD (i_3').toNat default).getD (1 : Int).toNat 0).toNat : Int) = 110))) && (!decide ((((argv.getD (i_3').toNat default).getD (1 : Int).toNat 0).toNat : Int) = 99))))] ?_ (fun K0_169' hK_169' => ?_)
         rotate_left
         ·refine WL.split ((!decide ((((argv.getD (i_3').toNat default).getD (1 : Int).toNat 0).toNat : Int) = 98)) && (!decide ((((argv.getD (i_3').toNat default).getD (1 : Int).toNat 0).toNat : Int) = 110))) (fun hb => ?_) (fun hb => ?_)
          ·refine WL.set 93 rfl (congrArg zB hb) ?_
           refine wm ?_
           refine wv (OV.neq rfl rfl) ?_
           refine wv (OV.pickT rfl rfl) ?_
           refine WL.set 96 rfl (bT (v := !decide ((((argv.getD (i_3').toNat default).getD (1 : Int).toNat 0).toNat : Int) = 99)) hb) ?_
           exact WL.end_ (kg hK_169')
          ·refine WL.set 93 rfl (congrArg zB hb) ?_
           refine wk ?_
           refine wk ?_
           refine wv (OV.pickF rfl rfl) ?_
           refine WL.set 96 rfl (bF (v := !decide ((((argv.getD (i_3').toNat default).getD (1 : Int).toNat 0).toNat : Int) = 99)) hb) ?_
           exact WL.end_ (kg hK_169')
         refine wm ?_
         refine WL.cut 3 [(0, w), (2, zP b), (6, zP b_1'), (7, p5 w_1' 1 want_1'), (8, zP b_2'), (9, st seen_1'), (10, zB plain_1'), (11, zI i_3'), (12, st (argv.getD (i_3').toNat default)), (13, zU (((argv.getD (i_3').toNat default).getD (1 : Int).toNat 0).toNat : Int)), (100, zB ((((!decide ((((argv.getD (i_3').toNat default).getD (1 : Int).toNat 0).toNat : Int) = 98)) && (!decide ((((argv.getD (i_3').toNat default).getD (1 : Int).toNat 0).toNat : Int) = 110))) && (!decide ((((argv.getD (i_3').toNat default).getD (1 : Int).toNat 0).toNat : Int) = 99))) && (!decide ((((argv.getD (i_3').toNat default).getD (1 : Int).toNat 0).toNat : Int) = 111))))] ?_ (fun K0_170' hK_170' => ?_)
         rotate_left
         ·refine WL.split (((!decide ((((argv.getD (i_3').toNat default).getD (1 : Int).toNat 0).toNat : Int) = 98)) && (!decide ((((argv.getD (i_3').toNat default).getD (1 : Int).toNat 0).toNat : Int) = 110))) && (!decide ((((argv.getD (i_3').toNat default).getD (1 : Int).toNat 0).toNat : Int) = 99))) (fun hb => ?_) (fun hb => ?_)
          ·refine WL.set 97 rfl (congrArg zB hb) ?_
           refine wm ?_
           refine wv (OV.neq rfl rfl) ?_
           refine wv (OV.pickT rfl rfl) ?_
           refine WL.set 100 rfl (bT (v := !decide ((((argv.getD (i_3').toNat default).getD (1 : Int).toNat 0).toNat : Int) = 111)) hb) ?_
           exact WL.end_ (kg hK_170')
          ·refine WL.set 97 rfl (congrArg zB hb) ?_
           refine wk ?_
           refine wk ?_
           refine wv (OV.pickF rfl rfl) ?_
           refine WL.set 100 rfl (bF (v := !decide ((((argv.getD (i_3').toNat default).getD (1 : Int).toNat 0).toNat : Int) = 111)) hb) ?_
           exact WL.end_ (kg hK_170')
         refine WL.nil ?_
         refine kg (hK_167' [(0, w), (2, zP b), (6, zP b_1'), (7, p5 w_1' 1 want_1'), (8, zP b_2'), (9, st seen_1'), (10, zB plain_1'), (11, zI i_3'), (12, st (argv.getD (i_3').toNat default)), (13, zU (((argv.getD (i_3').toNat default).getD (1 : Int).toNat 0).toNat : Int)), (100, zB ((((!decide ((((argv.getD (i_3').toNat default).getD (1 : Int).toNat 0).toNat : Int) = 98)) && (!decide ((((argv.getD (i_3').toNat default).getD (1 : Int).toNat 0).toNat : Int) = 110))) && (!decide ((((argv.getD (i_3').toNat default).getD (1 : Int).toNat 0).toNat : Int) = 99))) && (!decide ((((argv.getD (i_3').toNat default).getD (1 : Int).toNat 0).toNat : Int) = 111))))] _ ?_)
         refine b9 (b := (((!decide ((((argv.getD (i_3').toNat default).getD (1 : Int).toNat 0).toNat : Int) = 98)) && (!decide ((((argv.getD (i_3').toNat default).getD (1 : Int).toNat 0).toNat : Int) = 110))) && (!decide ((((argv.getD (i_3').toNat default).getD (1 : Int).toNat 0).toNat : Int) = 99))) && (!decide ((((argv.getD (i_3').toNat default).getD (1 : Int).toNat 0).toNat : Int) = 111))) rfl (fun hb => ?_) (fun hb => ?_)
         ·replace h := j6 h hb
          refine a7 (fun _ hK_171' => ?_)
          refine a6 ?_
          refine wv (OV.loadR rfl (At.own 2 rfl) m2) ?_
          refine wm ?_
          refine WL.storeW (vs := [st [], st [], st [], st [], st [], zI 0, zI 0, zI 0, zI 0, zI 0, st []]) 3 rfl rfl rfl rfl rfl p4 rfl rfl rfl ?_
          refine wA ?_
          refine wA ?_
          refine wA ?_
          refine WL.nil ?_
          refine kg (hK_171' [(2, zP b), (3, zB true), (4, zI i_3'), (5, st ([117, 110, 107, 110, 111, 119, 110, 32, 111, 112, 116, 105, 111, 110] : List UInt8))] _ ?_)
          refine g7 ?_
          exact hE.ret [] rfl rfl (.inl ⟨_, _, _, _, _, _, _, _, _, _, _, _, _, _, h, rfl⟩) (l7.of4 rfl (RV.row rfl (At.own 3 rfl) m2) (RV.tmp rfl) (RV.tmp rfl) (RV.tmp rfl))
         ·replace h := j5 h hb
          refine b8 ?_
          refine kg (hK_166' [(0, w), (2, zP b), (6, zP b_1'), (7, p5 w_1' 1 want_1'), (8, zP b_2'), (9, st seen_1'), (10, zB plain_1'), (11, zI i_3'), (12, st (argv.getD (i_3').toNat default)), (13, zU (((argv.getD (i_3').toNat default).getD (1 : Int).toNat 0).toNat : Int))] _ ?_)
          refine a7 (fun _ hK_172' => ?_)
          refine a7 (fun _ hK_173' => ?_)
          refine a6 ?_
          refine wv (OV.fieldAddr0 rfl r9) ?_
          refine wv (OV.load rfl (At.own 0 rfl) rfl f7) ?_
          refine wm ?_
          obtain ⟨o_65', h⟩ := h
          refine WL.call (A := []) ajn rfl (akl c_0_1' (((argv.getD (i_3').toNat default).getD (1 : Int).toNat 0).toNat : Int) o_65') rfl trivial rfl rfl ?_
          refine wv (OV.not rfl) ?_
          refine WL.nil ?_
          refine kg (hK_173' [(0, w), (2, zP b), (6, zP b_1'), (7, p5 w_1' 1 want_1'), (8, zP b_2'), (9, st seen_1'), (10, zB plain_1'), (11, zI i_3'), (12, st (argv.getD (i_3').toNat default)), (13, zU (((argv.getD (i_3').toNat default).getD (1 : Int).toNat 0).toNat : Int)), (107, zB (!(ag4 c_0_1' (((argv.getD (i_3').toNat default).getD (1 : Int).toNat 0).toNat : Int))))] _ ?_)
          refine b9 (b := !(ag4 c_0_1' (((argv.getD (i_3').toNat default).getD (1 : Int).toNat 0).toNat : Int))) rfl (fun hb => ?_) (fun hb => ?_)
          ·replace h := j6 h hb
           refine a7 (fun _ hK_174' => ?_)
           refine a6 ?_
           refine wv (OV.loadR rfl (At.own 2 rfl) m2) ?_
           refine wm ?_
           refine WL.storeW (vs := [st [], st [], st [], st [], st [], zI 0, zI 0, zI 0, zI 0, zI 0, st []]) 3 rfl rfl rfl rfl rfl p4 rfl rfl rfl ?_
           refine wA ?_
           refine wA ?_
           refine wA ?_
           refine WL.nil ?_
           refine kg (hK_174' [(2, zP b), (3, zB true), (4, zI i_3'), (5, st ([111, 112, 116, 105, 111, 110, 32, 111, 117, 116, 32, 111, 102, 32, 112, 108, 97, 99, 101] : List UInt8))] _ ?_)
           refine g7 ?_
           exact hE.ret [] rfl rfl (.inl ⟨_, _, _, _, _, _, _, _, _, _, _, _, _, _, h, rfl⟩) (l7.of4 rfl (RV.row rfl (At.own 3 rfl) m2) (RV.tmp rfl) (RV.tmp rfl) (RV.tmp rfl))
          ·replace h := j5 h hb
           refine b8 ?_
           refine kg (hK_172' [(0, w), (2, zP b), (6, zP b_1'), (7, p5 w_1' 1 want_1'), (8, zP b_2'), (9, st seen_1'), (10, zB plain_1'), (11, zI i_3'), (12, st (argv.getD (i_3').toNat default)), (13, zU (((argv.getD (i_3').toNat default).getD (1 : Int).toNat 0).toNat : Int))] _ ?_)
           refine a7 (fun _ hK_175' => ?_)
           refine a7 (fun _ hK_176' => ?_)
           refine a6 ?_
           refine wA ?_
           refine WL.nil ?_
           refine kg (hK_176' [(0, w), (2, zP b), (6, zP b_1'), (7, p5 w_1' 1 want_1'), (8, zP b_2'), (9, st seen_1'), (10, zB plain_1'), (11, zI i_3'), (12, st (argv.getD (i_3').toNat default)), (13, zU (((argv.getD (i_3').toNat default).getD (1 : Int).toNat 0).toNat : Int)), (14, zI 0)] _ ?_)
           refine f9 ?_
           obtain ⟨Inv_3', mu_3', h0_3', hr_3'⟩ := h
           refine x1 (S := Int) (fun σ => Inv_3' σ) (fun σ => mu_3' σ) (fun σ => [(0, w), (2, zP b), (6, zP b_1'), (7, p5 w_1' 1 want_1'), (8, zP b_2'), (9, st seen_1'), (10, zB plain_1'), (11, zI i_3'), (12, st (argv.getD (i_3').toNat default)), (13, zU (((argv.getD (i_3').toNat default).getD (1 : Int).toNat 0).toNat : Int)), (14, zI σ)]) (fun σ => [HA.blk b_2' (.cells [st c_0_1', st c_1_1', st c_2_1', st c_3_1', st c_4_1', zI c_5_1', zI c_6_2', zI c_7_2', zI c_8_1', zI c_9_1', st c_10_1'].toArray 31 (0, 0)), HA.row w_1' 9 1 (m1 (argv.getD ((0 : Int)).toNat default)).length ((m1 (argv.getD ((0 : Int)).toNat default)).flatMap j3), HA.blk b_1' (.cells [st [], st [], st [], st [], st [], zI 0, zI 0, zI 0, zI 0, zI 0, st []].toArray 31 (0, 0)), HA.blk b (.cells [st [], st [], st [], st [], st [], zI 0, zI 0, zI 0, zI 0, zI 0, st []].toArray 31 (0, 0))]) 0 h0_3' ⟨rfl, rfl, rfl, rfl, rfl, rfl, rfl, rfl, rfl, rfl, rfl, trivial⟩ rfl ?_
           rintro k_5' hi K0_187' hK_187'
           have h := hr_3' k_5' hi
           show WC _ _ _ _ [(0, w), (2, zP b), (6, zP b_1'), (7, p5 w_1' 1 want_1'), (8, zP b_2'), (9, st seen_1'), (10, zB plain_1'), (11, zI i_3'), (12, st (argv.getD (i_3').toNat default)), (13, zU (((argv.getD (i_3').toNat default).getD (1 : Int).toNat 0).toNat : Int)), (14, zI k_5')] [HA.blk b_2' (.cells [st c_0_1', st c_1_1', st c_2_1', st c_3_1', st c_4_1', zI c_5_1', zI c_6_2', zI c_7_2', zI c_8_1', zI c_9_1', st c_10_1'].toArray 31 (0, 0)), HA.row w_1' 9 1 (m1 (argv.getD ((0 : Int)).toNat default)).length ((m1 (argv.getD ((0 : Int)).toNat default)).flatMap j3), HA.blk b_1' (.cells [st [], st [], st [], st [], st [], zI 0, zI 0, zI 0, zI 0, zI 0, st []].toArray 31 (0, 0)), HA.blk b (.cells [st [], st [], st [], st [], st [], zI 0, zI 0, zI 0, zI 0, zI 0, st []].toArray 31 (0, 0))]
           refine a7 (fun _ hK_188' => ?_)
           refine a7 (fun _ hK_189' => ?_)
           refine a6 ?_
           refine wm ?_
           refine wm ?_
           refine wv (OV.len rfl f8) ?_
           refine wv (OV.lss rfl rfl) ?_
           refine WL.nil ?_
           refine kg (hK_189' [(0, w), (2, zP b), (6, zP b_1'), (7, p5 w_1' 1 want_1'), (8, zP b_2'), (9, st seen_1'), (10, zB plain_1'), (11, zI i_3'), (12, st (argv.getD (i_3').toNat default)), (13, zU (((argv.getD (i_3').toNat default).getD (1 : Int).toNat 0).toNat : Int)), (14, zI k_5'), (113, zB (decide (k_5' < (seen_1'.length : Int))))] _ ?_)
           refine b9 (b := decide (k_5' < (seen_1'.length : Int))) rfl (fun hb => ?_) (fun hb => ?_)
           ·replace h := j6 h hb
            refine b8 ?_
            refine kg (hK_188' [(0, w), (2, zP b), (6, zP b_1'), (7, p5 w_1' 1 want_1'), (8, zP b_2'), (9, st seen_1'), (10, zB plain_1'), (11, zI i_3'), (12, st (argv.getD (i_3').toNat default)), (13, zU (((argv.getD (i_3').toNat default).getD (1 : Int).toNat 0).toNat : Int)), (14, zI k_5')] _ ?_)
            refine a7 (fun _ hK_190' => ?_)
            refine f9 ?_
            refine a7 (fun _ hK_191' => ?_)
            refine a6 ?_
            refine wm ?_
            refine wm ?_
            obtain ⟨o_69', h⟩ := h
            refine wv (OV.index rfl rfl f8 o_69') ?_
            refine wm ?_
            refine wv (OV.eql rfl rfl) ?_
            refine WL.nil ?_
            refine kg (hK_191' [(0, w), (2, zP b), (6, zP b_1'), (7, p5 w_1' 1 want_1'), (8, zP b_2'), (9, st seen_1'), (10, zB plain_1'), (11, zI i_3'), (12, st (argv.getD (i_3').toNat default)), (13, zU (((argv.getD (i_3').toNat default).getD (1 : Int).toNat 0).toNat : Int)), (14, zI k_5'), (120, zB (decide (((seen_1'.getD k_5'.toNat 0).toNat : Int) = (((argv.getD (i_3').toNat default).getD (1 : Int).toNat 0).toNat : Int))))] _ ?_)
            refine b9 (b := decide (((seen_1'.getD k_5'.toNat 0).toNat : Int) = (((argv.getD (i_3').toNat default).getD (1 : Int).toNat 0).toNat : Int))) rfl (fun hb => ?_) (fun hb => ?_)
            ·replace h := j6 h hb
             refine a7 (fun _ hK_192' => ?_)
             refine a6 ?_
             refine wv (OV.loadR rfl (At.own 2 rfl) m2) ?_
             refine wm ?_
             refine WL.storeW (vs := [st [], st [], st [], st [], st [], zI 0, zI 0, zI 0, zI 0, zI 0, st []]) 3 rfl rfl rfl rfl rfl p4 rfl rfl rfl ?_
             refine wA ?_
             refine wA ?_
             refine wA ?_
             refine WL.nil ?_
             refine kg (hK_192' [(2, zP b), (3, zB true), (4, zI i_3'), (5, st ([111, 112, 116, 105, 111, 110, 32, 116, 119, 105, 99, 101] : List UInt8))] _ ?_)
             refine g7 ?_
             exact hE.ret [] rfl rfl (.inl ⟨_, _, _, _, _, _, _, _, _, _, _, _, _, _, h, rfl⟩) (l7.of4 rfl (RV.row rfl (At.own 3 rfl) m2) (RV.tmp rfl) (RV.tmp rfl) (RV.tmp rfl))
            ·replace h := j5 h hb
             refine b8 ?_
             refine kg (hK_190' [(0, w), (2, zP b), (6, zP b_1'), (7, p5 w_1' 1 want_1'), (8, zP b_2'), (9, st seen_1'), (10, zB plain_1'), (11, zI i_3'), (12, st (argv.getD (i_3').toNat default)), (13, zU (((argv.getD (i_3').toNat default).getD (1 : Int).toNat 0).toNat : Int)), (14, zI k_5')] _ ?_)
             refine a6 ?_
             refine wm ?_
             obtain ⟨o_70', h⟩ := h
             refine wv (OV.add rfl rfl o_70') ?_
             refine wA ?_
             refine WL.nil ?_
             exact kh (hK_187' (k_5' + 1) h.1 h.2) [0, 1, 2, 3]
           ·replace h := j5 h hb
            refine s8 ?_
            refine kg (hK_175' [(0, w), (2, zP b), (6, zP b_1'), (7, p5 w_1' 1 want_1'), (8, zP b_2'), (9, st seen_1'), (10, zB plain_1'), (11, zI i_3'), (12, st (argv.getD (i_3').toNat default)), (13, zU (((argv.getD (i_3').toNat default).getD (1 : Int).toNat 0).toNat : Int))] _ ?_)
            refine a7 (fun _ hK_193' => ?_)
            refine a6 ?_
            refine wm ?_
            refine wm ?_
            refine WL.make (MV.buildSlice (cs := [zU (((argv.getD (i_3').toNat default).getD (1 : Int).toNat 0).toNat : Int)]) rfl aas (by kernel_rfl)) rfl rfl rfl (fun b_7' => ?_)
            refine WL.asRow (f := adl) (ms := [((argv.getD (i_3').toNat default).getD (1 : Int).toNat 0)]) 0 rfl rfl rfl ac1 rfl ?_
            refine wv (OV.bytesRow (l := [((argv.getD (i_3').toNat default).getD (1 : Int).toNat 0)]) 0 rfl rfl aas Tryd.underlying5 f8) ?_
            obtain ⟨o_71', h⟩ := h
            refine wv (OV.cat rfl rfl o_71') ?_
            refine wA ?_
            refine WL.nil ?_
            refine kg (hK_193' [(0, w), (2, zP b), (6, zP b_1'), (7, p5 w_1' 1 want_1'), (8, zP b_2'), (9, st (seen_1' ++ [((argv.getD (i_3').toNat default).getD (1 : Int).toNat 0)])), (10, zB plain_1'), (11, zI i_3'), (12, st (argv.getD (i_3').toNat default)), (13, zU (((argv.getD (i_3').toNat default).getD (1 : Int).toNat 0).toNat : Int))] _ ?_)
            refine a7 (fun _ hK_194' => ?_)
            refine a6 ?_
            refine wm ?_
            obtain ⟨o_72', h⟩ := h
            refine wv (OV.sliceL rfl rfl f8 o_72') ?_
            refine wA ?_
            refine WL.nil ?_
            refine kg (hK_194' [(0, w), (2, zP b), (6, zP b_1'), (7, p5 w_1' 1 want_1'), (8, zP b_2'), (9, st (seen_1' ++ [((argv.getD (i_3').toNat default).getD (1 : Int).toNat 0)])), (10, zB plain_1'), (11, zI i_3'), (13, zU (((argv.getD (i_3').toNat default).getD (1 : Int).toNat 0).toNat : Int)), (15, st ((argv.getD (i_3').toNat default).drop (2 : Int).toNat))] _ ?_)
            obtain ⟨J0_4', hJ_4', h⟩ := h
            refine q6 (X := Int × (List UInt8)) (fun σ => J0_4' σ.1 σ.2) (fun σ => [(0, w), (2, zP b), (6, zP b_1'), (7, p5 w_1' 1 want_1'), (8, zP b_2'), (9, st (seen_1' ++ [((argv.getD (i_3').toNat default).getD (1 : Int).toNat 0)])), (10, zB plain_1'), (11, zI σ.1), (13, zU (((argv.getD (i_3').toNat default).getD (1 : Int).toNat 0).toNat : Int)), (15, st σ.2)]) (fun σ => [HA.blk b_2' (.cells [st c_0_1', st c_1_1', st c_2_1', st c_3_1', st c_4_1', zI c_5_1', zI c_6_2', zI c_7_2', zI c_8_1', zI c_9_1', st c_10_1'].toArray 31 (0, 0)), HA.row w_1' 9 1 (m1 (argv.getD ((0 : Int)).toNat default)).length ((m1 (argv.getD ((0 : Int)).toNat default)).flatMap j3), HA.blk b_1' (.cells [st [], st [], st [], st [], st [], zI 0, zI 0, zI 0, zI 0, zI 0, st []].toArray 31 (0, 0)), HA.blk b (.cells [st [], st [], st [], st [], st [], zI 0, zI 0, zI 0, zI 0, zI 0, st []].toArray 31 (0, 0))]) ?_ (fun K0_200' hK_200' => ?_)
            ·rintro ⟨i_4', v_2'⟩ hj
             replace h := hJ_4' i_4' v_2' hj
             show WC _ _ _ _ [(0, w), (2, zP b), (6, zP b_1'), (7, p5 w_1' 1 want_1'), (8, zP b_2'), (9, st (seen_1' ++ [((argv.getD (i_3').toNat default).getD (1 : Int).toNat 0)])), (10, zB plain_1'), (11, zI i_4'), (13, zU (((argv.getD (i_3').toNat default).getD (1 : Int).toNat 0).toNat : Int)), (15, st v_2')] [HA.blk b_2' (.cells [st c_0_1', st c_1_1', st c_2_1', st c_3_1', st c_4_1', zI c_5_1', zI c_6_2', zI c_7_2', zI c_8_1', zI c_9_1', st c_10_1'].toArray 31 (0, 0)), HA.row w_1' 9 1 (m1 (argv.getD ((0 : Int)).toNat default)).length ((m1 (argv.getD ((0 : Int)).toNat default)).flatMap j3), HA.blk b_1' (.cells [st [], st [], st [], st [], st [], zI 0, zI 0, zI 0, zI 0, zI 0, st []].toArray 31 (0, 0)), HA.blk b (.cells [st [], st [], st [], st [], st [], zI 0, zI 0, zI 0, zI 0, zI 0, st []].toArray 31 (0, 0))]
             refine a7 (fun _ hK_201' => ?_)
             refine a7 (fun _ hK_202' => ?_)
             refine a6 ?_
             refine wm ?_
             refine WL.make (MV.buildSlice (cs := [zU (((argv.getD (i_3').toNat default).getD (1 : Int).toNat 0).toNat : Int)]) rfl aas (by kernel_rfl)) rfl rfl rfl (fun b_8' => ?_)
             refine WL.asRow (f := adl) (ms := [((argv.getD (i_3').toNat default).getD (1 : Int).toNat 0)]) 0 rfl rfl rfl ac1 rfl ?_
             refine wv (OV.bytesRow (l := [((argv.getD (i_3').toNat default).getD (1 : Int).toNat 0)]) 0 rfl rfl aas Tryd.underlying5 f8) ?_
             refine wm ?_
             refine WL.pick (H' := [HA.blk b_2' (.cells [st c_0_1', st c_1_1', st c_2_1', st c_3_1', st c_4_1', zI c_5_1', zI c_6_2', zI c_7_2', zI c_8_1', zI c_9_1', st c_10_1'].toArray 31 (0, 0)), HA.row (Value.slice (some ⟨b_8', 0, none⟩) 1 1) 5 1 [((argv.getD (i_3').toNat default).getD (1 : Int).toNat 0)].length ([((argv.getD (i_3').toNat default).getD (1 : Int).toNat 0)].flatMap adl), HA.row w_1' 9 1 (m1 (argv.getD ((0 : Int)).toNat default)).length ((m1 (argv.getD ((0 : Int)).toNat default)).flatMap j3), HA.blk b_1' (.cells [st [], st [], st [], st [], st [], zI 0, zI 0, zI 0, zI 0, zI 0, st []].toArray 31 (0, 0)), HA.blk b (.cells [st [], st [], st [], st [], st [], zI 0, zI 0, zI 0, zI 0, zI 0, st []].toArray 31 (0, 0))]) [1, 0, 2, 3, 4] rfl rfl ?_
             refine WL.callS ae4 rfl (agn b_2' [((argv.getD (i_3').toNat default).getD (1 : Int).toNat 0)] v_2' (c_0_1', c_1_1', c_2_1', c_3_1', c_4_1', c_5_1', c_6_2', c_7_2', c_8_1', c_9_1', c_10_1')) rfl trivial rfl rfl (fun r H' hS => ?_) (fun c H' hS => ?_)
             ·obtain ⟨ok_5', c_5', hc, ho⟩ := hS
              cases ho
              replace h := h ok_5' c_5' hc
              refine wv (OV.not rfl) ?_
              refine WL.nil ?_
              refine kg (hK_202' [(0, w), (2, zP b), (6, zP b_1'), (7, p5 w_1' 1 want_1'), (8, zP b_2'), (9, st (seen_1' ++ [((argv.getD (i_3').toNat default).getD (1 : Int).toNat 0)])), (10, zB plain_1'), (11, zI i_4'), (150, zB (!ok_5'))] _ ?_)
              refine b9 (b := !ok_5') rfl (fun hb => ?_) (fun hb => ?_)
              ·replace h := j6 h hb
               refine a7 (fun _ hK_203' => ?_)
               refine a6 ?_
               refine wv (OV.loadR rfl (At.own 3 rfl) m2) ?_
               refine wm ?_
               refine WL.storeW (vs := [st [], st [], st [], st [], st [], zI 0, zI 0, zI 0, zI 0, zI 0, st []]) 4 rfl rfl rfl rfl rfl p4 rfl rfl rfl ?_
               refine wA ?_
               refine wA ?_
               refine wA ?_
               refine WL.nil ?_
               refine kg (hK_203' [(2, zP b), (3, zB true), (4, zI i_4'), (5, st ([98, 97, 100, 32, 118, 97, 108, 117, 101] : List UInt8))] _ ?_)
               refine g7 ?_
               exact hE.ret [] rfl rfl (.inl ⟨_, _, _, _, _, _, _, _, _, _, _, _, _, _, h, rfl⟩) (l7.of4 rfl (RV.row rfl (At.own 4 rfl) m2) (RV.tmp rfl) (RV.tmp rfl) (RV.tmp rfl))
              ·replace h := j5 h hb
               refine b8 ?_
               refine kg (hK_201' [(0, w), (2, zP b), (6, zP b_1'), (7, p5 w_1' 1 want_1'), (8, zP b_2'), (9, st (seen_1' ++ [((argv.getD (i_3').toNat default).getD (1 : Int).toNat 0)])), (10, zB plain_1'), (11, zI i_4')] _ ?_)
               refine a6 ?_
               refine wm ?_
               obtain ⟨o_76', h⟩ := h
               refine wv (OV.add rfl rfl o_76') ?_
               refine wA ?_
               refine WL.nil ?_
               exact kh (hK_144' (want_1', seen_1' ++ [((argv.getD (i_3').toNat default).getD (1 : Int).toNat 0)], plain_1', i_4' + 1, c_5'.1, c_5'.2.1, c_5'.2.2.1, c_5'.2.2.2.1, c_5'.2.2.2.2.1, c_5'.2.2.2.2.2.1, c_5'.2.2.2.2.2.2.1, c_5'.2.2.2.2.2.2.2.1, c_5'.2.2.2.2.2.2.2.2.1, c_5'.2.2.2.2.2.2.2.2.2.1, c_5'.2.2.2.2.2.2.2.2.2.2) h.1 h.2) [0, 2, 3, 4]
             ·obtain ⟨ok_5', c_5', hc, ho⟩ := hS
              cases ho
            ·skip
             refine a7 (fun _ hK_204' => ?_)
             refine a6 ?_
             refine wm ?_
             refine wv (OV.eqlS rfl rfl) ?_
             refine WL.nil ?_
             refine kg (hK_204' [(0, w), (2, zP b), (6, zP b_1'), (7, p5 w_1' 1 want_1'), (8, zP b_2'), (9, st (seen_1' ++ [((argv.getD (i_3').toNat default).getD (1 : Int).toNat 0)])), (10, zB plain_1'), (11, zI i_3'), (13, zU (((argv.getD (i_3').toNat default).getD (1 : Int).toNat 0).toNat : Int)), (15, st ((argv.getD (i_3').toNat default).drop (2 : Int).toNat)), (131, zB (decide ((argv.getD (i_3').toNat default).drop (2 : Int).toNat = [])))] _ ?_)
             refine b9 (b := decide ((argv.getD (i_3').toNat default).drop (2 : Int).toNat = [])) rfl (fun hb => ?_) (fun hb => ?_)
             ·replace h := j6 h hb
              refine a7 (fun _ hK_205' => ?_)
              refine a7 (fun _ hK_206' => ?_)
              refine a6 ?_
              refine wm ?_
              obtain ⟨o_77', h⟩ := h
              refine wv (OV.add rfl rfl o_77') ?_
              refine wm ?_
              refine wv (OV.lenIn hi1 rfl f0) ?_
              refine wv (OV.eql rfl rfl) ?_
              refine WL.nil ?_
              refine kg (hK_206' [(0, w), (2, zP b), (6, zP b_1'), (7, p5 w_1' 1 want_1'), (8, zP b_2'), (9, st (seen_1' ++ [((argv.getD (i_3').toNat default).getD (1 : Int).toNat 0)])), (10, zB plain_1'), (11, zI i_3'), (13, zU (((argv.getD (i_3').toNat default).getD (1 : Int).toNat 0).toNat : Int)), (136, zB (decide (i_3' + 1 = (argv.length : Int))))] _ ?_)
              refine b9 (b := decide (i_3' + 1 = (argv.length : Int))) rfl (fun hb => ?_) (fun hb => ?_)
              ·replace h := j6 h hb
               refine a7 (fun _ hK_207' => ?_)
               refine a6 ?_
               refine wv (OV.loadR rfl (At.own 3 rfl) m2) ?_
               refine wm ?_
               refine WL.storeW (vs := [st [], st [], st [], st [], st [], zI 0, zI 0, zI 0, zI 0, zI 0, st []]) 4 rfl rfl rfl rfl rfl p4 rfl rfl rfl ?_
               refine wA ?_
               refine wA ?_
               refine wA ?_
               refine WL.nil ?_
               refine kg (hK_207' [(2, zP b), (3, zB true), (4, zI i_3'), (5, st ([111, 112, 116, 105, 111, 110, 32, 119, 105, 116, 104, 111, 117, 116, 32, 118, 97, 108, 117, 101] : List UInt8))] _ ?_)
               refine g7 ?_
               exact hE.ret [] rfl rfl (.inl ⟨_, _, _, _, _, _, _, _, _, _, _, _, _, _, h, rfl⟩) (l7.of4 rfl (RV.row rfl (At.own 4 rfl) m2) (RV.tmp rfl) (RV.tmp rfl) (RV.tmp rfl))
              ·replace h := j5 h hb
               refine b8 ?_
               refine kg (hK_205' [(0, w), (2, zP b), (6, zP b_1'), (7, p5 w_1' 1 want_1'), (8, zP b_2'), (9, st (seen_1' ++ [((argv.getD (i_3').toNat default).getD (1 : Int).toNat 0)])), (10, zB plain_1'), (11, zI i_3'), (13, zU (((argv.getD (i_3').toNat default).getD (1 : Int).toNat 0).toNat : Int))] _ ?_)
               refine a7 (fun _ hK_208' => ?_)
               refine a6 ?_
               refine wm ?_
               obtain ⟨o_78', h⟩ := h
               refine wv (OV.add rfl rfl o_78') ?_
               refine wA ?_
               refine WL.nil ?_
               refine kg (hK_208' [(0, w), (2, zP b), (6, zP b_1'), (7, p5 w_1' 1 want_1'), (8, zP b_2'), (9, st (seen_1' ++ [((argv.getD (i_3').toNat default).getD (1 : Int).toNat 0)])), (10, zB plain_1'), (11, zI (i_3' + 1)), (13, zU (((argv.getD (i_3').toNat default).getD (1 : Int).toNat 0).toNat : Int))] _ ?_)
               refine a6 ?_
               refine wm ?_
               refine wm ?_
               obtain ⟨o_79', h⟩ := h
               refine wv (OV.indexIn hi1 rfl rfl f0 o_79') ?_
               refine wv (OV.loadInE1 (f := j3) hi1 rfl i6 (by omega) rfl f7) ?_
               refine wA ?_
               refine WL.nil ?_
               exact kh (hK_200' (i_3' + 1, (argv.getD ((i_3' + 1)).toNat default)) h) [1, 2, 3, 4]
             ·replace h := j5 h hb
              refine b8 ?_
              exact kh (hK_200' (i_3', (argv.getD (i_3').toNat default).drop (2 : Int).toNat) h) [1, 2, 3, 4]
      ·replace h := j5 h hb
       refine s8 ?_
       refine kg (hK_17' [(0, w), (2, zP b), (6, zP b_1'), (7, p5 w_1' 1 want_1'), (8, zP b_2')] _ ?_)
       refine a7 (fun _ hK_209' => ?_)
       refine a7 (fun _ hK_210' => ?_)
       refine a6 ?_
       refine wm ?_
       obtain ⟨o_80', h⟩ := h
       refine wv (OV.lenSuf 1 rfl rfl f0 o_80') ?_
       refine wv (OV.gtr rfl rfl) ?_
       refine WL.nil ?_
       refine kg (hK_210' [(0, w), (2, zP b), (6, zP b_1'), (8, zP b_2'), (157, zB (decide (0 < (((m1 (argv.getD ((0 : Int)).toNat default)).length - want_1' : Nat) : Int))))] _ ?_)
       refine b9 (b := decide (0 < (((m1 (argv.getD ((0 : Int)).toNat default)).length - want_1' : Nat) : Int))) rfl (fun hb => ?_) (fun hb => ?_)
       ·replace h := j6 h hb
        refine a7 (fun _ hK_211' => ?_)
        refine a6 ?_
        refine wv (OV.loadR rfl (At.own 2 rfl) m2) ?_
        refine wm ?_
        refine wv (OV.lenIn hi1 rfl f0) ?_
        refine WL.storeW (vs := [st [], st [], st [], st [], st [], zI 0, zI 0, zI 0, zI 0, zI 0, st []]) 3 rfl rfl rfl rfl rfl p4 rfl rfl rfl ?_
        refine wA ?_
        refine wA ?_
        refine wA ?_
        refine WL.nil ?_
        refine kg (hK_211' [(2, zP b), (3, zB true), (4, zI (argv.length : Int)), (5, st ([109, 105, 115, 115, 105, 110, 103, 32, 111, 112, 101, 114, 97, 110, 100] : List UInt8))] _ ?_)
        refine g7 ?_
        exact hE.ret [] rfl rfl (.inl ⟨_, _, _, _, _, _, _, _, _, _, _, _, _, _, h, rfl⟩) (l7.of4 rfl (RV.row rfl (At.own 3 rfl) m2) (RV.tmp rfl) (RV.tmp rfl) (RV.tmp rfl))
       ·replace h := j5 h hb
        refine b8 ?_
        refine kg (hK_209' [(2, zP b), (8, zP b_2')] _ ?_)
        refine a7 (fun _ hK_212' => ?_)
        refine a6 ?_
        refine wv (OV.loadR rfl (At.own 0 rfl) m2) ?_
        refine WL.storeW (vs := [st c_0_1', st c_1_1', st c_2_1', st c_3_1', st c_4_1', zI c_5_1', zI c_6_2', zI c_7_2', zI c_8_1', zI c_9_1', st c_10_1']) 3 rfl rfl rfl rfl rfl p4 rfl rfl rfl ?_
        refine wA ?_
        refine wA ?_
        refine wA ?_
        refine WL.nil ?_
        refine kg (hK_212' [(2, zP b), (3, zB false), (4, zI 0), (5, st [])] _ ?_)
        refine g7 ?_
        exact hE.ret [] rfl rfl (.inl ⟨_, _, _, _, _, _, _, _, _, _, _, _, _, _, h, rfl⟩) (l7.of4 rfl (RV.row rfl (At.own 3 rfl) m2) (RV.tmp rfl) (RV.tmp rfl) (RV.tmp rfl))
     ·skip
      refine a7 (fun _ hK_213' => ?_)
      refine a6 ?_
      refine wv (OV.fieldAddr0 rfl r9) ?_
      refine wv (OV.load rfl (At.own 0 rfl) rfl f7) ?_
      refine wv (OV.eqlS rfl rfl) ?_
      refine WL.nil ?_
      refine kg (hK_213' [(0, w), (2, zP b), (6, zP b_1'), (7, w_1'), (8, zP b_2'), (39, zB (decide ((argv.getD ((0 : Int)).toNat default) = ([115, 116, 114, 101, 97, 109] : List UInt8))))] _ ?_)
      refine b9 (b := decide ((argv.getD ((0 : Int)).toNat default) = ([115, 116, 114, 101, 97, 109] : List UInt8))) rfl (fun hb => ?_) (fun hb => ?_)
      ·replace h := j6 h hb
       refine a6 ?_
       refine wv (OV.fieldAddr0 rfl aaq) ?_
       refine WL.store (vs := [zI 16]) (cs' := [st (argv.getD ((0 : Int)).toNat default), st [], st [], st [], st [], zI 1024, zI c_6, zI 16, zI 0, zI 0, st []]) 0 rfl rfl rfl rfl m8 (Nat.le_of_ble_eq_true rfl) rfl rfl rfl ?_
       refine WL.nil ?_
       exact kh (hK_13' 16 h) [0, 1, 2, 3]
      ·replace h := j5 h hb
       refine b8 ?_
       exact kh (hK_13' 0 h) [0, 1, 2, 3]
    ·skip
     refine a7 (fun _ hK_214' => ?_)
     refine a6 ?_
     refine wv (OV.fieldAddr0 rfl r9) ?_
     refine wv (OV.load rfl (At.own 0 rfl) rfl f7) ?_
     refine wv (OV.eqlS rfl rfl) ?_
     refine WL.nil ?_
     refine kg (hK_214' [(0, w), (2, zP b), (6, zP b_1'), (7, w_1'), (8, zP b_2'), (35, zB (decide ((argv.getD ((0 : Int)).toNat default) = ([119, 111, 114, 100, 115] : List UInt8))))] _ ?_)
     refine b9 (b := decide ((argv.getD ((0 : Int)).toNat default) = ([119, 111, 114, 100, 115] : List UInt8))) rfl (fun hb => ?_) (fun hb => ?_)
     ·replace h := j6 h hb
      refine a6 ?_
      refine wv (OV.fieldAddr0 rfl aal) ?_
      refine WL.store (vs := [zI 10]) (cs' := [st (argv.getD ((0 : Int)).toNat default), st [], st [], st [], st [], zI 1024, zI 10, zI 0, zI 0, zI 0, st []]) 0 rfl rfl rfl rfl m8 (Nat.le_of_ble_eq_true rfl) rfl rfl rfl ?_
      refine WL.nil ?_
      exact kh (hK_11' 10 h) [0, 1, 2, 3]
     ·replace h := j5 h hb
      refine b8 ?_
      exact kh (hK_11' 0 h) [0, 1, 2, 3]
  ·obtain ⟨w_1', ho⟩ := hS
   cases ho
def ai3 (seen : Bs) : List Int := (seen.map fun c => ((c.toNat : Nat) : Int)).reverse
theorem aiw (s : Bs) (c : UInt8) : ai3 (s ++ [c]) = ((c.toNat : Nat) : Int) :: ai3 s := by simp [ai3]
theorem ady {s : Bs} {c : UInt8} : 0 < (ai3 s).count ((c.toNat : Nat) : Int) ↔ c ∈ s := by
 rw [List.count_pos_iff, ai3, List.mem_reverse, List.mem_map]
 constructor
 ·rintro ⟨d, hd, e⟩
  have : d = c := UInt8.toNat_inj.1 (by exact_mod_cast e)
  exact this ▸ hd
 ·exact fun h => ⟨c, h, rfl⟩
def mkP (nm : Bs) (c : CmT) (i : Int) (k : Nat) : PS := ⟨c.1, c.2.1, c.2.2.1, c.2.2.2.1, c.2.2.2.2.1, c.2.2.2.2.2.1, c.2.2.2.2.2.2.1, c.2.2.2.2.2.2.2.1, c.2.2.2.2.2.2.2.2.1, c.2.2.2.2.2.2.2.2.2.1, c.2.2.2.2.2.2.2.2.2.2, (a8 nm).1, (a8 nm).2.1, (a8 nm).2.2, i, (k : Int)⟩
def z7 (l : UInt8) : Bs := if l = 108 then abe else if l = 118 then adh else if l = 115 then y4 else if l = 97 then fAt else if l = 100 then alr else if l = 116 then ad5 else []
theorem adw {nm : Bs} (h : u2 nm = true) : a8 nm ∈ shapes ∧ (a8 nm).1 = nm := by
 unfold u2 at h
 obtain ⟨s, hs⟩ := Option.isSome_iff_exists.1 h
 have e : a8 nm = s := by unfold a8; rw [hs]; rfl
 rw [e]
 exact ⟨List.mem_of_find?_eq_some hs, by simpa using List.find?_some hs⟩
theorem afz {nm : Bs} (h : u2 nm = true) : m1 nm = (a8 nm).2.1.map z7 ∧ (∀ l ∈ (a8 nm).2.1, l ∈ ([108, 118, 115, 97, 100, 116] : Bs)) ∧ m1 nm ≠ [] := by
 obtain ⟨h1, h2⟩ := adw h
 have := (by decide : ∀ s ∈ shapes, m1 s.1 = s.2.1.map z7 ∧ (∀ l ∈ s.2.1, l ∈ ([108, 118, 115, 97, 100, 116] : Bs)) ∧ m1 s.1 ≠ []) _ h1
 rw [h2] at this
 exact this
theorem al7 {nm : Bs} (h : u2 nm = true) : ∀ x ∈ ([98, 110, 99, 111] : List Int), ag4 nm x = !decide (ixB (a8 nm).2.2 x < 0) := by
 obtain ⟨h1, h2⟩ := adw h
 have := (by decide : ∀ s ∈ shapes, ∀ x ∈ ([98, 110, 99, 111] : List Int), ag4 s.1 x = !decide (ixB s.2.2 x < 0)) _ h1
 rw [h2] at this
 exact this
theorem aku {nm : Bs} (h : u2 nm = false) : m1 nm = [] := by
 have hn : ∀ s ∈ shapes, nm ≠ s.1 := by
  intro s hs e
  unfold u2 at h
  cases hq : shapes.find? (fun s => decide (s.1 = nm)) with
  | some _ => rw [hq] at h; cases h
  | none => exact absurd e.symm (by simpa using List.find?_eq_none.1 hq s hs)
 simp only [shapes, List.forall_mem_cons] at hn
 obtain ⟨n0, n1, n2, n3, n4, n5, n6, n7, n8, n9, _⟩ := hn
 unfold m1
 simp [n0, n1, n2, n3, n4, n5, n6, n7, n8, n9]
theorem ael {v : Bs} (h : l8 v = true) : k7 v = j4 v ∧ 0 ≤ k7 v := by
 unfold k7 j4
 rw [if_pos h, if_pos h]
 exact ⟨rfl, by unfold acz; omega⟩
theorem af4 {v : Bs} (h : l8 v = false) : k7 v = -1 := by
 unfold k7
 rw [if_neg (by rw [h]; decide)]
theorem agy {f v : Bs} {c c2 : CmT} {ok : Bool} (h : af7 f v c = (ok, c2)) : c2.1 = c.1 := by
 obtain ⟨c0, c1, d2, c3, c4, c5, c6, c7, c8, c9, c10⟩ := c
 have : (af7 f v (c0, c1, d2, c3, c4, c5, c6, c7, c8, c9, c10)).2.1 = c0 := by
  simp only [af7]
  (repeat' split) <;> rfl
 rw [h] at this
 exact this
theorem alg {nm : Bs} {i : Int} {k : Nat} {l : UInt8} (hl : l ∈ ([108, 118, 115, 97, 100, 116] : Bs)) {a : Bs} {c c2 : CmT} {ok : Bool} (h : af7 (z7 l) a c = (ok, c2)) :
  (ok = true → ¬ ((((l.toNat : Nat) : Int) = 97 ∨ ((l.toNat : Nat) : Int) = 100) ∧ l8 a = false) ∧ y5 ((l.toNat : Nat) : Int) a (mkP nm c i k) = mkP nm c2 i k) ∧
  (ok = false → (((l.toNat : Nat) : Int) = 97 ∨ ((l.toNat : Nat) : Int) = 100) ∧ l8 a = false) := by
 obtain ⟨c0, c1, d2, c3, c4, c5, c6, c7, c8, c9, c10⟩ := c
 simp only [List.mem_cons, List.mem_nil_iff, or_false] at hl
 rcases hl with rfl | rfl | rfl | rfl | rfl | rfl
 ·obtain ⟨rfl, rfl⟩ := Prod.mk.inj (show (true, (c0, a, d2, c3, c4, c5, c6, c7, c8, c9, c10)) = (ok, c2) from h)
  exact ⟨fun _ => ⟨fun h => absurd h.1 (by decide), rfl⟩, fun h => by cases h⟩
 ·obtain ⟨rfl, rfl⟩ := Prod.mk.inj (show (true, (c0, c1, a, c3, c4, c5, c6, c7, c8, c9, c10)) = (ok, c2) from h)
  exact ⟨fun _ => ⟨fun h => absurd h.1 (by decide), rfl⟩, fun h => by cases h⟩
 ·obtain ⟨rfl, rfl⟩ := Prod.mk.inj (show (true, (c0, c1, d2, a, c4, c5, c6, c7, c8, c9, c10)) = (ok, c2) from h)
  exact ⟨fun _ => ⟨fun h => absurd h.1 (by decide), rfl⟩, fun h => by cases h⟩
 ·obtain ⟨rfl, rfl⟩ := Prod.mk.inj (show (decide (0 ≤ k7 a), (c0, c1, d2, c3, c4, c5, c6, c7, k7 a, c9, c10)) = (ok, c2) from h)
  cases hn : l8 a with
  | true =>
   obtain ⟨r1, r2⟩ := ael hn
   refine ⟨fun _ => ⟨fun h => Bool.noConfusion h.2, ?_⟩, fun h => by rw [decide_eq_false_iff_not] at h; exact absurd r2 h⟩
   rw [r1]; rfl
  | false => exact ⟨fun h => by rw [af4 hn] at h; exact absurd h (by decide), fun _ => ⟨.inl rfl, rfl⟩⟩
 ·obtain ⟨rfl, rfl⟩ := Prod.mk.inj (show (decide (0 ≤ k7 a), (c0, c1, d2, c3, c4, c5, c6, c7, c8, k7 a, c10)) = (ok, c2) from h)
  cases hn : l8 a with
  | true =>
   obtain ⟨r1, r2⟩ := ael hn
   refine ⟨fun _ => ⟨fun h => Bool.noConfusion h.2, ?_⟩, fun h => by rw [decide_eq_false_iff_not] at h; exact absurd r2 h⟩
   rw [r1]; rfl
  | false => exact ⟨fun h => by rw [af4 hn] at h; exact absurd h (by decide), fun _ => ⟨.inr rfl, rfl⟩⟩
 ·obtain ⟨rfl, rfl⟩ := Prod.mk.inj (show (true, (c0, c1, d2, c3, c4, c5, c6, c7, c8, c9, a)) = (ok, c2) from h)
  exact ⟨fun _ => ⟨fun h => absurd h.1 (by decide), rfl⟩, fun h => by cases h⟩
theorem aho {v : Bs} {a b : Int} (ha : 0 ≤ a) : ((decide (a ≤ k7 v)) && (decide (k7 v ≤ b))) = (((l8 v) && (decide (a ≤ j4 v))) && (decide (j4 v ≤ b))) ∧ (((decide (a ≤ k7 v)) && (decide (k7 v ≤ b))) = true → k7 v = j4 v) := by
 cases hn : l8 v with
 | true => rw [(ael hn).1]; simp
 | false =>
  rw [af4 hn]
  have : ¬ a ≤ -1 := by omega
  simp [this]
theorem alu {nm : Bs} {i : Int} {k : Nat} {x : UInt8} (hx : x ∈ ([98, 110, 99, 111] : Bs)) {v : Bs} {c c2 : CmT} {ok : Bool} (h : af7 [x] v c = (ok, c2)) :
  ∃ q, w1 ((x.toNat : Nat) : Int) v (mkP nm c i k) = (ok, q) ∧ (ok = true → q = mkP nm c2 i k) ∧ q.at1 = i := by
 obtain ⟨c0, c1, d2, c3, c4, c5, c6, c7, c8, c9, c10⟩ := c
 simp only [List.mem_cons, List.mem_nil_iff, or_false] at hx
 rcases hx with rfl | rfl | rfl | rfl
 ·obtain ⟨rfl, rfl⟩ := Prod.mk.inj (show ((decide (1 ≤ k7 v)) && (decide (k7 v ≤ 4096)), (c0, c1, d2, c3, c4, k7 v, c6, c7, c8, c9, c10)) = (ok, c2) from h)
  obtain ⟨r1, r2⟩ := aho (v := v) (a := 1) (b := 4096) (by decide)
  exact ⟨_, Prod.ext r1.symm rfl, fun h => by rw [r2 h]; rfl, rfl⟩
 ·obtain ⟨rfl, rfl⟩ := Prod.mk.inj (show ((decide (0 ≤ k7 v)) && (decide (k7 v ≤ 100)), (c0, c1, d2, c3, c4, c5, k7 v, c7, c8, c9, c10)) = (ok, c2) from h)
  obtain ⟨r1, r2⟩ := aho (v := v) (a := 0) (b := 100) (by decide)
  exact ⟨_, Prod.ext r1.symm rfl, fun h => by rw [r2 h]; rfl, rfl⟩
 ·obtain ⟨rfl, rfl⟩ := Prod.mk.inj (show ((decide (1 ≤ k7 v)) && (decide (k7 v ≤ 16384)), (c0, c1, d2, c3, c4, c5, c6, k7 v, c8, c9, c10)) = (ok, c2) from h)
  obtain ⟨r1, r2⟩ := aho (v := v) (a := 1) (b := 16384) (by decide)
  exact ⟨_, Prod.ext r1.symm rfl, fun h => by rw [r2 h]; rfl, rfl⟩
 ·obtain ⟨rfl, rfl⟩ := Prod.mk.inj (show (!decide (v = []), (c0, c1, d2, c3, v, c5, c6, c7, c8, c9, c10)) = (ok, c2) from h)
  exact ⟨_, rfl, fun _ => rfl, rfl⟩
section
variable {av : List Bs} {f : Nat} {plain : Bool} {q : PS} {sl : List Int}
theorem afq (h1 : q.at1 < av.length) (hp : plain = false) (ha : i7 av q.at1 = [45, 45]) : goM av (f + 1) plain q sl = goM av f true { q with at1 := q.at1 + 1 } sl := by
 subst hp
 rw [goM, if_pos h1, if_pos ⟨rfl, ha⟩]
theorem ajy (h1 : q.at1 < av.length) (hm : ¬ (plain = false ∧ i7 av q.at1 = [45, 45])) (ho : plain = false ∧ 1 < (i7 av q.at1).length ∧ ((i7 av q.at1).getD 0 0).toNat = 45) :
  goM av (f + 1) plain q sl = match abf av q sl with
   | .error e => .error e
   | .ok (q2, sl2) => goM av f plain q2 sl2 := by
 rw [goM, if_pos h1, if_neg (fun h => hm ⟨by simpa using h.1, h.2⟩), if_pos ⟨by simpa using ho.1, ho.2⟩]
 rfl
theorem ajx (h1 : q.at1 < av.length) (hm : ¬ (plain = false ∧ i7 av q.at1 = [45, 45])) (ho : ¬ (plain = false ∧ 1 < (i7 av q.at1).length ∧ ((i7 av q.at1).getD 0 0).toNat = 45)) :
  goM av (f + 1) plain q sl = match abg av q with
   | .error e => .error e
   | .ok q2 => goM av f plain q2 sl := by
 rw [goM, if_pos h1, if_neg (fun h => hm ⟨by simpa using h.1, h.2⟩), if_neg (fun h => ho ⟨by simpa using h.1, h.2⟩)]
 rfl
theorem ahy (h1 : ¬ q.at1 < av.length) : goM av f plain q sl = if q.got < q.sops.length then .error (av.length, acw) else .ok q := by
 cases f with
 | zero => rw [goM]
 | succ f => rw [goM, if_neg h1]
end
def aat (av : List Bs) : Bool := match w9 av ps0 with
 | .ok _ => false
 | .error _ => true
def PK (av : List Bs) (d0 d1 d2 d3 d4 : Bs) (d5 d6 d7 d8 d9 : Int) (d10 : Bs) (n : Bool) (a : Int) (w : Bs) : Prop := (d0, d1, d2, d3, d4, d5, d6, d7, d8, d9, d10) = b6 av ∧ n = aat av ∧ a = (m4 av).2.1 ∧ w = (m4 av).2.2
theorem aaj {av : List Bs} {a : Int} {w : Bs} (h : w9 av ps0 = .error (a, w)) : PK av [] [] [] [] [] 0 0 0 0 0 [] true a w := by
 unfold PK b6 aat m4
 rw [h]
 exact ⟨rfl, rfl, rfl, rfl⟩
theorem aem (av : List Bs) : q9 av ps0 = mkP (i7 av 0) (i7 av 0, [], [], [], [], 1024, (q9 av ps0).count, (q9 av ps0).chunk, 0, 0, []) 1 0 := by
 unfold q9
 dsimp only
 split
 ·rfl
 ·split <;> rfl
theorem abm (av : List Bs) : (q9 av ps0).count = if i7 av 0 = [119, 111, 114, 100, 115] then 10 else 0 := by
 unfold q9
 dsimp only
 split
 ·rfl
 ·split <;> rfl
theorem abp (av : List Bs) : (q9 av ps0).chunk = if i7 av 0 = [115, 116, 114, 101, 97, 109] then 16 else 0 := by
 unfold q9
 dsimp only
 split
 ·rename_i h
  rw [if_neg (by rw [h]; decide)]; rfl
 ·split <;> rfl
theorem aif {x : UInt8} : x ∈ ([98, 110, 99, 111] : Bs) ↔ ¬ ixB [98, 110, 99, 111] ((x.toNat : Nat) : Int) < 0 := by
 have h := (by decide : ∀ n, n < 256 → ((UInt8.ofNat n) ∈ ([98, 110, 99, 111] : Bs) ↔ ¬ ixB [98, 110, 99, 111] (((UInt8.ofNat n).toNat : Nat) : Int) < 0)) x.toNat x.toNat_lt
 rwa [UInt8.ofNat_toNat] at h
theorem ahb {av : List Bs} {q : PS} {sl : List Int} {x : UInt8} (hx : (i7 av q.at1).getD 1 0 = x) (h : x ∉ ([98, 110, 99, 111] : Bs)) : abf av q sl = .error (q.at1, ad7) := by
 unfold abf
 simp only [hx]
 rw [if_pos]
 exact Decidable.of_not_not (fun hn => h (aif.2 hn))
theorem ah1 {av : List Bs} {q : PS} {sl : List Int} {x : UInt8} (hx : (i7 av q.at1).getD 1 0 = x) (h : x ∈ ([98, 110, 99, 111] : Bs)) :
  abf av q sl = if ixB q.sopts ((x.toNat : Nat) : Int) < 0 then .error (q.at1, ah4)
   else if 0 < sl.count ((x.toNat : Nat) : Int) then .error (q.at1, ahh)
   else match acn av q with
    | .error e => .error e
    | .ok (v, p) => if (w1 ((x.toNat : Nat) : Int) v p).1 = true then .ok ({ (w1 ((x.toNat : Nat) : Int) v p).2 with at1 := (w1 ((x.toNat : Nat) : Int) v p).2.at1 + 1 }, ((x.toNat : Nat) : Int) :: sl) else .error ((w1 ((x.toNat : Nat) : Int) v p).2.at1, air) := by
 unfold abf
 simp only [hx]
 rw [if_neg (aif.1 h)]
 rfl
theorem ag3 (v : Value) (av : List Bs) (hb : AvB av) (R : List (Nat × Obj)) (hR : w8 v R av.length (av.flatMap j3)) :
  j8 Tryd.prog 8 [v] (R ++ []) [] (Ret (.tuple #[.agg (cmL (b6 av)).toArray, .bool (aat av), .int .i64 (m4 av).2.1, st (m4 av).2.2]) []) := by
 refine (ai1 v av R hR (PK av) ?_).weak ?_
 rotate_left
 ·rintro o (⟨d0, d1, d2, d3, d4, d5, d6, d7, d8, d9, d10, n, a, w, ⟨h, rfl, rfl, rfl⟩, rfl⟩ | h)
  ·rw [← h]; rfl
  ·cases h
 have hl := hb.1
 unfold adb
 by_cases h0 : av.length = 0
 ·rw [if_pos (by rw [decide_eq_true_eq]; omega)]
  exact aaj (by unfold w9; rw [if_pos h0])
 rw [if_neg (by rw [decide_eq_true_eq]; omega)]
 refine ⟨⟨by omega, by omega⟩, ?_⟩
 rw [show av.getD ((0 : Int)).toNat default = i7 av 0 from rfl]
 cases hc : u2 (i7 av 0) with
 | false =>
  rw [if_pos (by rw [decide_eq_true_eq, aku hc]; rfl)]
  exact aaj (by unfold w9; rw [if_neg h0, if_pos hc])
 | true =>
 obtain ⟨o1, o2, o3⟩ := afz hc
 have hch := al7 hc
 have hall : w9 av ps0 = goM av av.length false (q9 av ps0) [] := by
  unfold w9; rw [if_neg h0, if_neg (by rw [hc]; decide)]
 have hst := aem av
 have hscn := abm av
 have hsch := abp av
 generalize i7 av 0 = nm at o1 o2 o3 hch hst hscn hsch ⊢
 have olen : (m1 nm).length = (a8 nm).2.1.length := by rw [o1, List.length_map]
 rw [if_neg (by rw [decide_eq_true_eq]; intro h; exact o3 (List.eq_nil_of_length_eq_zero (by omega)))]
 refine ⟨⟨by omega, by omega⟩, fun c => c = (q9 av ps0).count, fun c6 h6 => ⟨fun c => c = (q9 av ps0).chunk, fun c7 h7 => ?_, ?_⟩, ?_⟩
 rotate_left
 ·rw [hsch]
  split
  ·rename_i h; rw [decide_eq_true_eq] at h; rw [if_pos h]
  ·rename_i h; rw [decide_eq_true_eq] at h; rw [if_neg h]
 ·rw [hscn]
  split
  ·rename_i h; rw [decide_eq_true_eq] at h; rw [if_pos h]
  ·rename_i h; rw [decide_eq_true_eq] at h; rw [if_neg h]
 refine ⟨fun k seen plain i d0 d1 d2 d3 d4 d5 d6 d7 d8 d9 d10 => ∃ f : Nat, (av.length : Int) ≤ f + i ∧ 1 ≤ i ∧ i ≤ av.length ∧ k ≤ (m1 nm).length ∧ d0 = nm ∧ (seen.length : Int) ≤ i ∧ goM av f plain (mkP nm (d0, d1, d2, d3, d4, d5, d6, d7, d8, d9, d10) i k) (ai3 seen) = w9 av ps0,
  fun _ _ _ i _ _ _ _ _ _ _ _ _ _ _ => (av.length - i).toNat, ⟨av.length, by omega, by omega, by omega, by omega, rfl, by simp, ?_⟩, fun k seen plain i d0 d1 d2 d3 d4 d5 d6 d7 d8 d9 d10 ⟨f, hf, i1, i2, hk, hd0, hs, hg⟩ => ?_⟩
 ·rw [hall, h6, h7]
  exact congrArg (fun q => goM av av.length false q []) hst.symm
 replace hd0 := hd0.symm
 subst hd0
 by_cases hi : i < av.length
 ·rw [if_pos (by rw [decide_eq_true_eq]; exact hi)]
  obtain ⟨f, rfl⟩ : ∃ g, f = g + 1 := ⟨f - 1, by omega⟩
  refine ⟨⟨by omega, hi⟩, ?_⟩
  rw [show av.getD i.toNat default = i7 av i from rfl]
  have hal := hb.at i
  by_cases hm : plain = false ∧ i7 av i = [45, 45]
  ·rw [if_pos (by rw [hm.1, hm.2]; rfl)]
   refine ⟨by unfold I64; omega, ⟨f, by omega, by omega, by omega, hk, rfl, by omega, ?_⟩, by dsimp only; omega⟩
   rw [← hg, afq (q := mkP nm _ i k) hi hm.1 hm.2]
   rfl
  rw [if_neg (by rw [Bool.and_eq_true, Bool.not_eq_true', decide_eq_true_eq]; exact hm)]
  refine ⟨fun h => by
   rw [Bool.or_eq_false_iff, decide_eq_false_iff_not] at h; omega, ?_⟩
  by_cases ho : plain = false ∧ 1 < (i7 av i).length ∧ ((i7 av i).getD 0 0).toNat = 45
  ·rw [if_neg (by
    rw [Bool.or_eq_true, Bool.or_eq_true, decide_eq_true_eq, Bool.not_eq_true', decide_eq_false_iff_not]
    rintro ((h | h) | h)
    ·rw [ho.1] at h; cases h
    ·omega
    ·exact h (by exact_mod_cast ho.2.2))]
   rw [ajy (q := mkP nm _ i k) hi hm ho] at hg
   refine ⟨⟨by omega, by omega⟩, ?_⟩
   rw [show (1 : Int).toNat = 1 from rfl]
   have hxq : (i7 av (mkP nm (nm, d1, d2, d3, d4, d5, d6, d7, d8, d9, d10) i k).at1).getD 1 0 = (i7 av i).getD 1 0 := rfl
   generalize hx : (i7 av i).getD 1 0 = x at hxq ⊢
   by_cases hx4 : x ∈ ([98, 110, 99, 111] : Bs)
   ·rw [if_neg (by
     simp only [List.mem_cons, List.mem_nil_iff, or_false] at hx4
     rcases hx4 with rfl | rfl | rfl | rfl <;> decide)]
    rw [ah1 hxq hx4] at hg
    have hxi : ((x.toNat : Nat) : Int) ∈ ([98, 110, 99, 111] : List Int) := by
     simp only [List.mem_cons, List.mem_nil_iff, or_false] at hx4
     rcases hx4 with rfl | rfl | rfl | rfl <;> decide
    refine ⟨⟨by omega, by have := x.toNat_lt; omega⟩, ?_⟩
    rw [hch _ hxi, Bool.not_not]
    by_cases hpl : ixB (a8 nm).2.2 ((x.toNat : Nat) : Int) < 0
    ·rw [if_pos (decide_eq_true hpl)]
     exact aaj (hg.symm.trans (by rw [if_pos (show ixB (mkP nm _ i k).sopts _ < 0 from hpl)]; rfl))
    rw [if_neg (by rw [decide_eq_true_eq]; exact hpl)]
    rw [if_neg (show ¬ ixB (mkP nm _ i k).sopts _ < 0 from hpl)] at hg
    refine ⟨fun j => 0 ≤ j ∧ j ≤ seen.length ∧ ∀ n : Nat, (n : Int) < j → seen.getD n 0 ≠ x, fun j => (seen.length - j).toNat, ⟨by omega, by omega, fun n hn => by omega⟩, fun j ⟨j0, j1, j2⟩ => ?_⟩
    by_cases hj : j < seen.length
    ·rw [if_pos (by rw [decide_eq_true_eq]; exact hj)]
     refine ⟨⟨j0, hj⟩, ?_⟩
     by_cases he : seen.getD j.toNat 0 = x
     ·rw [if_pos (by rw [decide_eq_true_eq, he])]
      have hmem : x ∈ seen := by
       rw [← he, List.getD_eq_getElem?_getD, List.getElem?_eq_getElem (by omega)]
       exact List.getElem_mem _
      exact aaj (hg.symm.trans (by rw [if_pos (ady.2 hmem)]; rfl))
     ·rw [if_neg (by rw [decide_eq_true_eq]; intro h; exact he (UInt8.toNat_inj.1 (by exact_mod_cast h)))]
      refine ⟨by unfold I64; omega, ⟨by omega, by omega, fun n hn => ?_⟩, by dsimp only; omega⟩
      by_cases hnj : (n : Int) < j
      ·exact j2 n hnj
      ·obtain rfl : n = j.toNat := by omega
       exact he
    ·rw [if_neg (by rw [decide_eq_true_eq]; exact hj)]
     have hnm : x ∉ seen := by
      intro h
      obtain ⟨n, hn, he⟩ := List.getElem_of_mem h
      exact j2 n (by omega) (by rw [List.getD_eq_getElem?_getD, List.getElem?_eq_getElem hn]; exact he)
     rw [if_neg (fun h => hnm (ady.1 h))] at hg
     refine ⟨by simp; omega, ⟨by omega, by omega⟩, fun i4 v2 => i ≤ i4 ∧ i4 < av.length ∧ acn av (mkP nm (nm, d1, d2, d3, d4, d5, d6, d7, d8, d9, d10) i k) = .ok (v2, mkP nm (nm, d1, d2, d3, d4, d5, d6, d7, d8, d9, d10) i4 k), fun i4 v2 ⟨g1, g2, g3⟩ ok c2 hL => ?_, ?_⟩
     ·obtain ⟨q, s1, s2, s3⟩ := alu (nm := nm) (i := i4) (k := k) hx4 hL
      rw [g3] at hg
      simp only [s1] at hg
      cases ok with
      | false =>
       rw [if_pos (by decide)]
       rw [if_neg (by decide), s3] at hg
       exact aaj hg.symm
      | true =>
       rw [if_neg (by decide)]
       rw [if_pos rfl, s2 rfl] at hg
       refine ⟨by unfold I64; omega, ⟨f, by omega, by omega, by omega, hk, agy hL, by simp; omega, ?_⟩, by dsimp only; omega⟩
       rw [aiw, ← hg]
       rfl
     ·unfold acn
      rw [show (2 : Int).toNat = 2 from rfl, show i7 av (mkP nm (nm, d1, d2, d3, d4, d5, d6, d7, d8, d9, d10) i k).at1 = i7 av i from rfl, show (mkP nm (nm, d1, d2, d3, d4, d5, d6, d7, d8, d9, d10) i k).at1 = i from rfl]
      by_cases hd : (i7 av i).drop 2 = []
      ·rw [if_pos (decide_eq_true hd), if_pos hd]
       refine ⟨by unfold I64; omega, ?_⟩
       by_cases he : i + 1 = av.length
       ·rw [if_pos (decide_eq_true he)]
        have hv : acn av (mkP nm (nm, d1, d2, d3, d4, d5, d6, d7, d8, d9, d10) i k) = .error (i, ak5) := by
         unfold acn
         exact (if_pos hd).trans ((if_pos he).trans rfl)
        rw [hv] at hg
        exact aaj hg.symm
       ·rw [if_neg (by rw [decide_eq_true_eq]; exact he), if_neg he]
        exact ⟨by unfold I64; omega, ⟨by omega, by omega⟩, by omega, by omega, rfl⟩
      ·rw [if_neg (by rw [decide_eq_true_eq]; exact hd), if_neg hd]
       exact ⟨by omega, hi, rfl⟩
   ·rw [if_pos (by
     simp only [List.mem_cons, List.mem_nil_iff, or_false, not_or] at hx4
     have t : ∀ n : UInt8, x ≠ n → decide (((x.toNat : Nat) : Int) = ((n.toNat : Nat) : Int)) = false := fun n hn => decide_eq_false (fun h => hn (UInt8.toNat_inj.1 (by exact_mod_cast h)))
     have t1 := t 98 hx4.1
     have t2 := t 110 hx4.2.1
     have t3 := t 99 hx4.2.2.1
     have t4 := t 111 hx4.2.2.2
     simp only [show (((98 : UInt8).toNat : Nat) : Int) = 98 from rfl, show (((110 : UInt8).toNat : Nat) : Int) = 110 from rfl, show (((99 : UInt8).toNat : Nat) : Int) = 99 from rfl, show (((111 : UInt8).toNat : Nat) : Int) = 111 from rfl] at t1 t2 t3 t4
     rw [t1, t2, t3, t4]; rfl)]
    rw [ahb hxq hx4] at hg
    exact aaj hg.symm
  ·rw [if_pos (by
    rw [Bool.or_eq_true, Bool.or_eq_true, decide_eq_true_eq, Bool.not_eq_true', decide_eq_false_iff_not]
    by_cases hp : plain = true
    ·exact .inl (.inl hp)
    ·by_cases hlen : (i7 av i).length < 2
     ·exact .inl (.inr (by omega))
     ·exact .inr (fun h => ho ⟨by simpa using hp, by omega, by exact_mod_cast h⟩))]
   rw [ajx (q := mkP nm _ i k) hi hm ho] at hg
   refine ⟨hk, ?_⟩
   by_cases hke : k = (m1 nm).length
   ·rw [if_pos (by rw [decide_eq_true_eq]; omega)]
    refine aaj (hg.symm.trans ?_)
    unfold abg
    rw [if_pos (show (mkP nm (nm, d1, d2, d3, d4, d5, d6, d7, d8, d9, d10) i k).got = ((mkP nm (nm, d1, d2, d3, d4, d5, d6, d7, d8, d9, d10) i k).sops.length : Int) from (show ((k : Nat) : Int) = (((a8 nm).2.1.length : Nat) : Int) by omega))]
    rfl
   ·rw [if_neg (by rw [decide_eq_true_eq]; omega)]
    refine ⟨⟨by omega, by omega⟩, fun ok c2 hL => ?_⟩
    have hkl : k < (a8 nm).2.1.length := by omega
    have hlet : (m1 nm).getD (k + ((0 : Int)).toNat) default = z7 ((a8 nm).2.1.getD k 0) := by
     rw [o1, show k + ((0 : Int)).toNat = k from rfl, List.getD_eq_getElem?_getD, List.getD_eq_getElem?_getD, List.getElem?_map, List.getElem?_eq_getElem hkl]
     rfl
    have hlm : (a8 nm).2.1.getD k 0 ∈ ([108, 118, 115, 97, 100, 116] : Bs) := by
     rw [List.getD_eq_getElem?_getD, List.getElem?_eq_getElem hkl]
     exact o2 _ (List.getElem_mem _)
    rw [hlet] at hL
    obtain ⟨l1, l2⟩ := alg (nm := nm) (i := i) (k := k) hlm hL
    have hop : ∀ r : Except (Int × Bs) PS, (if ((((((a8 nm).2.1.getD k 0).toNat : Nat) : Int) = 97 ∨ ((((a8 nm).2.1.getD k 0).toNat : Nat) : Int) = 100) ∧ l8 (i7 av i) = false) then .error (i, air) else .ok { y5 ((((a8 nm).2.1.getD k 0).toNat : Nat) : Int) (i7 av i) (mkP nm (nm, d1, d2, d3, d4, d5, d6, d7, d8, d9, d10) i k) with got := (k : Int) + 1, at1 := i + 1 }) = r → abg av (mkP nm (nm, d1, d2, d3, d4, d5, d6, d7, d8, d9, d10) i k) = r := by
     intro r hr
     rw [← hr]
     unfold abg
     rw [if_neg (show ¬ (mkP nm (nm, d1, d2, d3, d4, d5, d6, d7, d8, d9, d10) i k).got = ((mkP nm (nm, d1, d2, d3, d4, d5, d6, d7, d8, d9, d10) i k).sops.length : Int) from (show ¬ ((k : Nat) : Int) = (((a8 nm).2.1.length : Nat) : Int) by omega))]
     rfl
    cases ok with
    | false =>
     rw [if_pos (by decide)]
     rw [hop _ (if_pos (l2 rfl))] at hg
     exact aaj hg.symm
    | true =>
     rw [if_neg (by decide)]
     rw [hop _ (if_neg (l1 rfl).1)] at hg
     refine ⟨by omega, by unfold I64; omega, ⟨f, by omega, by omega, by omega, by omega, agy hL, by omega, ?_⟩, by dsimp only; omega⟩
     rw [← hg, (l1 rfl).2]
     rfl
 ·rw [if_neg (by rw [decide_eq_true_eq]; exact hi)]
  rw [ahy (q := mkP nm _ i k) hi] at hg
  refine ⟨hk, ?_⟩
  by_cases hke : k = (m1 nm).length
  ·rw [if_neg (by rw [decide_eq_true_eq]; omega)]
   rw [if_neg (show ¬ (mkP nm (nm, d1, d2, d3, d4, d5, d6, d7, d8, d9, d10) i k).got < ((mkP nm (nm, d1, d2, d3, d4, d5, d6, d7, d8, d9, d10) i k).sops.length : Int) from (show ¬ ((k : Nat) : Int) < (((a8 nm).2.1.length : Nat) : Int) by omega))] at hg
   unfold PK b6 aat m4
   rw [← hg]
   exact ⟨rfl, rfl, rfl, rfl⟩
  ·rw [if_pos (by rw [decide_eq_true_eq]; omega)]
   rw [if_pos (show (mkP nm (nm, d1, d2, d3, d4, d5, d6, d7, d8, d9, d10) i k).got < ((mkP nm (nm, d1, d2, d3, d4, d5, d6, d7, d8, d9, d10) i k).sops.length : Int) from (show ((k : Nat) : Int) < (((a8 nm).2.1.length : Nat) : Int) by omega))] at hg
   exact aaj hg.symm
theorem aka {av : List Bs} (h : aat av = true) : b6 av = ([], [], [], [], [], 0, 0, 0, 0, 0, []) ∧ (m4 av).1 = 140 := by
 unfold aat at h
 unfold b6 m4
 cases hq : w9 av ps0 with
 | ok q => rw [hq] at h; cases h
 | error e => exact ⟨rfl, rfl⟩
theorem aj2 {av : List Bs} (h : ¬ aat av = true) : m4 av = (0, 0, []) := by
 unfold aat at h
 unfold m4
 cases hq : w9 av ps0 with
 | ok q => rfl
 | error e => rw [hq] at h; exact absurd rfl h
end Go.Proofs.YtaaepdlajkdneaaDoor
namespace Go.Proofs.YtaaepdlajkdneaaDoor
open Go Go.ChangeShapes Go.WideShapes Go.ChangeAt Go.RowKit
theorem afg {α : Type} {Q : Nat → α → Prop} : ∀ n : Nat, (∀ i, i < n → ∃ x, Q i x) → ∃ l : List α, l.length = n ∧ ∀ (i : Nat) (x : α), l[i]? = some x → Q i x
 | 0, _ => ⟨[], rfl, fun i x h => by simp at h⟩
 | n + 1, h => by
  obtain ⟨l, hl, hq⟩ := afg n fun i hi => h i (by omega)
  obtain ⟨x, hx⟩ := h n (by omega)
  refine ⟨l ++ [x], by simp [hl], fun i y hy => ?_⟩
  by_cases hi : i < n
  ·rw [List.getElem?_append_left (by omega)] at hy
   exact hq i y hy
  ·rw [List.getElem?_append_right (by omega)] at hy
   have h0 : i - l.length = 0 := by
    rcases Nat.eq_zero_or_pos (i - l.length) with h | h
    ·exact h
    ·rw [List.getElem?_eq_none (by simp only [List.length_cons, List.length_nil]; omega)] at hy; cases hy
   rw [h0] at hy
   simp at hy
   subst hy
   rw [show i = n by omega]; exact hx
theorem ajb {α : Type} {f : α → List Value} {sz : Nat} (hf : ∀ x, (f x).length = sz) {l : List α} {i o : Nat} {x : α} {u : Value} (hi : l[i]? = some x) (hu : (f x)[o]? = some u) : (l.flatMap f)[i * sz + o]? = some u := by
 have hlt := (List.getElem?_eq_some_iff.1 hi).1
 have : Inhabited α := ⟨x⟩
 refine aer hf hlt ?_
 rw [List.getD_eq_getElem?_getD, hi]; exact hu
theorem al1 {H : Type} {enc : TypeId × Value → H} {P : Program} {W : World} {base : Nat} {spare : Nat → Bool} {held : Bool} {r : Reach} {b0 : Nat} {t e : TypeId} {v : Value} {d : DataW H} {p : List MemPlace} {sz : Nat} {α : Type} {f : α → List Value} {G : α → DataW H → Prop}
  (ht : P.underlying t = some (.slice e)) (hc : P.cellsOf e = sz) (h0 : 0 < sz) (hf : ∀ x, (f x).length = sz) (hel : ∀ n cs y, DataW.trod enc P W base spare held n e cs = some y → ∃ x, cs = f x ∧ G x y.1)
  (hv : Value.okWide P W r b0 t v) (h : DataW.Trod enc P W base spare held t v d p) :
  ∃ (R : List (Nat × Obj)) (l : List α), w8 v R l.length (l.flatMap f) ∧ (∀ q ∈ R, W.heap[q.1]? = some q.2) ∧ (d = .nil ∧ l = [] ∨ ∃ es sp, d = .slice es sp ∧ es.length = l.length ∧ ∀ (i : Nat) (x : α), l[i]? = some x → ∃ y, es[i]? = some y ∧ G x y) := by
 obtain ⟨a0, len0, cap0, rfl⟩ := okWide_slice ht hv
 obtain ⟨fuel, hfu⟩ := h
 rcases DataW.trod_slice ht hfu with ⟨hcs, hx⟩ | ⟨a, len, cap, elems, rest, n, _, hcs, hx, _, hl, _, hlen, hel2, _⟩
 ·simp [Value.cells] at hcs
  obtain ⟨rfl, rfl, rfl⟩ := hcs
  simp only [Prod.mk.injEq] at hx
  exact ⟨[], [], .inl ⟨rfl, rfl, ⟨_, _, rfl⟩, rfl⟩, fun q hq => (by cases hq), .inl ⟨hx.1, rfl⟩⟩
 ·simp [Value.cells] at hcs
  obtain ⟨rfl, rfl, rfl⟩ := hcs
  simp only [Prod.mk.injEq] at hx
  obtain ⟨l, hll, hq⟩ := afg (Q := fun i x => W.cells? base (a.add (i * sz)) sz = some (f x) ∧ ∃ y, elems[i]? = some y ∧ G x y.1) len0 fun i hi => by
   have h1 := hel2 i hi
   rw [hc, List.getElem?_eq_getElem (by omega), Option.bind_eq_some_iff] at h1
   obtain ⟨cs, h2, h3⟩ := h1
   obtain ⟨x, rfl, hg⟩ := hel _ _ _ h3
   exact ⟨x, h2, _, List.getElem?_eq_getElem (by omega), hg⟩
  have hd : ∃ es sp, d = .slice es sp ∧ es.length = l.length ∧ ∀ (i : Nat) (x : α), l[i]? = some x → ∃ y, es[i]? = some y ∧ G x y := by
   refine ⟨elems.map (·.1), rest.map (·.1), hx.1, by simp; omega, fun i x hi => ?_⟩
   obtain ⟨_, y, hy, hg⟩ := hq i x hi
   exact ⟨y.1, by simp [hy], hg⟩
  rcases Nat.eq_zero_or_pos len0 with h00 | hpos
  ·subst h00
   have hl0 : l = [] := List.eq_nil_of_length_eq_zero hll
   subst hl0
   exact ⟨[], [], .inl ⟨rfl, rfl, ⟨_, _, rfl⟩, rfl⟩, fun q hq => (by cases hq), .inr hd⟩
  ·-- the first cell tells the block
   have hx0 : ∃ x, l[0]? = some x := ⟨_, List.getElem?_eq_getElem (by omega)⟩
   obtain ⟨x0, hx0⟩ := hx0
   have hc0 := World.cells?_some (hq 0 x0 hx0).1
   have hcell := hc0.2.2 0 h0
   rw [Nat.zero_mul] at hcell
   have hf0 : ∃ u, (f x0)[0]? = some u := ⟨_, List.getElem?_eq_getElem (show 0 < (f x0).length by rw [hf]; exact h0)⟩
   obtain ⟨u0, hu0⟩ := hf0
   rw [hu0] at hcell
   have ha0 : (a.add 0).add 0 = a := rfl
   rw [ha0] at hcell
   obtain ⟨b, off, spot⟩ := a
   obtain ⟨cs, T, fr, hblk, rfl⟩ : ∃ cs T fr, W.heap[b]? = some (.cells cs T fr) ∧ spot = none := by
    unfold World.cell? at hcell
    simp only at hcell
    split at hcell
    ·rename_i c T fr hb
     split at hcell
     ·cases hcell
     ·rename_i hs
      exact ⟨c, T, fr, hb, by simpa using hs⟩
    ·cases hcell
   refine ⟨[(b, .cells cs T fr)], l, .inr ⟨b, off, cap0, cs.toList, T, fr, by rw [hll], by rw [Array.toArray_toList], ?_⟩, fun q hq' => by rw [List.mem_singleton.1 hq']; exact hblk, .inr hd⟩
   have key : ∀ j u, (l.flatMap f)[j]? = some u → cs.toList[off + j]? = some u := by
    intro j u hj
    have hjl : j < l.length * sz := by rw [← v6 hf l]; exact (List.getElem?_eq_some_iff.1 hj).1
    have hqi : j / sz < l.length := Nat.div_lt_of_lt_mul (by rw [Nat.mul_comm]; exact hjl)
    have e1 : j = j / sz * sz + j % sz := (Nat.div_add_mod' j sz).symm
    have hr := Nat.mod_lt j h0
    have hxi : l[j / sz]? = some l[j / sz] := List.getElem?_eq_getElem hqi
    have h2 := (World.cells?_some (hq _ _ hxi).1).2.2 (j % sz) hr
    have h3 : (f l[j / sz])[j % sz]? = some u := by
     obtain ⟨u', hu'⟩ : ∃ u', (f l[j / sz])[j % sz]? = some u' := ⟨_, List.getElem?_eq_getElem (show j % sz < (f l[j / sz]).length by rw [hf]; exact hr)⟩
     have := ajb hf hxi hu'
     rw [← e1, hj] at this
     rw [hu', this]
    rw [h3, Addr.add_mid, Addr.add_mid] at h2
    unfold World.cell? at h2
    simp only [hblk] at h2
    simp only [Option.isSome_none, Bool.false_eq_true, if_false] at h2
    rw [show off + j / sz * sz + j % sz = off + j by omega] at h2
    simpa using h2
   refine List.ext_getElem? fun j => ?_
   by_cases hj : j < (l.flatMap f).length
   ·rw [List.getElem?_take, if_pos hj, List.getElem?_drop, key j _ (List.getElem?_eq_getElem hj), List.getElem?_eq_getElem hj]
   ·rw [List.getElem?_eq_none (by rw [List.length_take]; omega), List.getElem?_eq_none (by omega)]
end Go.Proofs.YtaaepdlajkdneaaDoor
