/-
  Merged: SyV.
-/
import Derived.Test.YtifajndacnfcbaaDoorSq4
set_option maxRecDepth 100000
namespace Go.Proofs.YtifajndacnfcbaaDoor
open Go Go.RowKit
theorem akk : RowT Tryd.prog 121 5 := ⟨by kernel_rfl, by kernel_rfl⟩
theorem z6 : av7 Tryd.prog 121 9 5 1 = true := by kernel_rfl
theorem aa1 : k9 Tryd.prog 71 = true := by kernel_rfl
theorem aak : ab0 Tryd.prog 102 = some [zI 0, zI 0, st []] := by kernel_rfl
theorem acp : f6 Tryd.prog 55 0 = some 0 := by kernel_rfl
theorem adh : RowT Tryd.prog 102 3 := ⟨by kernel_rfl, by kernel_rfl⟩
theorem aam : o8 Tryd.prog 102 3 = true := by kernel_rfl
theorem aaz : k9 Tryd.prog 38 = true := by kernel_rfl
theorem ad6 : aie Tryd.prog 102 0 = some (0, 3) := by kernel_rfl
theorem afu : aie Tryd.prog 102 2 = some (2, 9) := by kernel_rfl
theorem ao0 : aie Tryd.prog 102 1 = some (1, 3) := by kernel_rfl
theorem aqh : Program.concrete Tryd.prog 26 = true := by kernel_rfl
theorem ach : k9 Tryd.prog 65 = true := by kernel_rfl
theorem aeu : k9 Tryd.prog 41 = true := by kernel_rfl
theorem abe : k9 Tryd.prog 39 = true := by kernel_rfl
theorem abs : f6 Tryd.prog 55 1 = some 1 := by kernel_rfl
theorem aev : k9 Tryd.prog 42 = true := by kernel_rfl
def alg (word : List UInt8) (K : Int → Prop) : Prop :=
 ∃ (J0 : Bool → Prop),
  (∀ (t4 : Bool), J0 t4 →
   (if t4 = true then
    K 1
   else
    ∃ (J0_1' : Bool → Prop),
     (∀ (t10 : Bool), J0_1' t10 →
      (if t10 = true then
       K 2
      else
       (if (decide (word = ([110, 111, 114, 109] : List UInt8))) = true then
        K 3
       else
        (if (decide (word = ([108, 101, 116] : List UInt8))) = true then
         K (-1)
        else
         K 0)))) ∧
     (if (decide (word = ([100, 101, 108] : List UInt8))) = true then
      J0_1' (decide (word = ([100, 101, 108] : List UInt8)))
     else
      (if (decide (word = ([108, 101, 102, 116] : List UInt8))) = true then
       J0_1' (decide (word = ([108, 101, 102, 116] : List UInt8)))
      else
       (if (decide (word = ([114, 105, 103, 104, 116] : List UInt8))) = true then
        J0_1' (decide (word = ([114, 105, 103, 104, 116] : List UInt8)))
       else
        J0_1' (decide (word = ([100, 101, 102, 97, 117, 108, 116] : List UInt8)))))))) ∧
  (if (decide (word = ([99, 111, 112, 121] : List UInt8))) = true then
   J0 (decide (word = ([99, 111, 112, 121] : List UInt8)))
  else
   (if (decide (word = ([107, 101, 121] : List UInt8))) = true then
    J0 (decide (word = ([107, 101, 121] : List UInt8)))
   else
    (if (decide (word = ([105, 110, 115] : List UInt8))) = true then
     J0 (decide (word = ([105, 110, 115] : List UInt8)))
    else
     (if (decide (word = ([105, 100] : List UInt8))) = true then
      J0 (decide (word = ([105, 100] : List UInt8)))
     else
      J0 (decide (word = ([102, 111, 108, 100] : List UInt8)))))))
theorem aug  (word : List UInt8) (K : Int → Prop) (h : alg word K) :
  d9 Tryd.prog 40 [st word] [] [] (fun o => (∃ (v : Int), K v ∧ o = .ret (zI v) []) ∨ (False)) := by
 unfold alg at h
 refine c8 (n := 19) (L0 := [(0, st word)]) Tryd.func40 rfl rfl rfl rfl (fun w0 M Q hE => ?_)
 refine a7 (fun _ hK => ?_)
 refine a6 ?_
 refine wA ?_
 refine WL.nil ?_
 refine kg (hK [(0, st word)] _ ?_)
 refine a7 (fun _ hK_1' => ?_)
 refine a7 (fun _ hK_2' => ?_)
 refine a6 ?_
 refine wm ?_
 refine WL.nil ?_
 refine kg (hK_2' [(3, st word)] _ ?_)
 refine b7 ?_
 obtain ⟨J0, hJ, h⟩ := h
 refine m5 (X := Bool) (fun σ => J0 σ) (fun σ => [(3, st word), (4, zB σ)]) (fun σ => []) ?_ (fun K0_7' hK_7' => ?_)
 ·rintro t4 hj
  replace h := hJ t4 hj
  show WC _ _ _ _ [(3, st word), (4, zB t4)] []
  refine b5 (b := t4) rfl (fun hb => ?_) (fun hb => ?_)
  ·replace h := e8 h hb
   refine a7 (fun _ hK_8' => ?_)
   refine a6 ?_
   refine wA ?_
   refine WL.nil ?_
   refine kg (hK_8' [(2, zI 1)] _ ?_)
   refine b8 ?_
   exact hE.ret [] rfl rfl (.inl ⟨_, h, rfl⟩) (d7.of1 rfl (RV.tmp rfl))
  ·replace h := e9 h hb
   obtain ⟨J0_1', hJ_1', h⟩ := h
   refine m5 (X := Bool) (fun σ => J0_1' σ) (fun σ => [(3, st word), (10, zB σ)]) (fun σ => []) ?_ (fun K0_12' hK_12' => ?_)
   ·rintro t10 hj
    replace h := hJ_1' t10 hj
    show WC _ _ _ _ [(3, st word), (10, zB t10)] []
    refine b5 (b := t10) rfl (fun hb => ?_) (fun hb => ?_)
    ·replace h := e8 h hb
     refine a7 (fun _ hK_13' => ?_)
     refine a6 ?_
     refine wA ?_
     refine WL.nil ?_
     refine kg (hK_13' [(2, zI 2)] _ ?_)
     refine b8 ?_
     exact hE.ret [] rfl rfl (.inl ⟨_, h, rfl⟩) (d7.of1 rfl (RV.tmp rfl))
    ·replace h := e9 h hb
     refine a7 (fun _ hK_14' => ?_)
     refine a6 ?_
     refine wv (OV.eqlS rfl rfl) ?_
     refine wA ?_
     refine WL.nil ?_
     refine kg (hK_14' [(3, st word), (15, zB (decide (word = ([110, 111, 114, 109] : List UInt8))))] _ ?_)
     refine b5 (b := decide (word = ([110, 111, 114, 109] : List UInt8))) rfl (fun hb => ?_) (fun hb => ?_)
     ·replace h := e8 h hb
      refine a7 (fun _ hK_15' => ?_)
      refine a6 ?_
      refine wA ?_
      refine WL.nil ?_
      refine kg (hK_15' [(2, zI 3)] _ ?_)
      refine b8 ?_
      exact hE.ret [] rfl rfl (.inl ⟨_, h, rfl⟩) (d7.of1 rfl (RV.tmp rfl))
     ·replace h := e9 h hb
      refine a7 (fun _ hK_16' => ?_)
      refine a6 ?_
      refine wv (OV.eqlS rfl rfl) ?_
      refine wA ?_
      refine WL.nil ?_
      refine kg (hK_16' [(17, zB (decide (word = ([108, 101, 116] : List UInt8))))] _ ?_)
      refine b5 (b := decide (word = ([108, 101, 116] : List UInt8))) rfl (fun hb => ?_) (fun hb => ?_)
      ·replace h := e8 h hb
       refine a7 (fun _ hK_17' => ?_)
       refine a6 ?_
       refine wA ?_
       refine WL.nil ?_
       refine kg (hK_17' [(2, zI (-1))] _ ?_)
       refine b8 ?_
       exact hE.ret [] rfl rfl (.inl ⟨_, h, rfl⟩) (d7.of1 rfl (RV.tmp rfl))
      ·replace h := e9 h hb
       refine b6 ?_
       refine KX.go (hK_1' [] _ ?_) trivial
       refine a7 (fun _ hK_18' => ?_)
       refine a6 ?_
       refine wA ?_
       refine WL.nil ?_
       refine kg (hK_18' [(2, zI 0)] _ ?_)
       refine b8 ?_
       exact hE.ret [] rfl rfl (.inl ⟨_, h, rfl⟩) (d7.of1 rfl (RV.tmp rfl))
   ·skip
    refine a7 (fun _ hK_19' => ?_)
    refine a6 ?_
    refine wv (OV.eqlS rfl rfl) ?_
    refine wA ?_
    refine WL.nil ?_
    refine kg (hK_19' [(3, st word), (10, zB (decide (word = ([100, 101, 108] : List UInt8))))] _ ?_)
    refine b5 (b := decide (word = ([100, 101, 108] : List UInt8))) rfl (fun hb => ?_) (fun hb => ?_)
    ·replace h := e8 h hb
     refine b6 ?_
     exact kh (hK_12' (decide (word = ([100, 101, 108] : List UInt8))) h) []
    ·replace h := e9 h hb
     refine a7 (fun _ hK_20' => ?_)
     refine a6 ?_
     refine wv (OV.eqlS rfl rfl) ?_
     refine wA ?_
     refine WL.nil ?_
     refine kg (hK_20' [(3, st word), (10, zB (decide (word = ([108, 101, 102, 116] : List UInt8))))] _ ?_)
     refine b5 (b := decide (word = ([108, 101, 102, 116] : List UInt8))) rfl (fun hb => ?_) (fun hb => ?_)
     ·replace h := e8 h hb
      refine b6 ?_
      exact kh (hK_12' (decide (word = ([108, 101, 102, 116] : List UInt8))) h) []
     ·replace h := e9 h hb
      refine a7 (fun _ hK_21' => ?_)
      refine a6 ?_
      refine wv (OV.eqlS rfl rfl) ?_
      refine wA ?_
      refine WL.nil ?_
      refine kg (hK_21' [(3, st word), (10, zB (decide (word = ([114, 105, 103, 104, 116] : List UInt8))))] _ ?_)
      refine b5 (b := decide (word = ([114, 105, 103, 104, 116] : List UInt8))) rfl (fun hb => ?_) (fun hb => ?_)
      ·replace h := e8 h hb
       refine b6 ?_
       exact kh (hK_12' (decide (word = ([114, 105, 103, 104, 116] : List UInt8))) h) []
      ·replace h := e9 h hb
       refine a6 ?_
       refine wv (OV.eqlS rfl rfl) ?_
       refine wA ?_
       refine WL.nil ?_
       exact kh (hK_12' (decide (word = ([100, 101, 102, 97, 117, 108, 116] : List UInt8))) h) []
 ·skip
  refine a7 (fun _ hK_22' => ?_)
  refine a6 ?_
  refine wv (OV.eqlS rfl rfl) ?_
  refine wA ?_
  refine WL.nil ?_
  refine kg (hK_22' [(3, st word), (4, zB (decide (word = ([99, 111, 112, 121] : List UInt8))))] _ ?_)
  refine b5 (b := decide (word = ([99, 111, 112, 121] : List UInt8))) rfl (fun hb => ?_) (fun hb => ?_)
  ·replace h := e8 h hb
   refine b6 ?_
   exact kh (hK_7' (decide (word = ([99, 111, 112, 121] : List UInt8))) h) []
  ·replace h := e9 h hb
   refine a7 (fun _ hK_23' => ?_)
   refine a6 ?_
   refine wv (OV.eqlS rfl rfl) ?_
   refine wA ?_
   refine WL.nil ?_
   refine kg (hK_23' [(3, st word), (4, zB (decide (word = ([107, 101, 121] : List UInt8))))] _ ?_)
   refine b5 (b := decide (word = ([107, 101, 121] : List UInt8))) rfl (fun hb => ?_) (fun hb => ?_)
   ·replace h := e8 h hb
    refine b6 ?_
    exact kh (hK_7' (decide (word = ([107, 101, 121] : List UInt8))) h) []
   ·replace h := e9 h hb
    refine a7 (fun _ hK_24' => ?_)
    refine a6 ?_
    refine wv (OV.eqlS rfl rfl) ?_
    refine wA ?_
    refine WL.nil ?_
    refine kg (hK_24' [(3, st word), (4, zB (decide (word = ([105, 110, 115] : List UInt8))))] _ ?_)
    refine b5 (b := decide (word = ([105, 110, 115] : List UInt8))) rfl (fun hb => ?_) (fun hb => ?_)
    ·replace h := e8 h hb
     refine b6 ?_
     exact kh (hK_7' (decide (word = ([105, 110, 115] : List UInt8))) h) []
    ·replace h := e9 h hb
     refine a7 (fun _ hK_25' => ?_)
     refine a6 ?_
     refine wv (OV.eqlS rfl rfl) ?_
     refine wA ?_
     refine WL.nil ?_
     refine kg (hK_25' [(3, st word), (4, zB (decide (word = ([105, 100] : List UInt8))))] _ ?_)
     refine b5 (b := decide (word = ([105, 100] : List UInt8))) rfl (fun hb => ?_) (fun hb => ?_)
     ·replace h := e8 h hb
      refine b6 ?_
      exact kh (hK_7' (decide (word = ([105, 100] : List UInt8))) h) []
     ·replace h := e9 h hb
      refine a6 ?_
      refine wv (OV.eqlS rfl rfl) ?_
      refine wA ?_
      refine WL.nil ?_
      exact kh (hK_7' (decide (word = ([102, 111, 108, 100] : List UInt8))) h) []
def alh (c0 : UInt8) (K : Int → Prop) : Prop :=
 ((!decide (([c0] : List UInt8) = [])) = true → (aj7 ([124] : List UInt8) ([c0] : List UInt8))) ∧
 (if (((!decide (([c0] : List UInt8) = [])) && (f8 ([124] : List UInt8) ([c0] : List UInt8))) && ((decide ((([c0] : List UInt8).length : Int) = 2)) || (!decide (([124] : List UInt8) = ([62, 62] : List UInt8))))) = true then
  K 0
 else
  ((!decide (([c0] : List UInt8) = [])) = true → (aj7 ([38, 45] : List UInt8) ([c0] : List UInt8))) ∧
  (if (((!decide (([c0] : List UInt8) = [])) && (f8 ([38, 45] : List UInt8) ([c0] : List UInt8))) && ((decide ((([c0] : List UInt8).length : Int) = 2)) || (!decide (([38, 45] : List UInt8) = ([62, 62] : List UInt8))))) = true then
   K 1
  else
   ((!decide (([c0] : List UInt8) = [])) = true → (aj7 ([62, 62] : List UInt8) ([c0] : List UInt8))) ∧
   (if (((!decide (([c0] : List UInt8) = [])) && (f8 ([62, 62] : List UInt8) ([c0] : List UInt8))) && ((decide ((([c0] : List UInt8).length : Int) = 2)) || (!decide (([62, 62] : List UInt8) = ([62, 62] : List UInt8))))) = true then
    K 2
   else
    ((!decide (([c0] : List UInt8) = [])) = true → (aj7 ([126] : List UInt8) ([c0] : List UInt8))) ∧
    (if (((!decide (([c0] : List UInt8) = [])) && (f8 ([126] : List UInt8) ([c0] : List UInt8))) && ((decide ((([c0] : List UInt8).length : Int) = 2)) || (!decide (([126] : List UInt8) = ([62, 62] : List UInt8))))) = true then
     K 3
    else
     ((!decide (([c0] : List UInt8) = [])) = true → (aj7 ([46] : List UInt8) ([c0] : List UInt8))) ∧
     (if (((!decide (([c0] : List UInt8) = [])) && (f8 ([46] : List UInt8) ([c0] : List UInt8))) && ((decide ((([c0] : List UInt8).length : Int) = 2)) || (!decide (([46] : List UInt8) = ([62, 62] : List UInt8))))) = true then
      K 4
     else
      K (-1))))))
theorem avx (te : TypeId) (fre : Nat × Nat) (c0 : UInt8) (K : Int → Prop) (h : alh c0 K) :
  d9 Tryd.prog 55 [st ([c0] : List UInt8)] [(0, .cells [st ([124] : List UInt8), st ([38, 45] : List UInt8), st ([62, 62] : List UInt8), st ([126] : List UInt8), st ([46] : List UInt8)].toArray te fre)] [] (fun o => (∃ (v : Int), K v ∧ o = .ret (zI v) []) ∨ (False)) := by
 unfold alh at h
 refine c8 (n := 28) (L0 := [(0, st ([c0] : List UInt8))]) Tryd.func55 rfl rfl rfl rfl (fun w0 M Q hE => ?_)
 refine a7 (fun _ hK => ?_)
 refine a6 ?_
 refine wA ?_
 refine WL.nil ?_
 refine kg (hK [(0, st ([c0] : List UInt8))] _ ?_)
 refine a7 (fun _ hK_1' => ?_)
 refine a7 (fun _ hK_2' => ?_)
 refine a6 ?_
 refine wv (OV.loadR rfl (At.ro 0 rfl) akk) ?_
 refine wm ?_
 refine WL.nil ?_
 refine kg (hK_2' [(0, st ([c0] : List UInt8)), (5, Value.agg [st ([124] : List UInt8), st ([38, 45] : List UInt8), st ([62, 62] : List UInt8), st ([126] : List UInt8), st ([46] : List UInt8)].toArray), (6, zI 0)] _ ?_)
 refine b7 ?_
 refine aew 6 ?_
 refine RC.succ (fun K0_3' hK_3' => ?_)
 refine a7 (fun _ hK_4' => ?_)
 refine a6 ?_
 refine wv (OV.lss rfl rfl) ?_
 refine WL.nil ?_
 refine kg (hK_4' [(0, st ([c0] : List UInt8)), (5, Value.agg [st ([124] : List UInt8), st ([38, 45] : List UInt8), st ([62, 62] : List UInt8), st ([126] : List UInt8), st ([46] : List UInt8)].toArray), (6, zI 0), (7, zB true)] _ ?_)
 refine a7 (fun _ hK_5' => ?_)
 refine f7 rfl ?_
 refine b6 ?_
 refine kg (hK_5' [(0, st ([c0] : List UInt8)), (5, Value.agg [st ([124] : List UInt8), st ([38, 45] : List UInt8), st ([62, 62] : List UInt8), st ([126] : List UInt8), st ([46] : List UInt8)].toArray), (6, zI 0)] _ ?_)
 refine a7 (fun _ hK_6' => ?_)
 refine b7 ?_
 refine a7 (fun _ hK_7' => ?_)
 refine a6 ?_
 refine wm ?_
 refine wv (OV.indexC rfl rfl z6 (by decide) c7 rfl) ?_
 refine wA ?_
 refine wA ?_
 refine WL.nil ?_
 refine kg (hK_7' [(0, st ([c0] : List UInt8)), (3, zI 0), (4, st ([124] : List UInt8)), (5, Value.agg [st ([124] : List UInt8), st ([38, 45] : List UInt8), st ([62, 62] : List UInt8), st ([126] : List UInt8), st ([46] : List UInt8)].toArray), (6, zI 0)] _ ?_)
 refine a7 (fun _ hK_8' => ?_)
 refine a6 ?_
 refine wm ?_
 refine wv (OV.neqS rfl rfl) ?_
 refine wm ?_
 obtain ⟨o_1', h⟩ := h
 refine WL.cut 4 [(0, st ([c0] : List UInt8)), (3, zI 0), (4, st ([124] : List UInt8)), (5, Value.agg [st ([124] : List UInt8), st ([38, 45] : List UInt8), st ([62, 62] : List UInt8), st ([126] : List UInt8), st ([46] : List UInt8)].toArray), (6, zI 0), (16, zB ((!decide (([c0] : List UInt8) = [])) && (f8 ([124] : List UInt8) ([c0] : List UInt8))))] ?_ (fun K0_9' hK_9' => ?_)
 rotate_left
 ·refine WL.split (!decide (([c0] : List UInt8) = [])) (fun hb => ?_) (fun hb => ?_)
  ·have o := o_1' hb
   refine WL.set 12 rfl (congrArg zB hb) ?_
   refine wm ?_
   refine wm ?_
   refine WL.call (A := []) aa1 rfl (aax ([124] : List UInt8) ([c0] : List UInt8) o) rfl trivial rfl rfl ?_
   refine wv (OV.pickT rfl rfl) ?_
   refine WL.set 16 rfl (bT (v := f8 ([124] : List UInt8) ([c0] : List UInt8)) hb) ?_
   exact WL.end_ (kg hK_9')
  ·refine WL.set 12 rfl (congrArg zB hb) ?_
   refine wk ?_
   refine wk ?_
   refine wk ?_
   refine wv (OV.pickF rfl rfl) ?_
   refine WL.set 16 rfl (bF (v := f8 ([124] : List UInt8) ([c0] : List UInt8)) hb) ?_
   exact WL.end_ (kg hK_9')
 refine wm ?_
 refine WL.cut 8 [(0, st ([c0] : List UInt8)), (3, zI 0), (5, Value.agg [st ([124] : List UInt8), st ([38, 45] : List UInt8), st ([62, 62] : List UInt8), st ([126] : List UInt8), st ([46] : List UInt8)].toArray), (6, zI 0), (25, zB (((!decide (([c0] : List UInt8) = [])) && (f8 ([124] : List UInt8) ([c0] : List UInt8))) && ((decide ((([c0] : List UInt8).length : Int) = 2)) || (!decide (([124] : List UInt8) = ([62, 62] : List UInt8))))))] ?_ (fun K0_11' hK_11' => ?_)
 rotate_left
 ·refine WL.split ((!decide (([c0] : List UInt8) = [])) && (f8 ([124] : List UInt8) ([c0] : List UInt8))) (fun hb => ?_) (fun hb => ?_)
  ·refine WL.set 17 rfl (congrArg zB hb) ?_
   refine wm ?_
   refine wv (OV.len rfl c9) ?_
   refine wv (OV.eql rfl rfl) ?_
   refine wm ?_
   refine WL.cut 3 [(0, st ([c0] : List UInt8)), (3, zI 0), (5, Value.agg [st ([124] : List UInt8), st ([38, 45] : List UInt8), st ([62, 62] : List UInt8), st ([126] : List UInt8), st ([46] : List UInt8)].toArray), (6, zI 0), (17, zB true), (24, zB ((decide ((([c0] : List UInt8).length : Int) = 2)) || (!decide (([124] : List UInt8) = ([62, 62] : List UInt8)))))] ?_ (fun K0_10' hK_10' => ?_)
   rotate_left
   ·refine WL.split (decide ((([c0] : List UInt8).length : Int) = 2)) (fun hb => ?_) (fun hb => ?_)
    ·refine WL.set 21 rfl (congrArg zB hb) ?_
     refine wk ?_
     refine wk ?_
     refine wv (OV.pickT rfl rfl) ?_
     refine WL.set 24 rfl (oT (v := !decide (([124] : List UInt8) = ([62, 62] : List UInt8))) hb) ?_
     exact WL.end_ (kg hK_10')
    ·refine WL.set 21 rfl (congrArg zB hb) ?_
     refine wm ?_
     refine wv (OV.neqS rfl rfl) ?_
     refine wv (OV.pickF rfl rfl) ?_
     refine WL.set 24 rfl (oF (v := !decide (([124] : List UInt8) = ([62, 62] : List UInt8))) hb) ?_
     exact WL.end_ (kg hK_10')
   refine wv (OV.pickT rfl rfl) ?_
   refine WL.set 25 rfl (bT (v := (decide ((([c0] : List UInt8).length : Int) = 2)) || (!decide (([124] : List UInt8) = ([62, 62] : List UInt8)))) hb) ?_
   exact WL.end_ (kg hK_11')
  ·refine WL.set 17 rfl (congrArg zB hb) ?_
   refine wk ?_
   refine wk ?_
   refine wk ?_
   refine wk ?_
   refine wk ?_
   refine wk ?_
   refine wk ?_
   refine wv (OV.pickF rfl rfl) ?_
   refine WL.set 25 rfl (bF (v := (decide ((([c0] : List UInt8).length : Int) = 2)) || (!decide (([124] : List UInt8) = ([62, 62] : List UInt8)))) hb) ?_
   exact WL.end_ (kg hK_11')
 refine WL.nil ?_
 refine kg (hK_8' [(0, st ([c0] : List UInt8)), (3, zI 0), (5, Value.agg [st ([124] : List UInt8), st ([38, 45] : List UInt8), st ([62, 62] : List UInt8), st ([126] : List UInt8), st ([46] : List UInt8)].toArray), (6, zI 0), (25, zB (((!decide (([c0] : List UInt8) = [])) && (f8 ([124] : List UInt8) ([c0] : List UInt8))) && ((decide ((([c0] : List UInt8).length : Int) = 2)) || (!decide (([124] : List UInt8) = ([62, 62] : List UInt8))))))] _ ?_)
 refine b5 (b := ((!decide (([c0] : List UInt8) = [])) && (f8 ([124] : List UInt8) ([c0] : List UInt8))) && ((decide ((([c0] : List UInt8).length : Int) = 2)) || (!decide (([124] : List UInt8) = ([62, 62] : List UInt8))))) rfl (fun hb => ?_) (fun hb => ?_)
 ·replace h := e8 h hb
  refine a7 (fun _ hK_12' => ?_)
  refine a6 ?_
  refine wm ?_
  refine wA ?_
  refine WL.nil ?_
  refine kg (hK_12' [(2, zI 0)] _ ?_)
  refine b8 ?_
  exact hE.ret [] rfl rfl (.inl ⟨_, h, rfl⟩) (d7.of1 rfl (RV.tmp rfl))
 ·replace h := e9 h hb
  refine b6 ?_
  refine kg (hK_6' [(0, st ([c0] : List UInt8)), (5, Value.agg [st ([124] : List UInt8), st ([38, 45] : List UInt8), st ([62, 62] : List UInt8), st ([126] : List UInt8), st ([46] : List UInt8)].toArray), (6, zI 0)] _ ?_)
  refine a6 ?_
  refine wv (OV.add rfl rfl ⟨by decide, by decide⟩) ?_
  refine wm ?_
  refine WL.nil ?_
  refine kg (hK_3' [(0, st ([c0] : List UInt8)), (5, Value.agg [st ([124] : List UInt8), st ([38, 45] : List UInt8), st ([62, 62] : List UInt8), st ([126] : List UInt8), st ([46] : List UInt8)].toArray), (6, zI 1)] _ ?_)
  refine RC.succ (fun K0_13' hK_13' => ?_)
  refine a7 (fun _ hK_14' => ?_)
  refine a6 ?_
  refine wv (OV.lss rfl rfl) ?_
  refine WL.nil ?_
  refine kg (hK_14' [(0, st ([c0] : List UInt8)), (5, Value.agg [st ([124] : List UInt8), st ([38, 45] : List UInt8), st ([62, 62] : List UInt8), st ([126] : List UInt8), st ([46] : List UInt8)].toArray), (6, zI 1), (7, zB true)] _ ?_)
  refine a7 (fun _ hK_15' => ?_)
  refine f7 rfl ?_
  refine b6 ?_
  refine kg (hK_15' [(0, st ([c0] : List UInt8)), (5, Value.agg [st ([124] : List UInt8), st ([38, 45] : List UInt8), st ([62, 62] : List UInt8), st ([126] : List UInt8), st ([46] : List UInt8)].toArray), (6, zI 1)] _ ?_)
  refine a7 (fun _ hK_16' => ?_)
  refine b7 ?_
  refine a7 (fun _ hK_17' => ?_)
  refine a6 ?_
  refine wm ?_
  refine wv (OV.indexC rfl rfl z6 (by decide) c7 rfl) ?_
  refine wA ?_
  refine wA ?_
  refine WL.nil ?_
  refine kg (hK_17' [(0, st ([c0] : List UInt8)), (3, zI 1), (4, st ([38, 45] : List UInt8)), (5, Value.agg [st ([124] : List UInt8), st ([38, 45] : List UInt8), st ([62, 62] : List UInt8), st ([126] : List UInt8), st ([46] : List UInt8)].toArray), (6, zI 1)] _ ?_)
  refine a7 (fun _ hK_18' => ?_)
  refine a6 ?_
  refine wm ?_
  refine wv (OV.neqS rfl rfl) ?_
  refine wm ?_
  obtain ⟨o_5', h⟩ := h
  refine WL.cut 4 [(0, st ([c0] : List UInt8)), (3, zI 1), (4, st ([38, 45] : List UInt8)), (5, Value.agg [st ([124] : List UInt8), st ([38, 45] : List UInt8), st ([62, 62] : List UInt8), st ([126] : List UInt8), st ([46] : List UInt8)].toArray), (6, zI 1), (16, zB ((!decide (([c0] : List UInt8) = [])) && (f8 ([38, 45] : List UInt8) ([c0] : List UInt8))))] ?_ (fun K0_19' hK_19' => ?_)
  rotate_left
  ·refine WL.split (!decide (([c0] : List UInt8) = [])) (fun hb => ?_) (fun hb => ?_)
   ·have o_4' := o_5' hb
    refine WL.set 12 rfl (congrArg zB hb) ?_
    refine wm ?_
    refine wm ?_
    refine WL.call (A := []) aa1 rfl (aax ([38, 45] : List UInt8) ([c0] : List UInt8) o_4') rfl trivial rfl rfl ?_
    refine wv (OV.pickT rfl rfl) ?_
    refine WL.set 16 rfl (bT (v := f8 ([38, 45] : List UInt8) ([c0] : List UInt8)) hb) ?_
    exact WL.end_ (kg hK_19')
   ·refine WL.set 12 rfl (congrArg zB hb) ?_
    refine wk ?_
    refine wk ?_
    refine wk ?_
    refine wv (OV.pickF rfl rfl) ?_
    refine WL.set 16 rfl (bF (v := f8 ([38, 45] : List UInt8) ([c0] : List UInt8)) hb) ?_
    exact WL.end_ (kg hK_19')
  refine wm ?_
  refine WL.cut 8 [(0, st ([c0] : List UInt8)), (3, zI 1), (5, Value.agg [st ([124] : List UInt8), st ([38, 45] : List UInt8), st ([62, 62] : List UInt8), st ([126] : List UInt8), st ([46] : List UInt8)].toArray), (6, zI 1), (25, zB (((!decide (([c0] : List UInt8) = [])) && (f8 ([38, 45] : List UInt8) ([c0] : List UInt8))) && ((decide ((([c0] : List UInt8).length : Int) = 2)) || (!decide (([38, 45] : List UInt8) = ([62, 62] : List UInt8))))))] ?_ (fun K0_21' hK_21' => ?_)
  rotate_left
  ·refine WL.split ((!decide (([c0] : List UInt8) = [])) && (f8 ([38, 45] : List UInt8) ([c0] : List UInt8))) (fun hb => ?_) (fun hb => ?_)
   ·refine WL.set 17 rfl (congrArg zB hb) ?_
    refine wm ?_
    refine wv (OV.len rfl c9) ?_
    refine wv (OV.eql rfl rfl) ?_
    refine wm ?_
    refine WL.cut 3 [(0, st ([c0] : List UInt8)), (3, zI 1), (5, Value.agg [st ([124] : List UInt8), st ([38, 45] : List UInt8), st ([62, 62] : List UInt8), st ([126] : List UInt8), st ([46] : List UInt8)].toArray), (6, zI 1), (17, zB true), (24, zB ((decide ((([c0] : List UInt8).length : Int) = 2)) || (!decide (([38, 45] : List UInt8) = ([62, 62] : List UInt8)))))] ?_ (fun K0_20' hK_20' => ?_)
    rotate_left
    ·refine WL.split (decide ((([c0] : List UInt8).length : Int) = 2)) (fun hb => ?_) (fun hb => ?_)
     ·refine WL.set 21 rfl (congrArg zB hb) ?_
      refine wk ?_
      refine wk ?_
      refine wv (OV.pickT rfl rfl) ?_
      refine WL.set 24 rfl (oT (v := !decide (([38, 45] : List UInt8) = ([62, 62] : List UInt8))) hb) ?_
      exact WL.end_ (kg hK_20')
     ·refine WL.set 21 rfl (congrArg zB hb) ?_
      refine wm ?_
      refine wv (OV.neqS rfl rfl) ?_
      refine wv (OV.pickF rfl rfl) ?_
      refine WL.set 24 rfl (oF (v := !decide (([38, 45] : List UInt8) = ([62, 62] : List UInt8))) hb) ?_
      exact WL.end_ (kg hK_20')
    refine wv (OV.pickT rfl rfl) ?_
    refine WL.set 25 rfl (bT (v := (decide ((([c0] : List UInt8).length : Int) = 2)) || (!decide (([38, 45] : List UInt8) = ([62, 62] : List UInt8)))) hb) ?_
    exact WL.end_ (kg hK_21')
   ·refine WL.set 17 rfl (congrArg zB hb) ?_
    refine wk ?_
    refine wk ?_
    refine wk ?_
    refine wk ?_
    refine wk ?_
    refine wk ?_
    refine wk ?_
    refine wv (OV.pickF rfl rfl) ?_
    refine WL.set 25 rfl (bF (v := (decide ((([c0] : List UInt8).length : Int) = 2)) || (!decide (([38, 45] : List UInt8) = ([62, 62] : List UInt8)))) hb) ?_
    exact WL.end_ (kg hK_21')
  refine WL.nil ?_
  refine kg (hK_18' [(0, st ([c0] : List UInt8)), (3, zI 1), (5, Value.agg [st ([124] : List UInt8), st ([38, 45] : List UInt8), st ([62, 62] : List UInt8), st ([126] : List UInt8), st ([46] : List UInt8)].toArray), (6, zI 1), (25, zB (((!decide (([c0] : List UInt8) = [])) && (f8 ([38, 45] : List UInt8) ([c0] : List UInt8))) && ((decide ((([c0] : List UInt8).length : Int) = 2)) || (!decide (([38, 45] : List UInt8) = ([62, 62] : List UInt8))))))] _ ?_)
  refine b5 (b := ((!decide (([c0] : List UInt8) = [])) && (f8 ([38, 45] : List UInt8) ([c0] : List UInt8))) && ((decide ((([c0] : List UInt8).length : Int) = 2)) || (!decide (([38, 45] : List UInt8) = ([62, 62] : List UInt8))))) rfl (fun hb => ?_) (fun hb => ?_)
  ·replace h := e8 h hb
   refine a7 (fun _ hK_22' => ?_)
   refine a6 ?_
   refine wm ?_
   refine wA ?_
   refine WL.nil ?_
   refine kg (hK_22' [(2, zI 1)] _ ?_)
   refine b8 ?_
   exact hE.ret [] rfl rfl (.inl ⟨_, h, rfl⟩) (d7.of1 rfl (RV.tmp rfl))
  ·replace h := e9 h hb
   refine b6 ?_
   refine kg (hK_16' [(0, st ([c0] : List UInt8)), (5, Value.agg [st ([124] : List UInt8), st ([38, 45] : List UInt8), st ([62, 62] : List UInt8), st ([126] : List UInt8), st ([46] : List UInt8)].toArray), (6, zI 1)] _ ?_)
   refine a6 ?_
   refine wv (OV.add rfl rfl ⟨by decide, by decide⟩) ?_
   refine wm ?_
   refine WL.nil ?_
   refine kg (hK_13' [(0, st ([c0] : List UInt8)), (5, Value.agg [st ([124] : List UInt8), st ([38, 45] : List UInt8), st ([62, 62] : List UInt8), st ([126] : List UInt8), st ([46] : List UInt8)].toArray), (6, zI 2)] _ ?_)
   refine RC.succ (fun K0_23' hK_23' => ?_)
   refine a7 (fun _ hK_24' => ?_)
   refine a6 ?_
   refine wv (OV.lss rfl rfl) ?_
   refine WL.nil ?_
   refine kg (hK_24' [(0, st ([c0] : List UInt8)), (5, Value.agg [st ([124] : List UInt8), st ([38, 45] : List UInt8), st ([62, 62] : List UInt8), st ([126] : List UInt8), st ([46] : List UInt8)].toArray), (6, zI 2), (7, zB true)] _ ?_)
   refine a7 (fun _ hK_25' => ?_)
   refine f7 rfl ?_
   refine b6 ?_
   refine kg (hK_25' [(0, st ([c0] : List UInt8)), (5, Value.agg [st ([124] : List UInt8), st ([38, 45] : List UInt8), st ([62, 62] : List UInt8), st ([126] : List UInt8), st ([46] : List UInt8)].toArray), (6, zI 2)] _ ?_)
   refine a7 (fun _ hK_26' => ?_)
   refine b7 ?_
   refine a7 (fun _ hK_27' => ?_)
   refine a6 ?_
   refine wm ?_
   refine wv (OV.indexC rfl rfl z6 (by decide) c7 rfl) ?_
   refine wA ?_
   refine wA ?_
   refine WL.nil ?_
   refine kg (hK_27' [(0, st ([c0] : List UInt8)), (3, zI 2), (4, st ([62, 62] : List UInt8)), (5, Value.agg [st ([124] : List UInt8), st ([38, 45] : List UInt8), st ([62, 62] : List UInt8), st ([126] : List UInt8), st ([46] : List UInt8)].toArray), (6, zI 2)] _ ?_)
   refine a7 (fun _ hK_28' => ?_)
   refine a6 ?_
   refine wm ?_
   refine wv (OV.neqS rfl rfl) ?_
   refine wm ?_
   obtain ⟨o_9', h⟩ := h
   refine WL.cut 4 [(0, st ([c0] : List UInt8)), (3, zI 2), (4, st ([62, 62] : List UInt8)), (5, Value.agg [st ([124] : List UInt8), st ([38, 45] : List UInt8), st ([62, 62] : List UInt8), st ([126] : List UInt8), st ([46] : List UInt8)].toArray), (6, zI 2), (16, zB ((!decide (([c0] : List UInt8) = [])) && (f8 ([62, 62] : List UInt8) ([c0] : List UInt8))))] ?_ (fun K0_29' hK_29' => ?_)
   rotate_left
   ·refine WL.split (!decide (([c0] : List UInt8) = [])) (fun hb => ?_) (fun hb => ?_)
    ·have o_8' := o_9' hb
     refine WL.set 12 rfl (congrArg zB hb) ?_
     refine wm ?_
     refine wm ?_
     refine WL.call (A := []) aa1 rfl (aax ([62, 62] : List UInt8) ([c0] : List UInt8) o_8') rfl trivial rfl rfl ?_
     refine wv (OV.pickT rfl rfl) ?_
     refine WL.set 16 rfl (bT (v := f8 ([62, 62] : List UInt8) ([c0] : List UInt8)) hb) ?_
     exact WL.end_ (kg hK_29')
    ·refine WL.set 12 rfl (congrArg zB hb) ?_
     refine wk ?_
     refine wk ?_
     refine wk ?_
     refine wv (OV.pickF rfl rfl) ?_
     refine WL.set 16 rfl (bF (v := f8 ([62, 62] : List UInt8) ([c0] : List UInt8)) hb) ?_
     exact WL.end_ (kg hK_29')
   refine wm ?_
   refine WL.cut 8 [(0, st ([c0] : List UInt8)), (3, zI 2), (5, Value.agg [st ([124] : List UInt8), st ([38, 45] : List UInt8), st ([62, 62] : List UInt8), st ([126] : List UInt8), st ([46] : List UInt8)].toArray), (6, zI 2), (25, zB (((!decide (([c0] : List UInt8) = [])) && (f8 ([62, 62] : List UInt8) ([c0] : List UInt8))) && ((decide ((([c0] : List UInt8).length : Int) = 2)) || (!decide (([62, 62] : List UInt8) = ([62, 62] : List UInt8))))))] ?_ (fun K0_31' hK_31' => ?_)
   rotate_left
   ·refine WL.split ((!decide (([c0] : List UInt8) = [])) && (f8 ([62, 62] : List UInt8) ([c0] : List UInt8))) (fun hb => ?_) (fun hb => ?_)
    ·refine WL.set 17 rfl (congrArg zB hb) ?_
     refine wm ?_
     refine wv (OV.len rfl c9) ?_
     refine wv (OV.eql rfl rfl) ?_
     refine wm ?_
     refine WL.cut 3 [(0, st ([c0] : List UInt8)), (3, zI 2), (5, Value.agg [st ([124] : List UInt8), st ([38, 45] : List UInt8), st ([62, 62] : List UInt8), st ([126] : List UInt8), st ([46] : List UInt8)].toArray), (6, zI 2), (17, zB true), (24, zB ((decide ((([c0] : List UInt8).length : Int) = 2)) || (!decide (([62, 62] : List UInt8) = ([62, 62] : List UInt8)))))] ?_ (fun K0_30' hK_30' => ?_)
     rotate_left
     ·refine WL.split (decide ((([c0] : List UInt8).length : Int) = 2)) (fun hb => ?_) (fun hb => ?_)
      ·refine WL.set 21 rfl (congrArg zB hb) ?_
       refine wk ?_
       refine wk ?_
       refine wv (OV.pickT rfl rfl) ?_
       refine WL.set 24 rfl (oT (v := !decide (([62, 62] : List UInt8) = ([62, 62] : List UInt8))) hb) ?_
       exact WL.end_ (kg hK_30')
      ·refine WL.set 21 rfl (congrArg zB hb) ?_
       refine wm ?_
       refine wv (OV.neqS rfl rfl) ?_
       refine wv (OV.pickF rfl rfl) ?_
       refine WL.set 24 rfl (oF (v := !decide (([62, 62] : List UInt8) = ([62, 62] : List UInt8))) hb) ?_
       exact WL.end_ (kg hK_30')
     refine wv (OV.pickT rfl rfl) ?_
     refine WL.set 25 rfl (bT (v := (decide ((([c0] : List UInt8).length : Int) = 2)) || (!decide (([62, 62] : List UInt8) = ([62, 62] : List UInt8)))) hb) ?_
     exact WL.end_ (kg hK_31')
    ·refine WL.set 17 rfl (congrArg zB hb) ?_
     refine wk ?_
     refine wk ?_
     refine wk ?_
     refine wk ?_
     refine wk ?_
     refine wk ?_
     refine wk ?_
     refine wv (OV.pickF rfl rfl) ?_
     refine WL.set 25 rfl (bF (v := (decide ((([c0] : List UInt8).length : Int) = 2)) || (!decide (([62, 62] : List UInt8) = ([62, 62] : List UInt8)))) hb) ?_
     exact WL.end_ (kg hK_31')
   refine WL.nil ?_
   refine kg (hK_28' [(0, st ([c0] : List UInt8)), (3, zI 2), (5, Value.agg [st ([124] : List UInt8), st ([38, 45] : List UInt8), st ([62, 62] : List UInt8), st ([126] : List UInt8), st ([46] : List UInt8)].toArray), (6, zI 2), (25, zB (((!decide (([c0] : List UInt8) = [])) && (f8 ([62, 62] : List UInt8) ([c0] : List UInt8))) && ((decide ((([c0] : List UInt8).length : Int) = 2)) || (!decide (([62, 62] : List UInt8) = ([62, 62] : List UInt8))))))] _ ?_)
   refine b5 (b := ((!decide (([c0] : List UInt8) = [])) && (f8 ([62, 62] : List UInt8) ([c0] : List UInt8))) && ((decide ((([c0] : List UInt8).length : Int) = 2)) || (!decide (([62, 62] : List UInt8) = ([62, 62] : List UInt8))))) rfl (fun hb => ?_) (fun hb => ?_)
   ·replace h := e8 h hb
    refine a7 (fun _ hK_32' => ?_)
    refine a6 ?_
    refine wm ?_
    refine wA ?_
    refine WL.nil ?_
    refine kg (hK_32' [(2, zI 2)] _ ?_)
    refine b8 ?_
    exact hE.ret [] rfl rfl (.inl ⟨_, h, rfl⟩) (d7.of1 rfl (RV.tmp rfl))
   ·replace h := e9 h hb
    refine b6 ?_
    refine kg (hK_26' [(0, st ([c0] : List UInt8)), (5, Value.agg [st ([124] : List UInt8), st ([38, 45] : List UInt8), st ([62, 62] : List UInt8), st ([126] : List UInt8), st ([46] : List UInt8)].toArray), (6, zI 2)] _ ?_)
    refine a6 ?_
    refine wv (OV.add rfl rfl ⟨by decide, by decide⟩) ?_
    refine wm ?_
    refine WL.nil ?_
    refine kg (hK_23' [(0, st ([c0] : List UInt8)), (5, Value.agg [st ([124] : List UInt8), st ([38, 45] : List UInt8), st ([62, 62] : List UInt8), st ([126] : List UInt8), st ([46] : List UInt8)].toArray), (6, zI 3)] _ ?_)
    refine RC.succ (fun K0_33' hK_33' => ?_)
    refine a7 (fun _ hK_34' => ?_)
    refine a6 ?_
    refine wv (OV.lss rfl rfl) ?_
    refine WL.nil ?_
    refine kg (hK_34' [(0, st ([c0] : List UInt8)), (5, Value.agg [st ([124] : List UInt8), st ([38, 45] : List UInt8), st ([62, 62] : List UInt8), st ([126] : List UInt8), st ([46] : List UInt8)].toArray), (6, zI 3), (7, zB true)] _ ?_)
    refine a7 (fun _ hK_35' => ?_)
    refine f7 rfl ?_
    refine b6 ?_
    refine kg (hK_35' [(0, st ([c0] : List UInt8)), (5, Value.agg [st ([124] : List UInt8), st ([38, 45] : List UInt8), st ([62, 62] : List UInt8), st ([126] : List UInt8), st ([46] : List UInt8)].toArray), (6, zI 3)] _ ?_)
    refine a7 (fun _ hK_36' => ?_)
    refine b7 ?_
    refine a7 (fun _ hK_37' => ?_)
    refine a6 ?_
    refine wm ?_
    refine wv (OV.indexC rfl rfl z6 (by decide) c7 rfl) ?_
    refine wA ?_
    refine wA ?_
    refine WL.nil ?_
    refine kg (hK_37' [(0, st ([c0] : List UInt8)), (3, zI 3), (4, st ([126] : List UInt8)), (5, Value.agg [st ([124] : List UInt8), st ([38, 45] : List UInt8), st ([62, 62] : List UInt8), st ([126] : List UInt8), st ([46] : List UInt8)].toArray), (6, zI 3)] _ ?_)
    refine a7 (fun _ hK_38' => ?_)
    refine a6 ?_
    refine wm ?_
    refine wv (OV.neqS rfl rfl) ?_
    refine wm ?_
    obtain ⟨o_13', h⟩ := h
    refine WL.cut 4 [(0, st ([c0] : List UInt8)), (3, zI 3), (4, st ([126] : List UInt8)), (5, Value.agg [st ([124] : List UInt8), st ([38, 45] : List UInt8), st ([62, 62] : List UInt8), st ([126] : List UInt8), st ([46] : List UInt8)].toArray), (6, zI 3), (16, zB ((!decide (([c0] : List UInt8) = [])) && (f8 ([126] : List UInt8) ([c0] : List UInt8))))] ?_ (fun K0_39' hK_39' => ?_)
    rotate_left
    ·refine WL.split (!decide (([c0] : List UInt8) = [])) (fun hb => ?_) (fun hb => ?_)
     ·have o_12' := o_13' hb
      refine WL.set 12 rfl (congrArg zB hb) ?_
      refine wm ?_
      refine wm ?_
      refine WL.call (A := []) aa1 rfl (aax ([126] : List UInt8) ([c0] : List UInt8) o_12') rfl trivial rfl rfl ?_
      refine wv (OV.pickT rfl rfl) ?_
      refine WL.set 16 rfl (bT (v := f8 ([126] : List UInt8) ([c0] : List UInt8)) hb) ?_
      exact WL.end_ (kg hK_39')
     ·refine WL.set 12 rfl (congrArg zB hb) ?_
      refine wk ?_
      refine wk ?_
      refine wk ?_
      refine wv (OV.pickF rfl rfl) ?_
      refine WL.set 16 rfl (bF (v := f8 ([126] : List UInt8) ([c0] : List UInt8)) hb) ?_
      exact WL.end_ (kg hK_39')
    refine wm ?_
    refine WL.cut 8 [(0, st ([c0] : List UInt8)), (3, zI 3), (5, Value.agg [st ([124] : List UInt8), st ([38, 45] : List UInt8), st ([62, 62] : List UInt8), st ([126] : List UInt8), st ([46] : List UInt8)].toArray), (6, zI 3), (25, zB (((!decide (([c0] : List UInt8) = [])) && (f8 ([126] : List UInt8) ([c0] : List UInt8))) && ((decide ((([c0] : List UInt8).length : Int) = 2)) || (!decide (([126] : List UInt8) = ([62, 62] : List UInt8))))))] ?_ (fun K0_41' hK_41' => ?_)
    rotate_left
    ·refine WL.split ((!decide (([c0] : List UInt8) = [])) && (f8 ([126] : List UInt8) ([c0] : List UInt8))) (fun hb => ?_) (fun hb => ?_)
     ·refine WL.set 17 rfl (congrArg zB hb) ?_
      refine wm ?_
      refine wv (OV.len rfl c9) ?_
      refine wv (OV.eql rfl rfl) ?_
      refine wm ?_
      refine WL.cut 3 [(0, st ([c0] : List UInt8)), (3, zI 3), (5, Value.agg [st ([124] : List UInt8), st ([38, 45] : List UInt8), st ([62, 62] : List UInt8), st ([126] : List UInt8), st ([46] : List UInt8)].toArray), (6, zI 3), (17, zB true), (24, zB ((decide ((([c0] : List UInt8).length : Int) = 2)) || (!decide (([126] : List UInt8) = ([62, 62] : List UInt8)))))] ?_ (fun K0_40' hK_40' => ?_)
      rotate_left
      ·refine WL.split (decide ((([c0] : List UInt8).length : Int) = 2)) (fun hb => ?_) (fun hb => ?_)
       ·refine WL.set 21 rfl (congrArg zB hb) ?_
        refine wk ?_
        refine wk ?_
        refine wv (OV.pickT rfl rfl) ?_
        refine WL.set 24 rfl (oT (v := !decide (([126] : List UInt8) = ([62, 62] : List UInt8))) hb) ?_
        exact WL.end_ (kg hK_40')
       ·refine WL.set 21 rfl (congrArg zB hb) ?_
        refine wm ?_
        refine wv (OV.neqS rfl rfl) ?_
        refine wv (OV.pickF rfl rfl) ?_
        refine WL.set 24 rfl (oF (v := !decide (([126] : List UInt8) = ([62, 62] : List UInt8))) hb) ?_
        exact WL.end_ (kg hK_40')
      refine wv (OV.pickT rfl rfl) ?_
      refine WL.set 25 rfl (bT (v := (decide ((([c0] : List UInt8).length : Int) = 2)) || (!decide (([126] : List UInt8) = ([62, 62] : List UInt8)))) hb) ?_
      exact WL.end_ (kg hK_41')
     ·refine WL.set 17 rfl (congrArg zB hb) ?_
      refine wk ?_
      refine wk ?_
      refine wk ?_
      refine wk ?_
      refine wk ?_
      refine wk ?_
      refine wk ?_
      refine wv (OV.pickF rfl rfl) ?_
      refine WL.set 25 rfl (bF (v := (decide ((([c0] : List UInt8).length : Int) = 2)) || (!decide (([126] : List UInt8) = ([62, 62] : List UInt8)))) hb) ?_
      exact WL.end_ (kg hK_41')
    refine WL.nil ?_
    refine kg (hK_38' [(0, st ([c0] : List UInt8)), (3, zI 3), (5, Value.agg [st ([124] : List UInt8), st ([38, 45] : List UInt8), st ([62, 62] : List UInt8), st ([126] : List UInt8), st ([46] : List UInt8)].toArray), (6, zI 3), (25, zB (((!decide (([c0] : List UInt8) = [])) && (f8 ([126] : List UInt8) ([c0] : List UInt8))) && ((decide ((([c0] : List UInt8).length : Int) = 2)) || (!decide (([126] : List UInt8) = ([62, 62] : List UInt8))))))] _ ?_)
    refine b5 (b := ((!decide (([c0] : List UInt8) = [])) && (f8 ([126] : List UInt8) ([c0] : List UInt8))) && ((decide ((([c0] : List UInt8).length : Int) = 2)) || (!decide (([126] : List UInt8) = ([62, 62] : List UInt8))))) rfl (fun hb => ?_) (fun hb => ?_)
    ·replace h := e8 h hb
     refine a7 (fun _ hK_42' => ?_)
     refine a6 ?_
     refine wm ?_
     refine wA ?_
     refine WL.nil ?_
     refine kg (hK_42' [(2, zI 3)] _ ?_)
     refine b8 ?_
     exact hE.ret [] rfl rfl (.inl ⟨_, h, rfl⟩) (d7.of1 rfl (RV.tmp rfl))
    ·replace h := e9 h hb
     refine b6 ?_
     refine kg (hK_36' [(0, st ([c0] : List UInt8)), (5, Value.agg [st ([124] : List UInt8), st ([38, 45] : List UInt8), st ([62, 62] : List UInt8), st ([126] : List UInt8), st ([46] : List UInt8)].toArray), (6, zI 3)] _ ?_)
     refine a6 ?_
     refine wv (OV.add rfl rfl ⟨by decide, by decide⟩) ?_
     refine wm ?_
     refine WL.nil ?_
     refine kg (hK_33' [(0, st ([c0] : List UInt8)), (5, Value.agg [st ([124] : List UInt8), st ([38, 45] : List UInt8), st ([62, 62] : List UInt8), st ([126] : List UInt8), st ([46] : List UInt8)].toArray), (6, zI 4)] _ ?_)
     refine RC.succ (fun K0_43' hK_43' => ?_)
     refine a7 (fun _ hK_44' => ?_)
     refine a6 ?_
     refine wv (OV.lss rfl rfl) ?_
     refine WL.nil ?_
     refine kg (hK_44' [(0, st ([c0] : List UInt8)), (5, Value.agg [st ([124] : List UInt8), st ([38, 45] : List UInt8), st ([62, 62] : List UInt8), st ([126] : List UInt8), st ([46] : List UInt8)].toArray), (6, zI 4), (7, zB true)] _ ?_)
     refine a7 (fun _ hK_45' => ?_)
     refine f7 rfl ?_
     refine b6 ?_
     refine kg (hK_45' [(0, st ([c0] : List UInt8)), (5, Value.agg [st ([124] : List UInt8), st ([38, 45] : List UInt8), st ([62, 62] : List UInt8), st ([126] : List UInt8), st ([46] : List UInt8)].toArray), (6, zI 4)] _ ?_)
     refine a7 (fun _ hK_46' => ?_)
     refine b7 ?_
     refine a7 (fun _ hK_47' => ?_)
     refine a6 ?_
     refine wm ?_
     refine wv (OV.indexC rfl rfl z6 (by decide) c7 rfl) ?_
     refine wA ?_
     refine wA ?_
     refine WL.nil ?_
     refine kg (hK_47' [(0, st ([c0] : List UInt8)), (3, zI 4), (4, st ([46] : List UInt8)), (5, Value.agg [st ([124] : List UInt8), st ([38, 45] : List UInt8), st ([62, 62] : List UInt8), st ([126] : List UInt8), st ([46] : List UInt8)].toArray), (6, zI 4)] _ ?_)
     refine a7 (fun _ hK_48' => ?_)
     refine a6 ?_
     refine wm ?_
     refine wv (OV.neqS rfl rfl) ?_
     refine wm ?_
     obtain ⟨o_17', h⟩ := h
     refine WL.cut 4 [(0, st ([c0] : List UInt8)), (3, zI 4), (4, st ([46] : List UInt8)), (5, Value.agg [st ([124] : List UInt8), st ([38, 45] : List UInt8), st ([62, 62] : List UInt8), st ([126] : List UInt8), st ([46] : List UInt8)].toArray), (6, zI 4), (16, zB ((!decide (([c0] : List UInt8) = [])) && (f8 ([46] : List UInt8) ([c0] : List UInt8))))] ?_ (fun K0_49' hK_49' => ?_)
     rotate_left
     ·refine WL.split (!decide (([c0] : List UInt8) = [])) (fun hb => ?_) (fun hb => ?_)
      ·have o_16' := o_17' hb
       refine WL.set 12 rfl (congrArg zB hb) ?_
       refine wm ?_
       refine wm ?_
       refine WL.call (A := []) aa1 rfl (aax ([46] : List UInt8) ([c0] : List UInt8) o_16') rfl trivial rfl rfl ?_
       refine wv (OV.pickT rfl rfl) ?_
       refine WL.set 16 rfl (bT (v := f8 ([46] : List UInt8) ([c0] : List UInt8)) hb) ?_
       exact WL.end_ (kg hK_49')
      ·refine WL.set 12 rfl (congrArg zB hb) ?_
       refine wk ?_
       refine wk ?_
       refine wk ?_
       refine wv (OV.pickF rfl rfl) ?_
       refine WL.set 16 rfl (bF (v := f8 ([46] : List UInt8) ([c0] : List UInt8)) hb) ?_
       exact WL.end_ (kg hK_49')
     refine wm ?_
     refine WL.cut 8 [(0, st ([c0] : List UInt8)), (3, zI 4), (5, Value.agg [st ([124] : List UInt8), st ([38, 45] : List UInt8), st ([62, 62] : List UInt8), st ([126] : List UInt8), st ([46] : List UInt8)].toArray), (6, zI 4), (25, zB (((!decide (([c0] : List UInt8) = [])) && (f8 ([46] : List UInt8) ([c0] : List UInt8))) && ((decide ((([c0] : List UInt8).length : Int) = 2)) || (!decide (([46] : List UInt8) = ([62, 62] : List UInt8))))))] ?_ (fun K0_51' hK_51' => ?_)
     rotate_left
     ·refine WL.split ((!decide (([c0] : List UInt8) = [])) && (f8 ([46] : List UInt8) ([c0] : List UInt8))) (fun hb => ?_) (fun hb => ?_)
      ·refine WL.set 17 rfl (congrArg zB hb) ?_
       refine wm ?_
       refine wv (OV.len rfl c9) ?_
       refine wv (OV.eql rfl rfl) ?_
       refine wm ?_
       refine WL.cut 3 [(0, st ([c0] : List UInt8)), (3, zI 4), (5, Value.agg [st ([124] : List UInt8), st ([38, 45] : List UInt8), st ([62, 62] : List UInt8), st ([126] : List UInt8), st ([46] : List UInt8)].toArray), (6, zI 4), (17, zB true), (24, zB ((decide ((([c0] : List UInt8).length : Int) = 2)) || (!decide (([46] : List UInt8) = ([62, 62] : List UInt8)))))] ?_ (fun K0_50' hK_50' => ?_)
       rotate_left
       ·refine WL.split (decide ((([c0] : List UInt8).length : Int) = 2)) (fun hb => ?_) (fun hb => ?_)
        ·refine WL.set 21 rfl (congrArg zB hb) ?_
         refine wk ?_
         refine wk ?_
         refine wv (OV.pickT rfl rfl) ?_
         refine WL.set 24 rfl (oT (v := !decide (([46] : List UInt8) = ([62, 62] : List UInt8))) hb) ?_
         exact WL.end_ (kg hK_50')
        ·refine WL.set 21 rfl (congrArg zB hb) ?_
         refine wm ?_
         refine wv (OV.neqS rfl rfl) ?_
         refine wv (OV.pickF rfl rfl) ?_
         refine WL.set 24 rfl (oF (v := !decide (([46] : List UInt8) = ([62, 62] : List UInt8))) hb) ?_
         exact WL.end_ (kg hK_50')
       refine wv (OV.pickT rfl rfl) ?_
       refine WL.set 25 rfl (bT (v := (decide ((([c0] : List UInt8).length : Int) = 2)) || (!decide (([46] : List UInt8) = ([62, 62] : List UInt8)))) hb) ?_
       exact WL.end_ (kg hK_51')
      ·refine WL.set 17 rfl (congrArg zB hb) ?_
       refine wk ?_
       refine wk ?_
       refine wk ?_
       refine wk ?_
       refine wk ?_
       refine wk ?_
       refine wk ?_
       refine wv (OV.pickF rfl rfl) ?_
       refine WL.set 25 rfl (bF (v := (decide ((([c0] : List UInt8).length : Int) = 2)) || (!decide (([46] : List UInt8) = ([62, 62] : List UInt8)))) hb) ?_
       exact WL.end_ (kg hK_51')
     refine WL.nil ?_
     refine kg (hK_48' [(0, st ([c0] : List UInt8)), (3, zI 4), (5, Value.agg [st ([124] : List UInt8), st ([38, 45] : List UInt8), st ([62, 62] : List UInt8), st ([126] : List UInt8), st ([46] : List UInt8)].toArray), (6, zI 4), (25, zB (((!decide (([c0] : List UInt8) = [])) && (f8 ([46] : List UInt8) ([c0] : List UInt8))) && ((decide ((([c0] : List UInt8).length : Int) = 2)) || (!decide (([46] : List UInt8) = ([62, 62] : List UInt8))))))] _ ?_)
     refine b5 (b := ((!decide (([c0] : List UInt8) = [])) && (f8 ([46] : List UInt8) ([c0] : List UInt8))) && ((decide ((([c0] : List UInt8).length : Int) = 2)) || (!decide (([46] : List UInt8) = ([62, 62] : List UInt8))))) rfl (fun hb => ?_) (fun hb => ?_)
     ·replace h := e8 h hb
      refine a7 (fun _ hK_52' => ?_)
      refine a6 ?_
      refine wm ?_
      refine wA ?_
      refine WL.nil ?_
      refine kg (hK_52' [(2, zI 4)] _ ?_)
      refine b8 ?_
      exact hE.ret [] rfl rfl (.inl ⟨_, h, rfl⟩) (d7.of1 rfl (RV.tmp rfl))
     ·replace h := e9 h hb
      refine b6 ?_
      refine kg (hK_46' [(0, st ([c0] : List UInt8)), (5, Value.agg [st ([124] : List UInt8), st ([38, 45] : List UInt8), st ([62, 62] : List UInt8), st ([126] : List UInt8), st ([46] : List UInt8)].toArray), (6, zI 4)] _ ?_)
      refine a6 ?_
      refine wv (OV.add rfl rfl ⟨by decide, by decide⟩) ?_
      refine wm ?_
      refine WL.nil ?_
      refine kg (hK_43' [(0, st ([c0] : List UInt8)), (5, Value.agg [st ([124] : List UInt8), st ([38, 45] : List UInt8), st ([62, 62] : List UInt8), st ([126] : List UInt8), st ([46] : List UInt8)].toArray), (6, zI 5)] _ ?_)
      refine RC.succ (fun K0_53' hK_53' => ?_)
      refine a7 (fun _ hK_54' => ?_)
      refine a6 ?_
      refine wv (OV.lss rfl rfl) ?_
      refine WL.nil ?_
      refine kg (hK_54' [(0, st ([c0] : List UInt8)), (5, Value.agg [st ([124] : List UInt8), st ([38, 45] : List UInt8), st ([62, 62] : List UInt8), st ([126] : List UInt8), st ([46] : List UInt8)].toArray), (6, zI 5), (7, zB false)] _ ?_)
      refine a7 (fun _ hK_55' => ?_)
      refine d5 rfl ?_
      refine l4 ?_
      refine KX.go (hK_1' [] _ ?_) trivial
      refine a7 (fun _ hK_56' => ?_)
      refine a6 ?_
      refine wA ?_
      refine WL.nil ?_
      refine kg (hK_56' [(2, zI (-1))] _ ?_)
      refine b8 ?_
      exact hE.ret [] rfl rfl (.inl ⟨_, h, rfl⟩) (d7.of1 rfl (RV.tmp rfl))
def ak1  (K : Int → Prop) : Prop :=
 ((!decide (([62, 62] : List UInt8) = [])) = true → (aj7 ([124] : List UInt8) ([62, 62] : List UInt8))) ∧
 (if (((!decide (([62, 62] : List UInt8) = [])) && (f8 ([124] : List UInt8) ([62, 62] : List UInt8))) && true) = true then
  K 0
 else
  ((!decide (([62, 62] : List UInt8) = [])) = true → (aj7 ([38, 45] : List UInt8) ([62, 62] : List UInt8))) ∧
  (if (((!decide (([62, 62] : List UInt8) = [])) && (f8 ([38, 45] : List UInt8) ([62, 62] : List UInt8))) && true) = true then
   K 1
  else
   ((!decide (([62, 62] : List UInt8) = [])) = true → (aj7 ([62, 62] : List UInt8) ([62, 62] : List UInt8))) ∧
   (if (((!decide (([62, 62] : List UInt8) = [])) && (f8 ([62, 62] : List UInt8) ([62, 62] : List UInt8))) && true) = true then
    K 2
   else
    ((!decide (([62, 62] : List UInt8) = [])) = true → (aj7 ([126] : List UInt8) ([62, 62] : List UInt8))) ∧
    (if (((!decide (([62, 62] : List UInt8) = [])) && (f8 ([126] : List UInt8) ([62, 62] : List UInt8))) && true) = true then
     K 3
    else
     ((!decide (([62, 62] : List UInt8) = [])) = true → (aj7 ([46] : List UInt8) ([62, 62] : List UInt8))) ∧
     (if (((!decide (([62, 62] : List UInt8) = [])) && (f8 ([46] : List UInt8) ([62, 62] : List UInt8))) && true) = true then
      K 4
     else
      K (-1))))))
theorem avc (te : TypeId) (fre : Nat × Nat)  (K : Int → Prop) (h : ak1  K) :
  d9 Tryd.prog 55 [st ([62, 62] : List UInt8)] [(0, .cells [st ([124] : List UInt8), st ([38, 45] : List UInt8), st ([62, 62] : List UInt8), st ([126] : List UInt8), st ([46] : List UInt8)].toArray te fre)] [] (fun o => (∃ (v : Int), K v ∧ o = .ret (zI v) []) ∨ (False)) := by
 unfold ak1 at h
 refine c8 (n := 28) (L0 := [(0, st ([62, 62] : List UInt8))]) Tryd.func55 rfl rfl rfl rfl (fun w0 M Q hE => ?_)
 refine a7 (fun _ hK => ?_)
 refine a6 ?_
 refine wA ?_
 refine WL.nil ?_
 refine kg (hK [(0, st ([62, 62] : List UInt8))] _ ?_)
 refine a7 (fun _ hK_1' => ?_)
 refine a7 (fun _ hK_2' => ?_)
 refine a6 ?_
 refine wv (OV.loadR rfl (At.ro 0 rfl) akk) ?_
 refine wm ?_
 refine WL.nil ?_
 refine kg (hK_2' [(0, st ([62, 62] : List UInt8)), (5, Value.agg [st ([124] : List UInt8), st ([38, 45] : List UInt8), st ([62, 62] : List UInt8), st ([126] : List UInt8), st ([46] : List UInt8)].toArray), (6, zI 0)] _ ?_)
 refine b7 ?_
 refine aew 6 ?_
 refine RC.succ (fun K0_3' hK_3' => ?_)
 refine a7 (fun _ hK_4' => ?_)
 refine a6 ?_
 refine wv (OV.lss rfl rfl) ?_
 refine WL.nil ?_
 refine kg (hK_4' [(0, st ([62, 62] : List UInt8)), (5, Value.agg [st ([124] : List UInt8), st ([38, 45] : List UInt8), st ([62, 62] : List UInt8), st ([126] : List UInt8), st ([46] : List UInt8)].toArray), (6, zI 0), (7, zB true)] _ ?_)
 refine a7 (fun _ hK_5' => ?_)
 refine f7 rfl ?_
 refine b6 ?_
 refine kg (hK_5' [(0, st ([62, 62] : List UInt8)), (5, Value.agg [st ([124] : List UInt8), st ([38, 45] : List UInt8), st ([62, 62] : List UInt8), st ([126] : List UInt8), st ([46] : List UInt8)].toArray), (6, zI 0)] _ ?_)
 refine a7 (fun _ hK_6' => ?_)
 refine b7 ?_
 refine a7 (fun _ hK_7' => ?_)
 refine a6 ?_
 refine wm ?_
 refine wv (OV.indexC rfl rfl z6 (by decide) c7 rfl) ?_
 refine wA ?_
 refine wA ?_
 refine WL.nil ?_
 refine kg (hK_7' [(0, st ([62, 62] : List UInt8)), (3, zI 0), (4, st ([124] : List UInt8)), (5, Value.agg [st ([124] : List UInt8), st ([38, 45] : List UInt8), st ([62, 62] : List UInt8), st ([126] : List UInt8), st ([46] : List UInt8)].toArray), (6, zI 0)] _ ?_)
 refine a7 (fun _ hK_8' => ?_)
 refine a6 ?_
 refine wm ?_
 refine wv (OV.neqS rfl rfl) ?_
 refine wm ?_
 obtain ⟨o_1', h⟩ := h
 refine WL.cut 4 [(0, st ([62, 62] : List UInt8)), (3, zI 0), (4, st ([124] : List UInt8)), (5, Value.agg [st ([124] : List UInt8), st ([38, 45] : List UInt8), st ([62, 62] : List UInt8), st ([126] : List UInt8), st ([46] : List UInt8)].toArray), (6, zI 0), (16, zB ((!decide (([62, 62] : List UInt8) = [])) && (f8 ([124] : List UInt8) ([62, 62] : List UInt8))))] ?_ (fun K0_9' hK_9' => ?_)
 rotate_left
 ·refine WL.split (!decide (([62, 62] : List UInt8) = [])) (fun hb => ?_) (fun hb => ?_)
  ·have o := o_1' hb
   refine WL.set 12 rfl (congrArg zB hb) ?_
   refine wm ?_
   refine wm ?_
   refine WL.call (A := []) aa1 rfl (aax ([124] : List UInt8) ([62, 62] : List UInt8) o) rfl trivial rfl rfl ?_
   refine wv (OV.pickT rfl rfl) ?_
   refine WL.set 16 rfl (bT (v := f8 ([124] : List UInt8) ([62, 62] : List UInt8)) hb) ?_
   exact WL.end_ (kg hK_9')
  ·refine WL.set 12 rfl (congrArg zB hb) ?_
   refine wk ?_
   refine wk ?_
   refine wk ?_
   refine wv (OV.pickF rfl rfl) ?_
   refine WL.set 16 rfl (bF (v := f8 ([124] : List UInt8) ([62, 62] : List UInt8)) hb) ?_
   exact WL.end_ (kg hK_9')
 refine wm ?_
 refine WL.cut 8 [(0, st ([62, 62] : List UInt8)), (3, zI 0), (5, Value.agg [st ([124] : List UInt8), st ([38, 45] : List UInt8), st ([62, 62] : List UInt8), st ([126] : List UInt8), st ([46] : List UInt8)].toArray), (6, zI 0), (25, zB (((!decide (([62, 62] : List UInt8) = [])) && (f8 ([124] : List UInt8) ([62, 62] : List UInt8))) && true))] ?_ (fun K0_10' hK_10' => ?_)
 rotate_left
 ·refine WL.split ((!decide (([62, 62] : List UInt8) = [])) && (f8 ([124] : List UInt8) ([62, 62] : List UInt8))) (fun hb => ?_) (fun hb => ?_)
  ·refine WL.set 17 rfl (congrArg zB hb) ?_
   refine wm ?_
   refine wv (OV.len rfl c9) ?_
   refine wv (OV.eql rfl rfl) ?_
   refine wm ?_
   refine wk ?_
   refine wk ?_
   refine wv (OV.pickT rfl rfl) ?_
   refine wv (OV.pickT rfl rfl) ?_
   refine WL.set 25 rfl (bT (v := true) hb) ?_
   exact WL.end_ (kg hK_10')
  ·refine WL.set 17 rfl (congrArg zB hb) ?_
   refine wk ?_
   refine wk ?_
   refine wk ?_
   refine wk ?_
   refine wk ?_
   refine wk ?_
   refine wk ?_
   refine wv (OV.pickF rfl rfl) ?_
   refine WL.set 25 rfl (bF (v := true) hb) ?_
   exact WL.end_ (kg hK_10')
 refine WL.nil ?_
 refine kg (hK_8' [(0, st ([62, 62] : List UInt8)), (3, zI 0), (5, Value.agg [st ([124] : List UInt8), st ([38, 45] : List UInt8), st ([62, 62] : List UInt8), st ([126] : List UInt8), st ([46] : List UInt8)].toArray), (6, zI 0), (25, zB (((!decide (([62, 62] : List UInt8) = [])) && (f8 ([124] : List UInt8) ([62, 62] : List UInt8))) && true))] _ ?_)
 refine b5 (b := ((!decide (([62, 62] : List UInt8) = [])) && (f8 ([124] : List UInt8) ([62, 62] : List UInt8))) && true) rfl (fun hb => ?_) (fun hb => ?_)
 ·replace h := e8 h hb
  refine a7 (fun _ hK_11' => ?_)
  refine a6 ?_
  refine wm ?_
  refine wA ?_
  refine WL.nil ?_
  refine kg (hK_11' [(2, zI 0)] _ ?_)
  refine b8 ?_
  exact hE.ret [] rfl rfl (.inl ⟨_, h, rfl⟩) (d7.of1 rfl (RV.tmp rfl))
 ·replace h := e9 h hb
  refine b6 ?_
  refine kg (hK_6' [(0, st ([62, 62] : List UInt8)), (5, Value.agg [st ([124] : List UInt8), st ([38, 45] : List UInt8), st ([62, 62] : List UInt8), st ([126] : List UInt8), st ([46] : List UInt8)].toArray), (6, zI 0)] _ ?_)
  refine a6 ?_
  refine wv (OV.add rfl rfl ⟨by decide, by decide⟩) ?_
  refine wm ?_
  refine WL.nil ?_
  refine kg (hK_3' [(0, st ([62, 62] : List UInt8)), (5, Value.agg [st ([124] : List UInt8), st ([38, 45] : List UInt8), st ([62, 62] : List UInt8), st ([126] : List UInt8), st ([46] : List UInt8)].toArray), (6, zI 1)] _ ?_)
  refine RC.succ (fun K0_12' hK_12' => ?_)
  refine a7 (fun _ hK_13' => ?_)
  refine a6 ?_
  refine wv (OV.lss rfl rfl) ?_
  refine WL.nil ?_
  refine kg (hK_13' [(0, st ([62, 62] : List UInt8)), (5, Value.agg [st ([124] : List UInt8), st ([38, 45] : List UInt8), st ([62, 62] : List UInt8), st ([126] : List UInt8), st ([46] : List UInt8)].toArray), (6, zI 1), (7, zB true)] _ ?_)
  refine a7 (fun _ hK_14' => ?_)
  refine f7 rfl ?_
  refine b6 ?_
  refine kg (hK_14' [(0, st ([62, 62] : List UInt8)), (5, Value.agg [st ([124] : List UInt8), st ([38, 45] : List UInt8), st ([62, 62] : List UInt8), st ([126] : List UInt8), st ([46] : List UInt8)].toArray), (6, zI 1)] _ ?_)
  refine a7 (fun _ hK_15' => ?_)
  refine b7 ?_
  refine a7 (fun _ hK_16' => ?_)
  refine a6 ?_
  refine wm ?_
  refine wv (OV.indexC rfl rfl z6 (by decide) c7 rfl) ?_
  refine wA ?_
  refine wA ?_
  refine WL.nil ?_
  refine kg (hK_16' [(0, st ([62, 62] : List UInt8)), (3, zI 1), (4, st ([38, 45] : List UInt8)), (5, Value.agg [st ([124] : List UInt8), st ([38, 45] : List UInt8), st ([62, 62] : List UInt8), st ([126] : List UInt8), st ([46] : List UInt8)].toArray), (6, zI 1)] _ ?_)
  refine a7 (fun _ hK_17' => ?_)
  refine a6 ?_
  refine wm ?_
  refine wv (OV.neqS rfl rfl) ?_
  refine wm ?_
  obtain ⟨o_4', h⟩ := h
  refine WL.cut 4 [(0, st ([62, 62] : List UInt8)), (3, zI 1), (4, st ([38, 45] : List UInt8)), (5, Value.agg [st ([124] : List UInt8), st ([38, 45] : List UInt8), st ([62, 62] : List UInt8), st ([126] : List UInt8), st ([46] : List UInt8)].toArray), (6, zI 1), (16, zB ((!decide (([62, 62] : List UInt8) = [])) && (f8 ([38, 45] : List UInt8) ([62, 62] : List UInt8))))] ?_ (fun K0_18' hK_18' => ?_)
  rotate_left
  ·refine WL.split (!decide (([62, 62] : List UInt8) = [])) (fun hb => ?_) (fun hb => ?_)
   ·have o_3' := o_4' hb
    refine WL.set 12 rfl (congrArg zB hb) ?_
    refine wm ?_
    refine wm ?_
    refine WL.call (A := []) aa1 rfl (aax ([38, 45] : List UInt8) ([62, 62] : List UInt8) o_3') rfl trivial rfl rfl ?_
    refine wv (OV.pickT rfl rfl) ?_
    refine WL.set 16 rfl (bT (v := f8 ([38, 45] : List UInt8) ([62, 62] : List UInt8)) hb) ?_
    exact WL.end_ (kg hK_18')
   ·refine WL.set 12 rfl (congrArg zB hb) ?_
    refine wk ?_
    refine wk ?_
    refine wk ?_
    refine wv (OV.pickF rfl rfl) ?_
    refine WL.set 16 rfl (bF (v := f8 ([38, 45] : List UInt8) ([62, 62] : List UInt8)) hb) ?_
    exact WL.end_ (kg hK_18')
  refine wm ?_
  refine WL.cut 8 [(0, st ([62, 62] : List UInt8)), (3, zI 1), (5, Value.agg [st ([124] : List UInt8), st ([38, 45] : List UInt8), st ([62, 62] : List UInt8), st ([126] : List UInt8), st ([46] : List UInt8)].toArray), (6, zI 1), (25, zB (((!decide (([62, 62] : List UInt8) = [])) && (f8 ([38, 45] : List UInt8) ([62, 62] : List UInt8))) && true))] ?_ (fun K0_19' hK_19' => ?_)
  rotate_left
  ·refine WL.split ((!decide (([62, 62] : List UInt8) = [])) && (f8 ([38, 45] : List UInt8) ([62, 62] : List UInt8))) (fun hb => ?_) (fun hb => ?_)
   ·refine WL.set 17 rfl (congrArg zB hb) ?_
    refine wm ?_
    refine wv (OV.len rfl c9) ?_
    refine wv (OV.eql rfl rfl) ?_
    refine wm ?_
    refine wk ?_
    refine wk ?_
    refine wv (OV.pickT rfl rfl) ?_
    refine wv (OV.pickT rfl rfl) ?_
    refine WL.set 25 rfl (bT (v := true) hb) ?_
    exact WL.end_ (kg hK_19')
   ·refine WL.set 17 rfl (congrArg zB hb) ?_
    refine wk ?_
    refine wk ?_
    refine wk ?_
    refine wk ?_
    refine wk ?_
    refine wk ?_
    refine wk ?_
    refine wv (OV.pickF rfl rfl) ?_
    refine WL.set 25 rfl (bF (v := true) hb) ?_
    exact WL.end_ (kg hK_19')
  refine WL.nil ?_
  refine kg (hK_17' [(0, st ([62, 62] : List UInt8)), (3, zI 1), (5, Value.agg [st ([124] : List UInt8), st ([38, 45] : List UInt8), st ([62, 62] : List UInt8), st ([126] : List UInt8), st ([46] : List UInt8)].toArray), (6, zI 1), (25, zB (((!decide (([62, 62] : List UInt8) = [])) && (f8 ([38, 45] : List UInt8) ([62, 62] : List UInt8))) && true))] _ ?_)
  refine b5 (b := ((!decide (([62, 62] : List UInt8) = [])) && (f8 ([38, 45] : List UInt8) ([62, 62] : List UInt8))) && true) rfl (fun hb => ?_) (fun hb => ?_)
  ·replace h := e8 h hb
   refine a7 (fun _ hK_20' => ?_)
   refine a6 ?_
   refine wm ?_
   refine wA ?_
   refine WL.nil ?_
   refine kg (hK_20' [(2, zI 1)] _ ?_)
   refine b8 ?_
   exact hE.ret [] rfl rfl (.inl ⟨_, h, rfl⟩) (d7.of1 rfl (RV.tmp rfl))
  ·replace h := e9 h hb
   refine b6 ?_
   refine kg (hK_15' [(0, st ([62, 62] : List UInt8)), (5, Value.agg [st ([124] : List UInt8), st ([38, 45] : List UInt8), st ([62, 62] : List UInt8), st ([126] : List UInt8), st ([46] : List UInt8)].toArray), (6, zI 1)] _ ?_)
   refine a6 ?_
   refine wv (OV.add rfl rfl ⟨by decide, by decide⟩) ?_
   refine wm ?_
   refine WL.nil ?_
   refine kg (hK_12' [(0, st ([62, 62] : List UInt8)), (5, Value.agg [st ([124] : List UInt8), st ([38, 45] : List UInt8), st ([62, 62] : List UInt8), st ([126] : List UInt8), st ([46] : List UInt8)].toArray), (6, zI 2)] _ ?_)
   refine RC.succ (fun K0_21' hK_21' => ?_)
   refine a7 (fun _ hK_22' => ?_)
   refine a6 ?_
   refine wv (OV.lss rfl rfl) ?_
   refine WL.nil ?_
   refine kg (hK_22' [(0, st ([62, 62] : List UInt8)), (5, Value.agg [st ([124] : List UInt8), st ([38, 45] : List UInt8), st ([62, 62] : List UInt8), st ([126] : List UInt8), st ([46] : List UInt8)].toArray), (6, zI 2), (7, zB true)] _ ?_)
   refine a7 (fun _ hK_23' => ?_)
   refine f7 rfl ?_
   refine b6 ?_
   refine kg (hK_23' [(0, st ([62, 62] : List UInt8)), (5, Value.agg [st ([124] : List UInt8), st ([38, 45] : List UInt8), st ([62, 62] : List UInt8), st ([126] : List UInt8), st ([46] : List UInt8)].toArray), (6, zI 2)] _ ?_)
   refine a7 (fun _ hK_24' => ?_)
   refine b7 ?_
   refine a7 (fun _ hK_25' => ?_)
   refine a6 ?_
   refine wm ?_
   refine wv (OV.indexC rfl rfl z6 (by decide) c7 rfl) ?_
   refine wA ?_
   refine wA ?_
   refine WL.nil ?_
   refine kg (hK_25' [(0, st ([62, 62] : List UInt8)), (3, zI 2), (4, st ([62, 62] : List UInt8)), (5, Value.agg [st ([124] : List UInt8), st ([38, 45] : List UInt8), st ([62, 62] : List UInt8), st ([126] : List UInt8), st ([46] : List UInt8)].toArray), (6, zI 2)] _ ?_)
   refine a7 (fun _ hK_26' => ?_)
   refine a6 ?_
   refine wm ?_
   refine wv (OV.neqS rfl rfl) ?_
   refine wm ?_
   obtain ⟨o_7', h⟩ := h
   refine WL.cut 4 [(0, st ([62, 62] : List UInt8)), (3, zI 2), (4, st ([62, 62] : List UInt8)), (5, Value.agg [st ([124] : List UInt8), st ([38, 45] : List UInt8), st ([62, 62] : List UInt8), st ([126] : List UInt8), st ([46] : List UInt8)].toArray), (6, zI 2), (16, zB ((!decide (([62, 62] : List UInt8) = [])) && (f8 ([62, 62] : List UInt8) ([62, 62] : List UInt8))))] ?_ (fun K0_27' hK_27' => ?_)
   rotate_left
   ·refine WL.split (!decide (([62, 62] : List UInt8) = [])) (fun hb => ?_) (fun hb => ?_)
    ·have o_6' := o_7' hb
     refine WL.set 12 rfl (congrArg zB hb) ?_
     refine wm ?_
     refine wm ?_
     refine WL.call (A := []) aa1 rfl (aax ([62, 62] : List UInt8) ([62, 62] : List UInt8) o_6') rfl trivial rfl rfl ?_
     refine wv (OV.pickT rfl rfl) ?_
     refine WL.set 16 rfl (bT (v := f8 ([62, 62] : List UInt8) ([62, 62] : List UInt8)) hb) ?_
     exact WL.end_ (kg hK_27')
    ·refine WL.set 12 rfl (congrArg zB hb) ?_
     refine wk ?_
     refine wk ?_
     refine wk ?_
     refine wv (OV.pickF rfl rfl) ?_
     refine WL.set 16 rfl (bF (v := f8 ([62, 62] : List UInt8) ([62, 62] : List UInt8)) hb) ?_
     exact WL.end_ (kg hK_27')
   refine wm ?_
   refine WL.cut 8 [(0, st ([62, 62] : List UInt8)), (3, zI 2), (5, Value.agg [st ([124] : List UInt8), st ([38, 45] : List UInt8), st ([62, 62] : List UInt8), st ([126] : List UInt8), st ([46] : List UInt8)].toArray), (6, zI 2), (25, zB (((!decide (([62, 62] : List UInt8) = [])) && (f8 ([62, 62] : List UInt8) ([62, 62] : List UInt8))) && true))] ?_ (fun K0_28' hK_28' => ?_)
   rotate_left
   ·refine WL.split ((!decide (([62, 62] : List UInt8) = [])) && (f8 ([62, 62] : List UInt8) ([62, 62] : List UInt8))) (fun hb => ?_) (fun hb => ?_)
    ·refine WL.set 17 rfl (congrArg zB hb) ?_
     refine wm ?_
     refine wv (OV.len rfl c9) ?_
     refine wv (OV.eql rfl rfl) ?_
     refine wm ?_
     refine wk ?_
     refine wk ?_
     refine wv (OV.pickT rfl rfl) ?_
     refine wv (OV.pickT rfl rfl) ?_
     refine WL.set 25 rfl (bT (v := true) hb) ?_
     exact WL.end_ (kg hK_28')
    ·refine WL.set 17 rfl (congrArg zB hb) ?_
     refine wk ?_
     refine wk ?_
     refine wk ?_
     refine wk ?_
     refine wk ?_
     refine wk ?_
     refine wk ?_
     refine wv (OV.pickF rfl rfl) ?_
     refine WL.set 25 rfl (bF (v := true) hb) ?_
     exact WL.end_ (kg hK_28')
   refine WL.nil ?_
   refine kg (hK_26' [(0, st ([62, 62] : List UInt8)), (3, zI 2), (5, Value.agg [st ([124] : List UInt8), st ([38, 45] : List UInt8), st ([62, 62] : List UInt8), st ([126] : List UInt8), st ([46] : List UInt8)].toArray), (6, zI 2), (25, zB (((!decide (([62, 62] : List UInt8) = [])) && (f8 ([62, 62] : List UInt8) ([62, 62] : List UInt8))) && true))] _ ?_)
   refine b5 (b := ((!decide (([62, 62] : List UInt8) = [])) && (f8 ([62, 62] : List UInt8) ([62, 62] : List UInt8))) && true) rfl (fun hb => ?_) (fun hb => ?_)
   ·replace h := e8 h hb
    refine a7 (fun _ hK_29' => ?_)
    refine a6 ?_
    refine wm ?_
    refine wA ?_
    refine WL.nil ?_
    refine kg (hK_29' [(2, zI 2)] _ ?_)
    refine b8 ?_
    exact hE.ret [] rfl rfl (.inl ⟨_, h, rfl⟩) (d7.of1 rfl (RV.tmp rfl))
   ·replace h := e9 h hb
    refine b6 ?_
    refine kg (hK_24' [(0, st ([62, 62] : List UInt8)), (5, Value.agg [st ([124] : List UInt8), st ([38, 45] : List UInt8), st ([62, 62] : List UInt8), st ([126] : List UInt8), st ([46] : List UInt8)].toArray), (6, zI 2)] _ ?_)
    refine a6 ?_
    refine wv (OV.add rfl rfl ⟨by decide, by decide⟩) ?_
    refine wm ?_
    refine WL.nil ?_
    refine kg (hK_21' [(0, st ([62, 62] : List UInt8)), (5, Value.agg [st ([124] : List UInt8), st ([38, 45] : List UInt8), st ([62, 62] : List UInt8), st ([126] : List UInt8), st ([46] : List UInt8)].toArray), (6, zI 3)] _ ?_)
    refine RC.succ (fun K0_30' hK_30' => ?_)
    refine a7 (fun _ hK_31' => ?_)
    refine a6 ?_
    refine wv (OV.lss rfl rfl) ?_
    refine WL.nil ?_
    refine kg (hK_31' [(0, st ([62, 62] : List UInt8)), (5, Value.agg [st ([124] : List UInt8), st ([38, 45] : List UInt8), st ([62, 62] : List UInt8), st ([126] : List UInt8), st ([46] : List UInt8)].toArray), (6, zI 3), (7, zB true)] _ ?_)
    refine a7 (fun _ hK_32' => ?_)
    refine f7 rfl ?_
    refine b6 ?_
    refine kg (hK_32' [(0, st ([62, 62] : List UInt8)), (5, Value.agg [st ([124] : List UInt8), st ([38, 45] : List UInt8), st ([62, 62] : List UInt8), st ([126] : List UInt8), st ([46] : List UInt8)].toArray), (6, zI 3)] _ ?_)
    refine a7 (fun _ hK_33' => ?_)
    refine b7 ?_
    refine a7 (fun _ hK_34' => ?_)
    refine a6 ?_
    refine wm ?_
    refine wv (OV.indexC rfl rfl z6 (by decide) c7 rfl) ?_
    refine wA ?_
    refine wA ?_
    refine WL.nil ?_
    refine kg (hK_34' [(0, st ([62, 62] : List UInt8)), (3, zI 3), (4, st ([126] : List UInt8)), (5, Value.agg [st ([124] : List UInt8), st ([38, 45] : List UInt8), st ([62, 62] : List UInt8), st ([126] : List UInt8), st ([46] : List UInt8)].toArray), (6, zI 3)] _ ?_)
    refine a7 (fun _ hK_35' => ?_)
    refine a6 ?_
    refine wm ?_
    refine wv (OV.neqS rfl rfl) ?_
    refine wm ?_
    obtain ⟨o_10', h⟩ := h
    refine WL.cut 4 [(0, st ([62, 62] : List UInt8)), (3, zI 3), (4, st ([126] : List UInt8)), (5, Value.agg [st ([124] : List UInt8), st ([38, 45] : List UInt8), st ([62, 62] : List UInt8), st ([126] : List UInt8), st ([46] : List UInt8)].toArray), (6, zI 3), (16, zB ((!decide (([62, 62] : List UInt8) = [])) && (f8 ([126] : List UInt8) ([62, 62] : List UInt8))))] ?_ (fun K0_36' hK_36' => ?_)
    rotate_left
    ·refine WL.split (!decide (([62, 62] : List UInt8) = [])) (fun hb => ?_) (fun hb => ?_)
     ·have o_9' := o_10' hb
      refine WL.set 12 rfl (congrArg zB hb) ?_
      refine wm ?_
      refine wm ?_
      refine WL.call (A := []) aa1 rfl (aax ([126] : List UInt8) ([62, 62] : List UInt8) o_9') rfl trivial rfl rfl ?_
      refine wv (OV.pickT rfl rfl) ?_
      refine WL.set 16 rfl (bT (v := f8 ([126] : List UInt8) ([62, 62] : List UInt8)) hb) ?_
      exact WL.end_ (kg hK_36')
     ·refine WL.set 12 rfl (congrArg zB hb) ?_
      refine wk ?_
      refine wk ?_
      refine wk ?_
      refine wv (OV.pickF rfl rfl) ?_
      refine WL.set 16 rfl (bF (v := f8 ([126] : List UInt8) ([62, 62] : List UInt8)) hb) ?_
      exact WL.end_ (kg hK_36')
    refine wm ?_
    refine WL.cut 8 [(0, st ([62, 62] : List UInt8)), (3, zI 3), (5, Value.agg [st ([124] : List UInt8), st ([38, 45] : List UInt8), st ([62, 62] : List UInt8), st ([126] : List UInt8), st ([46] : List UInt8)].toArray), (6, zI 3), (25, zB (((!decide (([62, 62] : List UInt8) = [])) && (f8 ([126] : List UInt8) ([62, 62] : List UInt8))) && true))] ?_ (fun K0_37' hK_37' => ?_)
    rotate_left
    ·refine WL.split ((!decide (([62, 62] : List UInt8) = [])) && (f8 ([126] : List UInt8) ([62, 62] : List UInt8))) (fun hb => ?_) (fun hb => ?_)
     ·refine WL.set 17 rfl (congrArg zB hb) ?_
      refine wm ?_
      refine wv (OV.len rfl c9) ?_
      refine wv (OV.eql rfl rfl) ?_
      refine wm ?_
      refine wk ?_
      refine wk ?_
      refine wv (OV.pickT rfl rfl) ?_
      refine wv (OV.pickT rfl rfl) ?_
      refine WL.set 25 rfl (bT (v := true) hb) ?_
      exact WL.end_ (kg hK_37')
     ·refine WL.set 17 rfl (congrArg zB hb) ?_
      refine wk ?_
      refine wk ?_
      refine wk ?_
      refine wk ?_
      refine wk ?_
      refine wk ?_
      refine wk ?_
      refine wv (OV.pickF rfl rfl) ?_
      refine WL.set 25 rfl (bF (v := true) hb) ?_
      exact WL.end_ (kg hK_37')
    refine WL.nil ?_
    refine kg (hK_35' [(0, st ([62, 62] : List UInt8)), (3, zI 3), (5, Value.agg [st ([124] : List UInt8), st ([38, 45] : List UInt8), st ([62, 62] : List UInt8), st ([126] : List UInt8), st ([46] : List UInt8)].toArray), (6, zI 3), (25, zB (((!decide (([62, 62] : List UInt8) = [])) && (f8 ([126] : List UInt8) ([62, 62] : List UInt8))) && true))] _ ?_)
    refine b5 (b := ((!decide (([62, 62] : List UInt8) = [])) && (f8 ([126] : List UInt8) ([62, 62] : List UInt8))) && true) rfl (fun hb => ?_) (fun hb => ?_)
    ·replace h := e8 h hb
     refine a7 (fun _ hK_38' => ?_)
     refine a6 ?_
     refine wm ?_
     refine wA ?_
     refine WL.nil ?_
     refine kg (hK_38' [(2, zI 3)] _ ?_)
     refine b8 ?_
     exact hE.ret [] rfl rfl (.inl ⟨_, h, rfl⟩) (d7.of1 rfl (RV.tmp rfl))
    ·replace h := e9 h hb
     refine b6 ?_
     refine kg (hK_33' [(0, st ([62, 62] : List UInt8)), (5, Value.agg [st ([124] : List UInt8), st ([38, 45] : List UInt8), st ([62, 62] : List UInt8), st ([126] : List UInt8), st ([46] : List UInt8)].toArray), (6, zI 3)] _ ?_)
     refine a6 ?_
     refine wv (OV.add rfl rfl ⟨by decide, by decide⟩) ?_
     refine wm ?_
     refine WL.nil ?_
     refine kg (hK_30' [(0, st ([62, 62] : List UInt8)), (5, Value.agg [st ([124] : List UInt8), st ([38, 45] : List UInt8), st ([62, 62] : List UInt8), st ([126] : List UInt8), st ([46] : List UInt8)].toArray), (6, zI 4)] _ ?_)
     refine RC.succ (fun K0_39' hK_39' => ?_)
     refine a7 (fun _ hK_40' => ?_)
     refine a6 ?_
     refine wv (OV.lss rfl rfl) ?_
     refine WL.nil ?_
     refine kg (hK_40' [(0, st ([62, 62] : List UInt8)), (5, Value.agg [st ([124] : List UInt8), st ([38, 45] : List UInt8), st ([62, 62] : List UInt8), st ([126] : List UInt8), st ([46] : List UInt8)].toArray), (6, zI 4), (7, zB true)] _ ?_)
     refine a7 (fun _ hK_41' => ?_)
     refine f7 rfl ?_
     refine b6 ?_
     refine kg (hK_41' [(0, st ([62, 62] : List UInt8)), (5, Value.agg [st ([124] : List UInt8), st ([38, 45] : List UInt8), st ([62, 62] : List UInt8), st ([126] : List UInt8), st ([46] : List UInt8)].toArray), (6, zI 4)] _ ?_)
     refine a7 (fun _ hK_42' => ?_)
     refine b7 ?_
     refine a7 (fun _ hK_43' => ?_)
     refine a6 ?_
     refine wm ?_
     refine wv (OV.indexC rfl rfl z6 (by decide) c7 rfl) ?_
     refine wA ?_
     refine wA ?_
     refine WL.nil ?_
     refine kg (hK_43' [(0, st ([62, 62] : List UInt8)), (3, zI 4), (4, st ([46] : List UInt8)), (5, Value.agg [st ([124] : List UInt8), st ([38, 45] : List UInt8), st ([62, 62] : List UInt8), st ([126] : List UInt8), st ([46] : List UInt8)].toArray), (6, zI 4)] _ ?_)
     refine a7 (fun _ hK_44' => ?_)
     refine a6 ?_
     refine wm ?_
     refine wv (OV.neqS rfl rfl) ?_
     refine wm ?_
     obtain ⟨o_13', h⟩ := h
     refine WL.cut 4 [(0, st ([62, 62] : List UInt8)), (3, zI 4), (4, st ([46] : List UInt8)), (5, Value.agg [st ([124] : List UInt8), st ([38, 45] : List UInt8), st ([62, 62] : List UInt8), st ([126] : List UInt8), st ([46] : List UInt8)].toArray), (6, zI 4), (16, zB ((!decide (([62, 62] : List UInt8) = [])) && (f8 ([46] : List UInt8) ([62, 62] : List UInt8))))] ?_ (fun K0_45' hK_45' => ?_)
     rotate_left
     ·refine WL.split (!decide (([62, 62] : List UInt8) = [])) (fun hb => ?_) (fun hb => ?_)
      ·have o_12' := o_13' hb
       refine WL.set 12 rfl (congrArg zB hb) ?_
       refine wm ?_
       refine wm ?_
       refine WL.call (A := []) aa1 rfl (aax ([46] : List UInt8) ([62, 62] : List UInt8) o_12') rfl trivial rfl rfl ?_
       refine wv (OV.pickT rfl rfl) ?_
       refine WL.set 16 rfl (bT (v := f8 ([46] : List UInt8) ([62, 62] : List UInt8)) hb) ?_
       exact WL.end_ (kg hK_45')
      ·refine WL.set 12 rfl (congrArg zB hb) ?_
       refine wk ?_
       refine wk ?_
       refine wk ?_
       refine wv (OV.pickF rfl rfl) ?_
       refine WL.set 16 rfl (bF (v := f8 ([46] : List UInt8) ([62, 62] : List UInt8)) hb) ?_
       exact WL.end_ (kg hK_45')
     refine wm ?_
     refine WL.cut 8 [(0, st ([62, 62] : List UInt8)), (3, zI 4), (5, Value.agg [st ([124] : List UInt8), st ([38, 45] : List UInt8), st ([62, 62] : List UInt8), st ([126] : List UInt8), st ([46] : List UInt8)].toArray), (6, zI 4), (25, zB (((!decide (([62, 62] : List UInt8) = [])) && (f8 ([46] : List UInt8) ([62, 62] : List UInt8))) && true))] ?_ (fun K0_46' hK_46' => ?_)
     rotate_left
     ·refine WL.split ((!decide (([62, 62] : List UInt8) = [])) && (f8 ([46] : List UInt8) ([62, 62] : List UInt8))) (fun hb => ?_) (fun hb => ?_)
      ·refine WL.set 17 rfl (congrArg zB hb) ?_
       refine wm ?_
       refine wv (OV.len rfl c9) ?_
       refine wv (OV.eql rfl rfl) ?_
       refine wm ?_
       refine wk ?_
       refine wk ?_
       refine wv (OV.pickT rfl rfl) ?_
       refine wv (OV.pickT rfl rfl) ?_
       refine WL.set 25 rfl (bT (v := true) hb) ?_
       exact WL.end_ (kg hK_46')
      ·refine WL.set 17 rfl (congrArg zB hb) ?_
       refine wk ?_
       refine wk ?_
       refine wk ?_
       refine wk ?_
       refine wk ?_
       refine wk ?_
       refine wk ?_
       refine wv (OV.pickF rfl rfl) ?_
       refine WL.set 25 rfl (bF (v := true) hb) ?_
       exact WL.end_ (kg hK_46')
     refine WL.nil ?_
     refine kg (hK_44' [(0, st ([62, 62] : List UInt8)), (3, zI 4), (5, Value.agg [st ([124] : List UInt8), st ([38, 45] : List UInt8), st ([62, 62] : List UInt8), st ([126] : List UInt8), st ([46] : List UInt8)].toArray), (6, zI 4), (25, zB (((!decide (([62, 62] : List UInt8) = [])) && (f8 ([46] : List UInt8) ([62, 62] : List UInt8))) && true))] _ ?_)
     refine b5 (b := ((!decide (([62, 62] : List UInt8) = [])) && (f8 ([46] : List UInt8) ([62, 62] : List UInt8))) && true) rfl (fun hb => ?_) (fun hb => ?_)
     ·replace h := e8 h hb
      refine a7 (fun _ hK_47' => ?_)
      refine a6 ?_
      refine wm ?_
      refine wA ?_
      refine WL.nil ?_
      refine kg (hK_47' [(2, zI 4)] _ ?_)
      refine b8 ?_
      exact hE.ret [] rfl rfl (.inl ⟨_, h, rfl⟩) (d7.of1 rfl (RV.tmp rfl))
     ·replace h := e9 h hb
      refine b6 ?_
      refine kg (hK_42' [(0, st ([62, 62] : List UInt8)), (5, Value.agg [st ([124] : List UInt8), st ([38, 45] : List UInt8), st ([62, 62] : List UInt8), st ([126] : List UInt8), st ([46] : List UInt8)].toArray), (6, zI 4)] _ ?_)
      refine a6 ?_
      refine wv (OV.add rfl rfl ⟨by decide, by decide⟩) ?_
      refine wm ?_
      refine WL.nil ?_
      refine kg (hK_39' [(0, st ([62, 62] : List UInt8)), (5, Value.agg [st ([124] : List UInt8), st ([38, 45] : List UInt8), st ([62, 62] : List UInt8), st ([126] : List UInt8), st ([46] : List UInt8)].toArray), (6, zI 5)] _ ?_)
      refine RC.succ (fun K0_48' hK_48' => ?_)
      refine a7 (fun _ hK_49' => ?_)
      refine a6 ?_
      refine wv (OV.lss rfl rfl) ?_
      refine WL.nil ?_
      refine kg (hK_49' [(0, st ([62, 62] : List UInt8)), (5, Value.agg [st ([124] : List UInt8), st ([38, 45] : List UInt8), st ([62, 62] : List UInt8), st ([126] : List UInt8), st ([46] : List UInt8)].toArray), (6, zI 5), (7, zB false)] _ ?_)
      refine a7 (fun _ hK_50' => ?_)
      refine d5 rfl ?_
      refine l4 ?_
      refine KX.go (hK_1' [] _ ?_) trivial
      refine a7 (fun _ hK_51' => ?_)
      refine a6 ?_
      refine wA ?_
      refine WL.nil ?_
      refine kg (hK_51' [(2, zI (-1))] _ ?_)
      refine b8 ?_
      exact hE.ret [] rfl rfl (.inl ⟨_, h, rfl⟩) (d7.of1 rfl (RV.tmp rfl))
theorem aez (w : Bs) : d9 Tryd.prog 40 [st w] [] [] (Ret (.int .i64 (d6 w)) []) := by
 refine d9.one (e := fun v => .int .i64 v) (aug w (fun v => v = d6 w) ?_)
 unfold alg d6
 refine ⟨fun b => b = decide (w = [99, 111, 112, 121] ∨ w = [107, 101, 121] ∨ w = [105, 110, 115] ∨ w = [105, 100] ∨ w = [102, 111, 108, 100]), fun b hb => ?_, ?_⟩
 ·subst hb
  by_cases h1 : w = [99, 111, 112, 121] ∨ w = [107, 101, 121] ∨ w = [105, 110, 115] ∨ w = [105, 100] ∨ w = [102, 111, 108, 100]
  ·rw [if_pos (decide_eq_true h1), if_pos h1]
  ·rw [if_neg (by rw [decide_eq_true_eq]; exact h1), if_neg h1]
   refine ⟨fun b => b = decide (w = [100, 101, 108] ∨ w = [108, 101, 102, 116] ∨ w = [114, 105, 103, 104, 116] ∨ w = [100, 101, 102, 97, 117, 108, 116]), fun b hb => ?_, ?_⟩
   ·subst hb
    by_cases h2 : w = [100, 101, 108] ∨ w = [108, 101, 102, 116] ∨ w = [114, 105, 103, 104, 116] ∨ w = [100, 101, 102, 97, 117, 108, 116]
    ·rw [if_pos (decide_eq_true h2), if_pos h2]
    ·rw [if_neg (by rw [decide_eq_true_eq]; exact h2), if_neg h2]
     by_cases h3 : w = [110, 111, 114, 109]
     ·rw [if_pos (decide_eq_true h3), if_pos h3]
     rw [if_neg (by rw [decide_eq_true_eq]; exact h3), if_neg h3]
     by_cases h4 : w = [108, 101, 116]
     ·rw [if_pos (decide_eq_true h4), if_pos h4]
     rw [if_neg (by rw [decide_eq_true_eq]; exact h4), if_neg h4]
   ·clear h1
    by_cases g1 : w = [100, 101, 108]
    ·rw [if_pos (decide_eq_true g1), decide_eq_true g1]; exact (decide_eq_true (.inl g1)).symm
    rw [if_neg (by rw [decide_eq_true_eq]; exact g1)]
    by_cases g2 : w = [108, 101, 102, 116]
    ·rw [if_pos (decide_eq_true g2), decide_eq_true g2]; exact (decide_eq_true (.inr (.inl g2))).symm
    rw [if_neg (by rw [decide_eq_true_eq]; exact g2)]
    by_cases g3 : w = [114, 105, 103, 104, 116]
    ·rw [if_pos (decide_eq_true g3), decide_eq_true g3]; exact (decide_eq_true (.inr (.inr (.inl g3)))).symm
    rw [if_neg (by rw [decide_eq_true_eq]; exact g3)]
    simp only [g1, g2, g3, false_or]
 ·by_cases g1 : w = [99, 111, 112, 121]
  ·rw [if_pos (decide_eq_true g1), decide_eq_true g1]; exact (decide_eq_true (.inl g1)).symm
  rw [if_neg (by rw [decide_eq_true_eq]; exact g1)]
  by_cases g2 : w = [107, 101, 121]
  ·rw [if_pos (decide_eq_true g2), decide_eq_true g2]; exact (decide_eq_true (.inr (.inl g2))).symm
  rw [if_neg (by rw [decide_eq_true_eq]; exact g2)]
  by_cases g3 : w = [105, 110, 115]
  ·rw [if_pos (decide_eq_true g3), decide_eq_true g3]; exact (decide_eq_true (.inr (.inr (.inl g3)))).symm
  rw [if_neg (by rw [decide_eq_true_eq]; exact g3)]
  by_cases g4 : w = [105, 100]
  ·rw [if_pos (decide_eq_true g4), decide_eq_true g4]; exact (decide_eq_true (.inr (.inr (.inr (.inl g4))))).symm
  rw [if_neg (by rw [decide_eq_true_eq]; exact g4)]
  simp only [g1, g2, g3, g4, false_or]
theorem avh : alo [124] ∧ alo [38, 45] ∧ alo [62, 62] ∧ alo [126] ∧ alo [46] := ⟨.inl rfl, .inr (.inl rfl), .inr (.inr (.inl rfl)), .inr (.inr (.inr (.inl rfl))), .inr (.inr (.inr (.inr rfl)))⟩
theorem aiq (te : TypeId) (fre : Nat × Nat) (s : Bs) (h : aeq s) : d9 Tryd.prog 55 [st s] (ad4 te fre) [] (Ret (.int .i64 (d8 s)) []) := by
 obtain ⟨f1, f2, f3, f4, f5⟩ := avh
 rcases h with rfl | ⟨c, rfl⟩
 ·refine d9.one (e := fun v => .int .i64 v) (avc te fre (fun v => v = d8 [62, 62]) ?_)
  unfold ak1
  refine ⟨fun _ => ⟨f1, .inl rfl⟩, ?_⟩
  rw [if_neg (by decide)]
  refine ⟨fun _ => ⟨f2, .inl rfl⟩, ?_⟩
  rw [if_neg (by decide)]
  refine ⟨fun _ => ⟨f3, .inl rfl⟩, ?_⟩
  rw [if_pos (by decide)]
  decide
 ·refine d9.one (e := fun v => .int .i64 v) (avx te fre c (fun v => v = d8 [c]) ?_)
  unfold alh
  have key : ∀ (x : UInt8), ((((!decide (([c] : List UInt8) = [])) && (f8 [x] [c])) && ((decide (((([c] : List UInt8).length : Nat) : Int) = 2)) || (!decide (([x] : List UInt8) = ([62, 62] : List UInt8))))) = true) ↔ c = x := by
   intro x
   have h1 : (decide (((([c] : List UInt8).length : Nat) : Int) = 2)) = false := rfl
   have h2 : f8 [x] [c] = decide (c = x) := by
    unfold f8
    rw [if_neg (by simp)]
    show decide (0 ≤ Lib.indexByte [x] c) = _
    rw [decide_eq_decide, acb]
    simp [eq_comm]
   rw [h1, h2]
   simp
  refine ⟨fun _ => ⟨f1, .inr ⟨c, rfl⟩⟩, ?_⟩
  by_cases g1 : c = 124
  ·rw [if_pos ((key 124).2 g1)]; rw [g1]; decide
  rw [if_neg (fun h => g1 ((key 124).1 h))]
  refine ⟨fun _ => ⟨f2, .inr ⟨c, rfl⟩⟩, ?_⟩
  have k2 : ((((!decide (([c] : List UInt8) = [])) && (f8 [38, 45] [c])) && ((decide (((([c] : List UInt8).length : Nat) : Int) = 2)) || (!decide (([38, 45] : List UInt8) = ([62, 62] : List UInt8))))) = true) ↔ c = 38 ∨ c = 45 := by
   have h1 : (decide (((([c] : List UInt8).length : Nat) : Int) = 2)) = false := rfl
   have h2 : f8 [38, 45] [c] = decide (c = 38 ∨ c = 45) := by
    unfold f8
    rw [if_neg (by simp)]
    show decide (0 ≤ Lib.indexByte [38, 45] c) = _
    rw [decide_eq_decide, acb]
    simp
   rw [h1, h2]
   simp
  by_cases g2 : c = 38 ∨ c = 45
  ·rw [if_pos (k2.2 g2)]; rcases g2 with rfl | rfl <;> decide
  rw [if_neg (fun h => g2 (k2.1 h))]
  rw [not_or] at g2
  refine ⟨fun _ => ⟨f3, .inr ⟨c, rfl⟩⟩, ?_⟩
  rw [if_neg (by
   have h1 : (decide (((([c] : List UInt8).length : Nat) : Int) = 2)) = false := rfl
   rw [h1]; simp)]
  refine ⟨fun _ => ⟨f4, .inr ⟨c, rfl⟩⟩, ?_⟩
  by_cases g4 : c = 126
  ·rw [if_pos ((key 126).2 g4)]; rw [g4]; decide
  rw [if_neg (fun h => g4 ((key 126).1 h))]
  refine ⟨fun _ => ⟨f5, .inr ⟨c, rfl⟩⟩, ?_⟩
  by_cases g5 : c = 46
  ·rw [if_pos ((key 46).2 g5)]; rw [g5]; decide
  rw [if_neg (fun h => g5 ((key 46).1 h))]
  unfold d8
  simp [g1, g2.1, g2.2, g4, g5]
def arr (ts : List Tok) (k0 : Nat) (op0 : Int) (K : Int → Int → (List UInt8) → Nat → Int → (List Tok) → Prop) : Prop :=
 (0 ≤ (0 : Int) ∧ ((k0 : Nat) : Int) + (0 : Int) < (ts.length : Int)) ∧
 K ((ts.getD (k0 + ((0 : Int)).toNat) default).1) ((ts.getD (k0 + ((0 : Int)).toNat) default).2.1) ((ts.getD (k0 + ((0 : Int)).toNat) default).2.2) k0 op0 ts
theorem awi (pb : Nat) (wa : Value) (ts : List Tok) (k0 : Nat) (op0 : Int) (K : Int → Int → (List UInt8) → Nat → Int → (List Tok) → Prop) (h : arr ts k0 op0 K) :
  d9 Tryd.prog 38 [zP pb] [] [HA.blk pb (.cells [l5 wa 3 k0, zI op0].toArray 55 (0, 0)), HA.row wa 102 3 ts.length (ts.flatMap e6)] (fun o => (∃ (v_0 : Int) (v_1 : Int) (v_2 : List UInt8) (d_1'_0 : Nat) (d_1'_1 : Int) (d : List Tok), K v_0 v_1 v_2 d_1'_0 d_1'_1 d ∧ o = .ret (Value.agg [zI v_0, zI v_1, st v_2].toArray) [HA.blk pb (.cells [l5 wa 3 d_1'_0, zI d_1'_1].toArray 55 (0, 0)), HA.row wa 102 3 d.length (d.flatMap e6)]) ∨ (False)) := by
 unfold arr at h
 refine c8 (n := 9) (L0 := [(0, zP pb)]) Tryd.func38 rfl rfl rfl rfl (fun w0 M Q hE => ?_)
 refine a7 (fun _ hK => ?_)
 refine a6 ?_
 refine WL.make (MV.alloc aak) rfl rfl rfl (fun b => ?_)
 refine WL.nil ?_
 refine kg (hK [(0, zP pb), (2, zP b)] _ ?_)
 refine a7 (fun _ hK_1' => ?_)
 refine a6 ?_
 refine wm ?_
 refine wv (OV.nilCheck rfl) ?_
 refine wv (OV.fieldAddr0 rfl acp) ?_
 refine wv (OV.load rfl (At.own 1 rfl) rfl adt) ?_
 obtain ⟨o, h⟩ := h
 refine wv (OV.indexSuf (k := k0) 2 rfl rfl rfl af6 o) ?_
 refine wv (OV.loadE (f := e6) 2 rfl rfl p9 (by decide) (by omega) adh) ?_
 refine WL.storeW (vs := [zI ((ts.getD (k0 + ((0 : Int)).toNat) default).1), zI ((ts.getD (k0 + ((0 : Int)).toNat) default).2.1), st ((ts.getD (k0 + ((0 : Int)).toNat) default).2.2)]) 0 rfl rfl rfl rfl rfl aam rfl rfl rfl ?_
 refine WL.nil ?_
 refine kg (hK_1' [(2, zP b)] _ ?_)
 refine b8 ?_
 exact hE.ret [1, 2] rfl rfl (.inl ⟨_, _, _, _, _, _, h, rfl⟩) (d7.of1 rfl (RV.row rfl (At.own 0 rfl) adh))
def art (ts : List Tok) (k0 : Nat) (op0 : Int) (K : Int → Int → (List UInt8) → Nat → Int → (List Tok) → Prop) : Prop :=
 (0 ≤ (0 : Int) ∧ ((k0 : Nat) : Int) + (0 : Int) < (ts.length : Int)) ∧
 (k0 < ts.length) ∧
 (k0 + 1 ≤ ts.length) ∧
 K ((ts.getD (k0 + ((0 : Int)).toNat) default).1) ((ts.getD (k0 + ((0 : Int)).toNat) default).2.1) ((ts.getD (k0 + ((0 : Int)).toNat) default).2.2) (k0 + 1) op0 ts
theorem awa (pb : Nat) (wa : Value) (ts : List Tok) (k0 : Nat) (op0 : Int) (K : Int → Int → (List UInt8) → Nat → Int → (List Tok) → Prop) (h : art ts k0 op0 K) :
  d9 Tryd.prog 39 [zP pb] [] [HA.blk pb (.cells [l5 wa 3 k0, zI op0].toArray 55 (0, 0)), HA.row wa 102 3 ts.length (ts.flatMap e6)] (fun o => (∃ (v_0 : Int) (v_1 : Int) (v_2 : List UInt8) (d_1'_0 : Nat) (d_1'_1 : Int) (d : List Tok), K v_0 v_1 v_2 d_1'_0 d_1'_1 d ∧ o = .ret (Value.agg [zI v_0, zI v_1, st v_2].toArray) [HA.blk pb (.cells [l5 wa 3 d_1'_0, zI d_1'_1].toArray 55 (0, 0)), HA.row wa 102 3 d.length (d.flatMap e6)]) ∨ (False)) := by
 unfold art at h
 refine c8 (n := 19) (L0 := [(0, zP pb)]) Tryd.func39 rfl rfl rfl rfl (fun w0 M Q hE => ?_)
 refine a7 (fun _ hK => ?_)
 refine a6 ?_
 refine WL.make (MV.alloc aak) rfl rfl rfl (fun b => ?_)
 refine WL.nil ?_
 refine kg (hK [(0, zP pb), (2, zP b)] _ ?_)
 refine a7 (fun _ hK_1' => ?_)
 refine a6 ?_
 refine wm ?_
 refine wv (OV.nilCheck rfl) ?_
 refine wv (OV.fieldAddr0 rfl acp) ?_
 refine wv (OV.load rfl (At.own 1 rfl) rfl adt) ?_
 obtain ⟨o, h⟩ := h
 refine wv (OV.indexSuf (k := k0) 2 rfl rfl rfl af6 o) ?_
 refine wv (OV.loadE (f := e6) 2 rfl rfl p9 (by decide) (by omega) adh) ?_
 refine WL.make (MV.alloc aak) rfl rfl rfl (fun b_1' => ?_)
 refine WL.storeW (vs := [zI ((ts.getD (k0 + ((0 : Int)).toNat) default).1), zI ((ts.getD (k0 + ((0 : Int)).toNat) default).2.1), st ((ts.getD (k0 + ((0 : Int)).toNat) default).2.2)]) 0 rfl rfl rfl rfl rfl aam rfl rfl rfl ?_
 refine WL.nil ?_
 refine kg (hK_1' [(0, zP pb), (2, zP b), (3, zP b_1')] _ ?_)
 refine a7 (fun _ hK_2' => ?_)
 refine a6 ?_
 refine wm ?_
 refine wm ?_
 refine wv (OV.nilCheck rfl) ?_
 refine wv (OV.fieldAddr0 rfl acp) ?_
 refine wv (OV.load rfl (At.own 2 rfl) rfl adt) ?_
 obtain ⟨o_1', h⟩ := h
 refine wv (OV.sufNext (k := k0) 3 rfl rfl rfl af6 o_1') ?_
 refine wv (OV.nilCheck rfl) ?_
 refine wv (OV.fieldAddr0 rfl acp) ?_
 obtain ⟨o_2', h⟩ := h
 refine WL.storeSuf (cs' := [l5 wa 3 (k0 + 1), zI op0]) 2 3 rfl rfl rfl rfl o_2' akf (Nat.le_of_ble_eq_true rfl) rfl rfl ?_
 refine WL.nil ?_
 refine kg (hK_2' [(2, zP b), (3, zP b_1')] _ ?_)
 refine a7 (fun _ hK_3' => ?_)
 refine a6 ?_
 refine wv (OV.loadR rfl (At.own 0 rfl) adh) ?_
 refine WL.storeW (vs := [zI ((ts.getD (k0 + ((0 : Int)).toNat) default).1), zI ((ts.getD (k0 + ((0 : Int)).toNat) default).2.1), st ((ts.getD (k0 + ((0 : Int)).toNat) default).2.2)]) 1 rfl rfl rfl rfl rfl aam rfl rfl rfl ?_
 refine WL.nil ?_
 refine kg (hK_3' [(2, zP b)] _ ?_)
 refine b8 ?_
 exact hE.ret [2, 3] rfl rfl (.inl ⟨_, _, _, _, _, _, h, rfl⟩) (d7.of1 rfl (RV.row rfl (At.own 1 rfl) adh))
section
variable (pb : Nat) (wa : Value) (ts : List Tok) (k : Nat) (o : Int)
theorem aaw (h : k < ts.length) : d9 Tryd.prog 38 [.pointer (some ⟨pb, 0, none⟩)] [] (syH pb wa ts k o) (Ret (.agg [zI (b4 ts k).1, zI (b4 ts k).2.1, st (b4 ts k).2.2].toArray) (syH pb wa ts k o)) := by
 refine (awi pb wa ts k o (fun a b c k2 o2 ts2 => (a, b, c) = b4 ts k ∧ k2 = k ∧ o2 = o ∧ ts2 = ts) ?_).weak ?_
 ·exact ⟨⟨by omega, by omega⟩, rfl, rfl, rfl, rfl⟩
 ·rintro x (⟨a, b, c, k2, o2, ts2, ⟨h1, rfl, rfl, rfl⟩, rfl⟩ | h)
  ·rw [← h1]; rfl
  ·cases h
theorem aba (h : k < ts.length) : d9 Tryd.prog 39 [.pointer (some ⟨pb, 0, none⟩)] [] (syH pb wa ts k o) (Ret (.agg [zI (b4 ts k).1, zI (b4 ts k).2.1, st (b4 ts k).2.2].toArray) (syH pb wa ts (k + 1) o)) := by
 refine (awa pb wa ts k o (fun a b c k2 o2 ts2 => (a, b, c) = b4 ts k ∧ k2 = k + 1 ∧ o2 = o ∧ ts2 = ts) ?_).weak ?_
 ·exact ⟨⟨by omega, by omega⟩, h, h, rfl, rfl, rfl, rfl⟩
 ·rintro x (⟨a, b, c, k2, o2, ts2, ⟨h1, rfl, rfl, rfl⟩, rfl⟩ | h)
  ·rw [← h1]; rfl
  ·cases h
end
def avu (ts : List Tok) (k0 : Nat) (op0 : Int) (mark : List UInt8) (K : Bool → Nat → Int → (List Tok) → Prop) : Prop :=
 (k0 < ts.length) ∧
 ((decide ((b4 ts k0).1 = 4)) = true → (k0 < ts.length)) ∧
 K ((decide ((b4 ts k0).1 = 4)) && (decide ((b4 ts k0).2.2 = mark))) k0 op0 ts
theorem axj (pb : Nat) (wa : Value) (ts : List Tok) (k0 : Nat) (op0 : Int) (mark : List UInt8) (K : Bool → Nat → Int → (List Tok) → Prop) (h : avu ts k0 op0 mark K) :
  d9 Tryd.prog 65 [zP pb, st mark] [] [HA.blk pb (.cells [l5 wa 3 k0, zI op0].toArray 55 (0, 0)), HA.row wa 102 3 ts.length (ts.flatMap e6)] (fun o => (∃ (v : Bool) (d_1'_0 : Nat) (d_1'_1 : Int) (d : List Tok), K v d_1'_0 d_1'_1 d ∧ o = .ret (zB v) [HA.blk pb (.cells [l5 wa 3 d_1'_0, zI d_1'_1].toArray 55 (0, 0)), HA.row wa 102 3 d.length (d.flatMap e6)]) ∨ (False)) := by
 unfold avu at h
 refine c8 (n := 16) (L0 := [(0, zP pb), (1, st mark)]) Tryd.func65 rfl rfl rfl rfl (fun w0 M Q hE => ?_)
 refine a7 (fun _ hK => ?_)
 refine a6 ?_
 refine wA ?_
 refine WL.nil ?_
 refine kg (hK [(0, zP pb), (1, st mark)] _ ?_)
 refine a7 (fun _ hK_1' => ?_)
 refine a6 ?_
 refine wm ?_
 obtain ⟨o, h⟩ := h
 refine WL.call aaz rfl (aaw pb wa ts k0 op0 o) rfl trivial rfl rfl ?_
 refine wv (OV.field rfl ad6 a8 rfl) ?_
 refine wv (OV.eql rfl rfl) ?_
 refine wm ?_
 obtain ⟨o_2', h⟩ := h
 refine WL.cut 6 [(15, zB ((decide ((b4 ts k0).1 = 4)) && (decide ((b4 ts k0).2.2 = mark))))] ?_ (fun K0_2' hK_2' => ?_)
 rotate_left
 ·refine WL.split (decide ((b4 ts k0).1 = 4)) (fun hb => ?_) (fun hb => ?_)
  ·have o_1' := o_2' hb
   refine WL.set 9 rfl (congrArg zB hb) ?_
   refine wm ?_
   refine WL.call aaz rfl (aaw pb wa ts k0 op0 o_1') rfl trivial rfl rfl ?_
   refine wv (OV.field rfl afu c7 rfl) ?_
   refine wm ?_
   refine wv (OV.eqlS rfl rfl) ?_
   refine wv (OV.pickT rfl rfl) ?_
   refine WL.set 15 rfl (bT (v := decide ((b4 ts k0).2.2 = mark)) hb) ?_
   exact WL.end_ (kg hK_2')
  ·refine WL.set 9 rfl (congrArg zB hb) ?_
   refine wk ?_
   refine wk ?_
   refine wk ?_
   refine wk ?_
   refine wk ?_
   refine wv (OV.pickF rfl rfl) ?_
   refine WL.set 15 rfl (bF (v := decide ((b4 ts k0).2.2 = mark)) hb) ?_
   exact WL.end_ (kg hK_2')
 refine wA ?_
 refine WL.nil ?_
 refine kg (hK_1' [(4, zB ((decide ((b4 ts k0).1 = 4)) && (decide ((b4 ts k0).2.2 = mark))))] _ ?_)
 refine b8 ?_
 exact hE.ret [0, 1] rfl rfl (.inl ⟨_, _, _, _, h, rfl⟩) (d7.of1 rfl (RV.tmp rfl))
def al8 (ts : List Tok) (k0 : Nat) (op0 : Int) (code : Int) (_ : Nat → Int → (List Tok) → Prop) (KP : Value → Nat → Int → (List Tok) → Prop) : Prop :=
 (k0 < ts.length) ∧
 KP (Value.iface 26 (Value.agg [zI code, zI ((b4 ts k0).2.1), st []].toArray)) k0 op0 ts
theorem aso (pb : Nat) (wa : Value) (ts : List Tok) (k0 : Nat) (op0 : Int) (code : Int) (K : Nat → Int → (List Tok) → Prop) (KP : Value → Nat → Int → (List Tok) → Prop) (h : al8 ts k0 op0 code K KP) :
  d9 Tryd.prog 41 [zP pb, zI code] [] [HA.blk pb (.cells [l5 wa 3 k0, zI op0].toArray 55 (0, 0)), HA.row wa 102 3 ts.length (ts.flatMap e6)] (fun o => (∃ (d_1'_0 : Nat) (d_1'_1 : Int) (d : List Tok), K d_1'_0 d_1'_1 d ∧ o = .ret (Value.tuple #[]) [HA.blk pb (.cells [l5 wa 3 d_1'_0, zI d_1'_1].toArray 55 (0, 0)), HA.row wa 102 3 d.length (d.flatMap e6)]) ∨ (∃ (pv : Value) (d_1'_0 : Nat) (d_1'_1 : Int) (d : List Tok), KP pv d_1'_0 d_1'_1 d ∧ o = .pan [{ v := pv, recovered := false }] [HA.blk pb (.cells [l5 wa 3 d_1'_0, zI d_1'_1].toArray 55 (0, 0)), HA.row wa 102 3 d.length (d.flatMap e6)])) := by
 unfold al8 at h
 refine c8 (n := 10) (L0 := [(0, zP pb), (1, zI code)]) Tryd.func41 rfl rfl rfl rfl (fun w0 M Q hE => ?_)
 refine a6 ?_
 refine wm ?_
 refine wm ?_
 obtain ⟨o, h⟩ := h
 refine WL.call aaz rfl (aaw pb wa ts k0 op0 o) rfl trivial rfl rfl ?_
 refine wv (OV.field rfl ao0 a8 rfl) ?_
 refine wv (OV.build rfl (cs := [zI code, zI ((b4 ts k0).2.1), st []]) rfl) ?_
 refine wv (OV.iface rfl aqh) ?_
 refine WL.panic rfl rfl ?_
 exact hE.pan [0, 1] rfl rfl (.inr ⟨_, _, _, _, h, rfl⟩)
section
variable (pb : Nat) (wa : Value) (ts : List Tok) (k : Nat) (o : Int)
theorem ae1 (m : Bs) (h : k < ts.length) : d9 Tryd.prog 65 [.pointer (some ⟨pb, 0, none⟩), st m] [] (syH pb wa ts k o) (Ret (.bool (isM ts k m)) (syH pb wa ts k o)) := by
 refine (axj pb wa ts k o m (fun a k2 o2 ts2 => a = isM ts k m ∧ k2 = k ∧ o2 = o ∧ ts2 = ts) ?_).weak ?_
 ·exact ⟨h, fun _ => h, rfl, rfl, rfl, rfl⟩
 ·rintro x (⟨a, k2, o2, ts2, ⟨rfl, rfl, rfl, rfl⟩, rfl⟩ | h)
  ·rfl
  ·cases h
theorem acv (c : Int) (h : k < ts.length) : d9 Tryd.prog 41 [.pointer (some ⟨pb, 0, none⟩), .int .i64 c] [] (syH pb wa ts k o) (fun out => out = .pan [{ v := acj c (b4 ts k).2.1, recovered := false }] (syH pb wa ts k o)) := by
 refine (aso pb wa ts k o c (fun _ _ _ => False) (fun v k2 o2 ts2 => v = acj c (b4 ts k).2.1 ∧ k2 = k ∧ o2 = o ∧ ts2 = ts) ?_).weak ?_
 ·exact ⟨h, rfl, rfl, rfl, rfl⟩
 ·rintro x (⟨k2, o2, ts2, h, _⟩ | ⟨v, k2, o2, ts2, ⟨rfl, rfl, rfl, rfl⟩, rfl⟩)
  ·cases h
  ·rfl
end
def anr (ts : List Tok) (k0 : Nat) (op0 : Int) (mark : List UInt8) (K : Nat → Int → (List Tok) → Prop) (KP : Value → Nat → Int → (List Tok) → Prop) : Prop :=
 (k0 < ts.length) ∧
 (if (!(isM ts k0 mark)) = true then
  (k0 < ts.length) ∧
  KP (Value.iface 26 (Value.agg [zI 60, zI ((b4 ts k0).2.1), st []].toArray)) k0 op0 ts
 else
  (k0 < ts.length) ∧
  K (k0 + 1) op0 ts)
theorem awc (pb : Nat) (wa : Value) (ts : List Tok) (k0 : Nat) (op0 : Int) (mark : List UInt8) (K : Nat → Int → (List Tok) → Prop) (KP : Value → Nat → Int → (List Tok) → Prop) (h : anr ts k0 op0 mark K KP) :
  d9 Tryd.prog 42 [zP pb, st mark] [] [HA.blk pb (.cells [l5 wa 3 k0, zI op0].toArray 55 (0, 0)), HA.row wa 102 3 ts.length (ts.flatMap e6)] (fun o => (∃ (d_1'_0 : Nat) (d_1'_1 : Int) (d : List Tok), K d_1'_0 d_1'_1 d ∧ o = .ret (Value.tuple #[]) [HA.blk pb (.cells [l5 wa 3 d_1'_0, zI d_1'_1].toArray 55 (0, 0)), HA.row wa 102 3 d.length (d.flatMap e6)]) ∨ (∃ (pv : Value) (d_1'_0 : Nat) (d_1'_1 : Int) (d : List Tok), KP pv d_1'_0 d_1'_1 d ∧ o = .pan [{ v := pv, recovered := false }] [HA.blk pb (.cells [l5 wa 3 d_1'_0, zI d_1'_1].toArray 55 (0, 0)), HA.row wa 102 3 d.length (d.flatMap e6)])) := by
 unfold anr at h
 refine c8 (n := 12) (L0 := [(0, zP pb), (1, st mark)]) Tryd.func42 rfl rfl rfl rfl (fun w0 M Q hE => ?_)
 refine a7 (fun _ hK => ?_)
 refine a7 (fun _ hK_1' => ?_)
 refine a6 ?_
 refine wm ?_
 refine wm ?_
 obtain ⟨o, h⟩ := h
 refine WL.call ach rfl (ae1 pb wa ts k0 op0 mark o) rfl trivial rfl rfl ?_
 refine wv (OV.not rfl) ?_
 refine WL.nil ?_
 refine kg (hK_1' [(0, zP pb), (7, zB (!(isM ts k0 mark)))] _ ?_)
 refine b5 (b := !(isM ts k0 mark)) rfl (fun hb => ?_) (fun hb => ?_)
 ·replace h := e8 h hb
  refine a6 ?_
  refine wm ?_
  obtain ⟨o_1', h⟩ := h
  refine WL.callS aeu rfl (acv pb wa ts k0 op0 60 o_1') rfl trivial rfl rfl (fun r H' hS => by cases hS) (fun c H' hS => ?_)
  cases hS
  exact hE.pan [0, 1] rfl rfl (.inr ⟨_, _, _, _, h, rfl⟩)
 ·replace h := e9 h hb
  refine b6 ?_
  refine kg (hK [(0, zP pb)] _ ?_)
  refine a6 ?_
  refine wm ?_
  obtain ⟨o_2', h⟩ := h
  refine WL.call abe rfl (aba pb wa ts k0 op0 o_2') rfl trivial rfl rfl ?_
  refine WL.nil ?_
  exact hE.norm [0, 1] rfl rfl (.inl ⟨_, _, _, h, rfl⟩) (d7.none rfl)
section
variable (pb : Nat) (wa : Value) (ts : List Tok) (k : Nat) (o : Int)
abbrev aux (r : Except (Int × Int) PSx) : Out → Prop := fun out => (∃ k2 o2, r = .ok (k2, o2) ∧ out = .ret (.tuple #[]) (syH pb wa ts k2 o2)) ∨ (∃ c p, r = .error (c, p) ∧ out = .pan [{ v := acj c p, recovered := false }] (syH pb wa ts k o))
theorem aen (m : Bs) (h : POK ts k o ∧ m ≠ []) : d9 Tryd.prog 42 [.pointer (some ⟨pb, 0, none⟩), st m] [] (syH pb wa ts k o) (aux pb wa ts k o (p6 ts (k, o) m)) := by
 refine (awc pb wa ts k o m (fun k2 o2 ts2 => p6 ts (k, o) m = .ok (k2, o2) ∧ ts2 = ts) (fun v k2 o2 ts2 => (∃ c p, p6 ts (k, o) m = .error (c, p) ∧ v = acj c p) ∧ k2 = k ∧ o2 = o ∧ ts2 = ts) ?_).weak ?_
 ·have hk := h.1.1
  unfold anr p6
  refine ⟨hk, ?_⟩
  cases hm : isM ts k m with
  | true => exact ⟨hk, rfl, rfl⟩
  | false => exact ⟨hk, ⟨60, _, rfl, rfl⟩, rfl, rfl, rfl⟩
 ·rintro x (⟨k2, o2, ts2, ⟨h1, rfl⟩, rfl⟩ | ⟨v, k2, o2, ts2, ⟨⟨c, p, h1, rfl⟩, rfl, rfl, rfl⟩, rfl⟩)
  ·exact .inl ⟨k2, o2, h1, rfl⟩
  ·exact .inr ⟨c, p, h1, rfl⟩
end
def akl (ts : List Tok) (k0 : Nat) (op0 : Int) (mark : List UInt8) (K : Nat → Int → (List Tok) → Prop) (KP : Value → Nat → Int → (List Tok) → Prop) : Prop :=
 (k0 < ts.length) ∧
 (if ((isM ts k0 mark) && (decide (64 ≤ op0))) = true then
  (k0 < ts.length) ∧
  KP (Value.iface 26 (Value.agg [zI 23, zI ((b4 ts k0).2.1), st []].toArray)) k0 op0 ts
 else
  (POK ts k0 op0 ∧ mark ≠ []) ∧
  (∀ (k : Nat) (op : Int), p6 ts (k0, op0) mark = .ok (k, op) →
   (I64 (op + 1)) ∧
   K k (op + 1) ts) ∧
  (∀ (ec : Int) (ep : Int), p6 ts (k0, op0) mark = .error (ec, ep) →
   KP (Value.iface 26 (Value.agg [zI ec, zI ep, st []].toArray)) k0 op0 ts))
theorem aup (pb : Nat) (wa : Value) (ts : List Tok) (k0 : Nat) (op0 : Int) (mark : List UInt8) (K : Nat → Int → (List Tok) → Prop) (KP : Value → Nat → Int → (List Tok) → Prop) (h : akl ts k0 op0 mark K KP) :
  d9 Tryd.prog 80 [zP pb, st mark] [] [HA.blk pb (.cells [l5 wa 3 k0, zI op0].toArray 55 (0, 0)), HA.row wa 102 3 ts.length (ts.flatMap e6)] (fun o => (∃ (d_1'_0 : Nat) (d_1'_1 : Int) (d : List Tok), K d_1'_0 d_1'_1 d ∧ o = .ret (Value.tuple #[]) [HA.blk pb (.cells [l5 wa 3 d_1'_0, zI d_1'_1].toArray 55 (0, 0)), HA.row wa 102 3 d.length (d.flatMap e6)]) ∨ (∃ (pv : Value) (d_1'_0 : Nat) (d_1'_1 : Int) (d : List Tok), KP pv d_1'_0 d_1'_1 d ∧ o = .pan [{ v := pv, recovered := false }] [HA.blk pb (.cells [l5 wa 3 d_1'_0, zI d_1'_1].toArray 55 (0, 0)), HA.row wa 102 3 d.length (d.flatMap e6)])) := by
 unfold akl at h
 refine c8 (n := 26) (L0 := [(0, zP pb), (1, st mark)]) Tryd.func80 rfl rfl rfl rfl (fun w0 M Q hE => ?_)
 refine a7 (fun _ hK => ?_)
 refine a7 (fun _ hK_1' => ?_)
 refine a6 ?_
 refine wm ?_
 refine wm ?_
 obtain ⟨o, h⟩ := h
 refine WL.call ach rfl (ae1 pb wa ts k0 op0 mark o) rfl trivial rfl rfl ?_
 refine wm ?_
 refine WL.cut 6 [(0, zP pb), (1, st mark), (13, zB ((isM ts k0 mark) && (decide (64 ≤ op0))))] ?_ (fun K0_2' hK_2' => ?_)
 rotate_left
 ·refine WL.split (isM ts k0 mark) (fun hb => ?_) (fun hb => ?_)
  ·refine WL.set 7 rfl (congrArg zB hb) ?_
   refine wm ?_
   refine wv (OV.nilCheck rfl) ?_
   refine wv (OV.fieldAddr0 rfl abs) ?_
   refine wv (OV.load rfl (At.own 0 rfl) rfl a8) ?_
   refine wv (OV.geq rfl rfl) ?_
   refine wv (OV.pickT rfl rfl) ?_
   refine WL.set 13 rfl (bT (v := decide (64 ≤ op0)) hb) ?_
   exact WL.end_ (kg hK_2')
  ·refine WL.set 7 rfl (congrArg zB hb) ?_
   refine wk ?_
   refine wk ?_
   refine wk ?_
   refine wk ?_
   refine wk ?_
   refine wv (OV.pickF rfl rfl) ?_
   refine WL.set 13 rfl (bF (v := decide (64 ≤ op0)) hb) ?_
   exact WL.end_ (kg hK_2')
 refine WL.nil ?_
 refine kg (hK_1' [(0, zP pb), (1, st mark), (13, zB ((isM ts k0 mark) && (decide (64 ≤ op0))))] _ ?_)
 refine b5 (b := (isM ts k0 mark) && (decide (64 ≤ op0))) rfl (fun hb => ?_) (fun hb => ?_)
 ·replace h := e8 h hb
  refine a6 ?_
  refine wm ?_
  obtain ⟨o_2', h⟩ := h
  refine WL.callS aeu rfl (acv pb wa ts k0 op0 23 o_2') rfl trivial rfl rfl (fun r H' hS => by cases hS) (fun c H' hS => ?_)
  cases hS
  exact hE.pan [0, 1] rfl rfl (.inr ⟨_, _, _, _, h, rfl⟩)
 ·replace h := e9 h hb
  refine b6 ?_
  refine kg (hK [(0, zP pb), (1, st mark)] _ ?_)
  refine a7 (fun _ hK_3' => ?_)
  refine a6 ?_
  refine wm ?_
  refine wm ?_
  obtain ⟨o_3', h⟩ := h
  refine WL.callS aev rfl (aen pb wa ts k0 op0 mark o_3') rfl trivial rfl rfl (fun r H' hS => ?_) (fun c H' hS => ?_)
  ·rcases hS with ⟨k, op, hc, ho⟩ | ⟨ec, ep, hc, ho⟩ <;> cases ho
   replace h := h.1 k op hc
   refine WL.nil ?_
   refine kg (hK_3' [(0, zP pb)] _ ?_)
   refine a6 ?_
   refine wm ?_
   refine wv (OV.nilCheck rfl) ?_
   refine wv (OV.fieldAddr0 rfl abs) ?_
   refine wv (OV.load rfl (At.own 0 rfl) rfl a8) ?_
   obtain ⟨o_4', h⟩ := h
   refine wv (OV.add rfl rfl o_4') ?_
   refine wv (OV.nilCheck rfl) ?_
   refine wv (OV.fieldAddr0 rfl abs) ?_
   refine WL.store (vs := [zI (op + 1)]) (cs' := [l5 wa 3 k, zI (op + 1)]) 0 rfl rfl rfl rfl f9 (Nat.le_of_ble_eq_true rfl) rfl rfl rfl ?_
   refine WL.nil ?_
   exact hE.norm [0, 1] rfl rfl (.inl ⟨_, _, _, h, rfl⟩) (d7.none rfl)
  ·rcases hS with ⟨k, op, hc, ho⟩ | ⟨ec, ep, hc, ho⟩ <;> cases ho
   replace h := h.2 ec ep hc
   exact hE.pan [0, 1] rfl rfl (.inr ⟨_, _, _, _, h, rfl⟩)
def aj3 (ts : List Tok) (k0 : Nat) (op0 : Int) (mark : List UInt8) (K : Nat → Int → (List Tok) → Prop) (KP : Value → Nat → Int → (List Tok) → Prop) : Prop :=
 (POK ts k0 op0 ∧ mark ≠ []) ∧
 (∀ (k : Nat) (op : Int), p6 ts (k0, op0) mark = .ok (k, op) →
  (I64 (op - 1)) ∧
  K k (op - 1) ts) ∧
 (∀ (ec : Int) (ep : Int), p6 ts (k0, op0) mark = .error (ec, ep) →
  KP (Value.iface 26 (Value.agg [zI ec, zI ep, st []].toArray)) k0 op0 ts)
theorem aue (pb : Nat) (wa : Value) (ts : List Tok) (k0 : Nat) (op0 : Int) (mark : List UInt8) (K : Nat → Int → (List Tok) → Prop) (KP : Value → Nat → Int → (List Tok) → Prop) (h : aj3 ts k0 op0 mark K KP) :
  d9 Tryd.prog 81 [zP pb, st mark] [] [HA.blk pb (.cells [l5 wa 3 k0, zI op0].toArray 55 (0, 0)), HA.row wa 102 3 ts.length (ts.flatMap e6)] (fun o => (∃ (d_1'_0 : Nat) (d_1'_1 : Int) (d : List Tok), K d_1'_0 d_1'_1 d ∧ o = .ret (Value.tuple #[]) [HA.blk pb (.cells [l5 wa 3 d_1'_0, zI d_1'_1].toArray 55 (0, 0)), HA.row wa 102 3 d.length (d.flatMap e6)]) ∨ (∃ (pv : Value) (d_1'_0 : Nat) (d_1'_1 : Int) (d : List Tok), KP pv d_1'_0 d_1'_1 d ∧ o = .pan [{ v := pv, recovered := false }] [HA.blk pb (.cells [l5 wa 3 d_1'_0, zI d_1'_1].toArray 55 (0, 0)), HA.row wa 102 3 d.length (d.flatMap e6)])) := by
 unfold aj3 at h
 refine c8 (n := 14) (L0 := [(0, zP pb), (1, st mark)]) Tryd.func81 rfl rfl rfl rfl (fun w0 M Q hE => ?_)
 refine a7 (fun _ hK => ?_)
 refine a6 ?_
 refine wm ?_
 refine wm ?_
 obtain ⟨o, h⟩ := h
 refine WL.callS aev rfl (aen pb wa ts k0 op0 mark o) rfl trivial rfl rfl (fun r H' hS => ?_) (fun c H' hS => ?_)
 ·rcases hS with ⟨k, op, hc, ho⟩ | ⟨ec, ep, hc, ho⟩ <;> cases ho
  replace h := h.1 k op hc
  refine WL.nil ?_
  refine kg (hK [(0, zP pb)] _ ?_)
  refine a6 ?_
  refine wm ?_
  refine wv (OV.nilCheck rfl) ?_
  refine wv (OV.fieldAddr0 rfl abs) ?_
  refine wv (OV.load rfl (At.own 0 rfl) rfl a8) ?_
  obtain ⟨o_1', h⟩ := h
  refine wv (OV.sub rfl rfl o_1') ?_
  refine wv (OV.nilCheck rfl) ?_
  refine wv (OV.fieldAddr0 rfl abs) ?_
  refine WL.store (vs := [zI (op - 1)]) (cs' := [l5 wa 3 k, zI (op - 1)]) 0 rfl rfl rfl rfl f9 (Nat.le_of_ble_eq_true rfl) rfl rfl rfl ?_
  refine WL.nil ?_
  exact hE.norm [0, 1] rfl rfl (.inl ⟨_, _, _, h, rfl⟩) (d7.none rfl)
 ·rcases hS with ⟨k, op, hc, ho⟩ | ⟨ec, ep, hc, ho⟩ <;> cases ho
  replace h := h.2 ec ep hc
  exact hE.pan [0, 1] rfl rfl (.inr ⟨_, _, _, _, h, rfl⟩)
section
variable (pb : Nat) (wa : Value) (ts : List Tok) (k : Nat) (o : Int)
theorem ahk (m : Bs) (h : POK ts k o ∧ m ≠ []) : d9 Tryd.prog 80 [.pointer (some ⟨pb, 0, none⟩), st m] [] (syH pb wa ts k o) (aux pb wa ts k o (n8 ts (k, o) m)) := by
 refine (aup pb wa ts k o m (fun k2 o2 ts2 => n8 ts (k, o) m = .ok (k2, o2) ∧ ts2 = ts) (fun v k2 o2 ts2 => (∃ c p, n8 ts (k, o) m = .error (c, p) ∧ v = acj c p) ∧ k2 = k ∧ o2 = o ∧ ts2 = ts) ?_).weak ?_
 ·have hk := h.1.1
  have ho := h.1.2.1
  unfold akl n8
  refine ⟨hk, ?_⟩
  cases hm : isM ts k m with
  | true =>
   by_cases h64 : 64 ≤ o
   ·rw [if_pos (by simp [h64])]
    exact ⟨hk, ⟨23, _, by rw [if_pos rfl, if_pos h64], rfl⟩, rfl, rfl, rfl⟩
   ·rw [if_neg (by simp [h64])]
    refine ⟨h, fun k2 o2 h1 => ?_, fun c p h1 => ?_⟩
    ·unfold p6 at h1
     rw [if_pos hm] at h1
     cases h1
     exact ⟨by unfold I64; omega, by rw [if_pos rfl, if_neg h64], rfl⟩
    ·unfold p6 at h1
     rw [if_pos hm] at h1
     cases h1
  | false =>
   rw [if_neg (by simp)]
   refine ⟨h, fun k2 o2 h1 => ?_, fun c p h1 => ?_⟩
   ·unfold p6 at h1
    rw [if_neg (by rw [hm]; decide)] at h1
    cases h1
   ·unfold p6 at h1
    rw [if_neg (by rw [hm]; decide)] at h1
    cases h1
    exact ⟨⟨60, _, by rw [if_neg (by decide)], rfl⟩, rfl, rfl, rfl⟩
 ·rintro x (⟨k2, o2, ts2, ⟨h1, rfl⟩, rfl⟩ | ⟨v, k2, o2, ts2, ⟨⟨c, p, h1, rfl⟩, rfl, rfl, rfl⟩, rfl⟩)
  ·exact .inl ⟨k2, o2, h1, rfl⟩
  ·exact .inr ⟨c, p, h1, rfl⟩
theorem ahd (m : Bs) (h : POK ts k o ∧ m ≠ []) : d9 Tryd.prog 81 [.pointer (some ⟨pb, 0, none⟩), st m] [] (syH pb wa ts k o) (aux pb wa ts k o (s5 ts (k, o) m)) := by
 refine (aue pb wa ts k o m (fun k2 o2 ts2 => s5 ts (k, o) m = .ok (k2, o2) ∧ ts2 = ts) (fun v k2 o2 ts2 => (∃ c p, s5 ts (k, o) m = .error (c, p) ∧ v = acj c p) ∧ k2 = k ∧ o2 = o ∧ ts2 = ts) ?_).weak ?_
 ·have ho := h.1.2.1
  unfold aj3 s5
  refine ⟨h, fun k2 o2 h1 => ?_, fun c p h1 => ?_⟩
  ·obtain ⟨hm, h2⟩ := aco h1
   cases h2
   exact ⟨by unfold I64; omega, by rw [if_pos hm], rfl⟩
  ·unfold p6 at h1
   split at h1
   ·cases h1
   ·rename_i hm
    cases h1
    exact ⟨⟨60, _, by rw [if_neg hm], rfl⟩, rfl, rfl, rfl⟩
 ·rintro x (⟨k2, o2, ts2, ⟨h1, rfl⟩, rfl⟩ | ⟨v, k2, o2, ts2, ⟨⟨c, p, h1, rfl⟩, rfl, rfl, rfl⟩, rfl⟩)
  ·exact .inl ⟨k2, o2, h1, rfl⟩
  ·exact .inr ⟨c, p, h1, rfl⟩
end
end Go.Proofs.YtifajndacnfcbaaDoor
