/-
  Merged: RxW, RxLawThereAndBack, RxLawNil, RxLawB.
-/
import Derived.Test.YtohnchdnkbadaaaDoorPb6
namespace Go.Proofs.YtohnchdnkbadaaaDoor
open Go Go.RowKit

theorem tf_ent_15 : entB Tryd.prog 15 = true := by kernel_rfl
theorem tf_ent_19 : entB Tryd.prog 19 = true := by kernel_rfl
theorem tf_ent_26 : entB Tryd.prog 26 = true := by kernel_rfl
theorem tf_row_51 : RowT Tryd.prog 51 2 := ⟨by kernel_rfl, by kernel_rfl⟩
theorem tf_ent_27 : entB Tryd.prog 27 = true := by kernel_rfl
theorem tf_ent_28 : entB Tryd.prog 28 = true := by kernel_rfl
def lback_vc (text : List UInt8) (K : Bool → Prop) : Prop :=
 (if (!andAll [decide ((errT text).1 = 0), decide ((errT text).2 = 0), decide (([] : List UInt8) = [])]) = true then
  K true
 else
  (Tr.size (treeT text) ≤ 1099511627776) ∧
  (((decide (((showT (treeT text) 0).length : Int) ≤ 1048576)) && (andAll [decide ((errT (showT (treeT text) 0)).1 = 0), decide ((errT (showT (treeT text) 0)).2 = 0), decide (([] : List UInt8) = [])])) = true → (Tr.high (treeT text) ≤ 4000)) ∧
  ((((decide (((showT (treeT text) 0).length : Int) ≤ 1048576)) && (andAll [decide ((errT (showT (treeT text) 0)).1 = 0), decide ((errT (showT (treeT text) 0)).2 = 0), decide (([] : List UInt8) = [])])) && (decide (Tr.whole (treeT text) = Tr.whole (treeT (showT (treeT text) 0))))) = true → (Tr.size (treeT (showT (treeT text) 0)) ≤ 1099511627776)) ∧
  (((((decide (((showT (treeT text) 0).length : Int) ≤ 1048576)) && (andAll [decide ((errT (showT (treeT text) 0)).1 = 0), decide ((errT (showT (treeT text) 0)).2 = 0), decide (([] : List UInt8) = [])])) && (decide (Tr.whole (treeT text) = Tr.whole (treeT (showT (treeT text) 0))))) && (decide (showT (treeT (showT (treeT text) 0)) 0 = showT (treeT text) 0))) = true → (DoesM Tryd.prog (Tr.val (treeT (showT (treeT text) 0))) "Size" [] (zI (((treeT (showT (treeT text) 0)).size : Nat) : Int))) ∧ (DoesM Tryd.prog (Tr.val (treeT text)) "Size" [] (zI (((treeT text).size : Nat) : Int)))) ∧
  K (((((decide (((showT (treeT text) 0).length : Int) ≤ 1048576)) && (andAll [decide ((errT (showT (treeT text) 0)).1 = 0), decide ((errT (showT (treeT text) 0)).2 = 0), decide (([] : List UInt8) = [])])) && (decide (Tr.whole (treeT text) = Tr.whole (treeT (showT (treeT text) 0))))) && (decide (showT (treeT (showT (treeT text) 0)) 0 = showT (treeT text) 0))) && (decide ((((treeT (showT (treeT text) 0)).size : Nat) : Int) = (((treeT text).size : Nat) : Int)))))
set_option maxRecDepth 100000 in
theorem lback_wp (te : TypeId) (fre : Nat × Nat) (text : List UInt8) (K : Bool → Prop) (h : lback_vc text K) :
  Does Tryd.prog 6 [st text] [(1, .cells [zU 110, zU 10, zU 114, zU 13, zU 116, zU 9].toArray te fre)] [] (fun o => (∃ (v : Bool), K v ∧ o = .ret (zB v) []) ∨ (False)) := by
 unfold lback_vc at h
 refine does_of_wc (n := 51) (L0 := [(0, st text)]) Tryd.func6 rfl rfl rfl rfl (fun w0 M Q hE => ?_)
 refine wc_seq (fun K0 hK => ?_)
 refine wc_region ?_
 refine wv (OV.assign rfl) ?_
 refine WL.nil ?_
 refine KX.go (hK [(0, st text)] _ ?_) ⟨rfl, trivial⟩
 refine wc_seq (fun K0_1' hK_1' => ?_)
 refine wc_seq (fun K0_2' hK_2' => ?_)
 refine wc_region ?_
 refine WL.call (A := []) tf_ent_19 rfl (speaks_does te fre) rfl ⟨.inr (List.mem_of_getElem? (i := 0) rfl), trivial⟩ rfl rfl ?_
 refine wv (OV.not rfl) ?_
 refine WL.nil ?_
 refine KX.go (hK_2' [(0, st text), (9, zB false)] _ ?_) ⟨rfl, rfl, trivial⟩
 refine wc_condF rfl ?_
 refine wc_skip ?_
 refine KX.go (hK_1' [(0, st text)] _ ?_) ⟨rfl, trivial⟩
 refine wc_seq (fun K0_3' hK_3' => ?_)
 refine wc_region ?_
 refine wv (OV.move rfl) ?_
 refine WL.call (A := []) tf_ent_14 rfl (parse_does te fre text) rfl ⟨.inr (List.mem_of_getElem? (i := 0) rfl), trivial⟩ rfl rfl ?_
 refine wv (OV.move rfl) ?_
 refine wv (OV.extract 0 rfl rfl) ?_
 refine wv (OV.extract 1 rfl rfl) ?_
 refine WL.make (MV.alloc tf_zero_26) rfl rfl rfl (fun b => ?_)
 refine wv (OV.assign rfl) ?_
 refine WL.storeW (vs := [zI ((errT text).1), zI ((errT text).2), st []]) 0 rfl rfl rfl rfl rfl tf_size_26 rfl rfl rfl ?_
 refine WL.nil ?_
 refine KX.go (hK_3' [(3, Tr.val (treeT text)), (4, zP b)] _ ?_) ⟨rfl, rfl, trivial⟩
 refine wc_seq (fun K0_4' hK_4' => ?_)
 refine wc_seq (fun K0_5' hK_5' => ?_)
 refine wc_region ?_
 refine wv (OV.loadR rfl (At.own 0 rfl) tf_row_26) ?_
 refine wv (OV.build rfl (cs := [zI 0, zI 0, st []]) rfl) ?_
 refine wv (OV.neqF (rs := [decide ((errT text).1 = 0), decide ((errT text).2 = 0), decide (([] : List UInt8) = [])]) rfl rfl Tryd.underlying26 tf_stood_26 tf_eqg_26 ⟨rfl, tf_scal_24, ⟨_, _, rfl, rfl, ScalEq.int Tryd.underlying24⟩, ⟨rfl, tf_scal_3, ⟨_, _, rfl, rfl, ScalEq.int Tryd.underlying3⟩, ⟨rfl, tf_scal_9, ⟨_, _, rfl, rfl, ScalEq.str Tryd.underlying9⟩, trivial⟩⟩⟩) ?_
 refine WL.nil ?_
 refine KX.go (hK_5' [(3, Tr.val (treeT text)), (17, zB (!andAll [decide ((errT text).1 = 0), decide ((errT text).2 = 0), decide (([] : List UInt8) = [])]))] _ ?_) ⟨rfl, rfl, trivial⟩
 refine wc_cond (b := !andAll [decide ((errT text).1 = 0), decide ((errT text).2 = 0), decide (([] : List UInt8) = [])]) rfl (fun hb => ?_) (fun hb => ?_)
 ·replace h := if_T h hb
  refine wc_seq (fun K0_6' hK_6' => ?_)
  refine wc_region ?_
  refine wv (OV.assign rfl) ?_
  refine WL.nil ?_
  refine KX.go (hK_6' [(2, zB true)] _ ?_) ⟨rfl, trivial⟩
  refine wc_ret ?_
  exact hE.ret [] rfl rfl (.inl ⟨_, h, rfl⟩) (ResV.of1 rfl (RV.tmp rfl))
 ·replace h := if_F h hb
  refine wc_skip ?_
  refine KX.go (hK_4' [(3, Tr.val (treeT text))] _ ?_) ⟨rfl, trivial⟩
  refine wc_seq (fun K0_7' hK_7' => ?_)
  refine wc_region ?_
  refine wv (OV.move rfl) ?_
  obtain ⟨o, h⟩ := h
  refine WL.call (A := []) tf_ent_21 rfl (print_does te fre (treeT text) o) rfl ⟨.inr (List.mem_of_getElem? (i := 0) rfl), trivial⟩ rfl rfl ?_
  refine wv (OV.assign rfl) ?_
  refine WL.nil ?_
  refine KX.go (hK_7' [(3, Tr.val (treeT text)), (5, st (showT (treeT text) 0))] _ ?_) ⟨rfl, rfl, trivial⟩
  refine wc_seq (fun K0_8' hK_8' => ?_)
  refine wc_region ?_
  refine wv (OV.move rfl) ?_
  refine WL.call (A := []) tf_ent_14 rfl (parse_does te fre (showT (treeT text) 0)) rfl ⟨.inr (List.mem_of_getElem? (i := 0) rfl), trivial⟩ rfl rfl ?_
  refine wv (OV.move rfl) ?_
  refine wv (OV.extract 0 rfl rfl) ?_
  refine wv (OV.extract 1 rfl rfl) ?_
  refine WL.make (MV.alloc tf_zero_26) rfl rfl rfl (fun b_1' => ?_)
  refine wv (OV.assign rfl) ?_
  refine WL.storeW (vs := [zI ((errT (showT (treeT text) 0)).1), zI ((errT (showT (treeT text) 0)).2), st []]) 0 rfl rfl rfl rfl rfl tf_size_26 rfl rfl rfl ?_
  refine WL.nil ?_
  refine KX.go (hK_8' [(3, Tr.val (treeT text)), (5, st (showT (treeT text) 0)), (6, Tr.val (treeT (showT (treeT text) 0))), (7, zP b_1')] _ ?_) ⟨rfl, rfl, rfl, rfl, trivial⟩
  refine wc_seq (fun K0_9' hK_9' => ?_)
  refine wc_region ?_
  refine wv (OV.move rfl) ?_
  refine wv (OV.len rfl tf_str_9) ?_
  refine wv (OV.leq rfl rfl) ?_
  refine wv (OV.move rfl) ?_
  refine WL.cut 4 [(3, Tr.val (treeT text)), (5, st (showT (treeT text) 0)), (6, Tr.val (treeT (showT (treeT text) 0))), (32, zB ((decide (((showT (treeT text) 0).length : Int) ≤ 1048576)) && (andAll [decide ((errT (showT (treeT text) 0)).1 = 0), decide ((errT (showT (treeT text) 0)).2 = 0), decide (([] : List UInt8) = [])])))] ?_ (fun K0_10' hK_10' => ?_)
  rotate_left
  ·refine WL.split (decide (((showT (treeT text) 0).length : Int) ≤ 1048576)) (fun hb => ?_) (fun hb => ?_)
   ·refine WL.set 28 rfl (congrArg zB hb) ?_
    refine wv (OV.loadR rfl (At.own 0 rfl) tf_row_26) ?_
    refine wv (OV.build rfl (cs := [zI 0, zI 0, st []]) rfl) ?_
    refine wv (OV.eqlF (rs := [decide ((errT (showT (treeT text) 0)).1 = 0), decide ((errT (showT (treeT text) 0)).2 = 0), decide (([] : List UInt8) = [])]) rfl rfl Tryd.underlying26 tf_stood_26 tf_eqg_26 ⟨rfl, tf_scal_24, ⟨_, _, rfl, rfl, ScalEq.int Tryd.underlying24⟩, ⟨rfl, tf_scal_3, ⟨_, _, rfl, rfl, ScalEq.int Tryd.underlying3⟩, ⟨rfl, tf_scal_9, ⟨_, _, rfl, rfl, ScalEq.str Tryd.underlying9⟩, trivial⟩⟩⟩) ?_
    refine wv (OV.pickT rfl rfl) ?_
    refine WL.set 32 rfl (bT (v := andAll [decide ((errT (showT (treeT text) 0)).1 = 0), decide ((errT (showT (treeT text) 0)).2 = 0), decide (([] : List UInt8) = [])]) hb) ?_
    exact WL.end_ (KX.go hK_10' ⟨rfl, rfl, rfl, rfl, trivial⟩)
   ·refine WL.set 28 rfl (congrArg zB hb) ?_
    refine WL.skip rfl rfl rfl ?_
    refine WL.skip rfl rfl rfl ?_
    refine WL.skip rfl rfl rfl ?_
    refine wv (OV.pickF rfl rfl) ?_
    refine WL.set 32 rfl (bF (v := andAll [decide ((errT (showT (treeT text) 0)).1 = 0), decide ((errT (showT (treeT text) 0)).2 = 0), decide (([] : List UInt8) = [])]) hb) ?_
    exact WL.end_ (KX.go hK_10' ⟨rfl, rfl, rfl, rfl, trivial⟩)
  refine wv (OV.move rfl) ?_
  obtain ⟨o_3', h⟩ := h
  refine WL.cut 4 [(3, Tr.val (treeT text)), (5, st (showT (treeT text) 0)), (6, Tr.val (treeT (showT (treeT text) 0))), (37, zB (((decide (((showT (treeT text) 0).length : Int) ≤ 1048576)) && (andAll [decide ((errT (showT (treeT text) 0)).1 = 0), decide ((errT (showT (treeT text) 0)).2 = 0), decide (([] : List UInt8) = [])])) && (decide (Tr.whole (treeT text) = Tr.whole (treeT (showT (treeT text) 0))))))] ?_ (fun K0_11' hK_11' => ?_)
  rotate_left
  ·refine WL.split ((decide (((showT (treeT text) 0).length : Int) ≤ 1048576)) && (andAll [decide ((errT (showT (treeT text) 0)).1 = 0), decide ((errT (showT (treeT text) 0)).2 = 0), decide (([] : List UInt8) = [])])) (fun hb => ?_) (fun hb => ?_)
   ·have o_2' := o_3' hb
    refine WL.set 33 rfl (congrArg zB hb) ?_
    refine wv (OV.move rfl) ?_
    refine wv (OV.move rfl) ?_
    refine WL.call (A := []) tf_ent_26 rfl (same_does (treeT text) (treeT (showT (treeT text) 0)) o_2') rfl trivial rfl rfl ?_
    refine wv (OV.pickT rfl rfl) ?_
    refine WL.set 37 rfl (bT (v := decide (Tr.whole (treeT text) = Tr.whole (treeT (showT (treeT text) 0)))) hb) ?_
    exact WL.end_ (KX.go hK_11' ⟨rfl, rfl, rfl, rfl, trivial⟩)
   ·refine WL.set 33 rfl (congrArg zB hb) ?_
    refine WL.skip rfl rfl rfl ?_
    refine WL.skip rfl rfl rfl ?_
    refine WL.skip rfl rfl rfl ?_
    refine wv (OV.pickF rfl rfl) ?_
    refine WL.set 37 rfl (bF (v := decide (Tr.whole (treeT text) = Tr.whole (treeT (showT (treeT text) 0)))) hb) ?_
    exact WL.end_ (KX.go hK_11' ⟨rfl, rfl, rfl, rfl, trivial⟩)
  refine wv (OV.move rfl) ?_
  obtain ⟨o_5', h⟩ := h
  refine WL.cut 5 [(3, Tr.val (treeT text)), (6, Tr.val (treeT (showT (treeT text) 0))), (43, zB ((((decide (((showT (treeT text) 0).length : Int) ≤ 1048576)) && (andAll [decide ((errT (showT (treeT text) 0)).1 = 0), decide ((errT (showT (treeT text) 0)).2 = 0), decide (([] : List UInt8) = [])])) && (decide (Tr.whole (treeT text) = Tr.whole (treeT (showT (treeT text) 0))))) && (decide (showT (treeT (showT (treeT text) 0)) 0 = showT (treeT text) 0))))] ?_ (fun K0_12' hK_12' => ?_)
  rotate_left
  ·refine WL.split (((decide (((showT (treeT text) 0).length : Int) ≤ 1048576)) && (andAll [decide ((errT (showT (treeT text) 0)).1 = 0), decide ((errT (showT (treeT text) 0)).2 = 0), decide (([] : List UInt8) = [])])) && (decide (Tr.whole (treeT text) = Tr.whole (treeT (showT (treeT text) 0))))) (fun hb => ?_) (fun hb => ?_)
   ·have o_4' := o_5' hb
    refine WL.set 38 rfl (congrArg zB hb) ?_
    refine wv (OV.move rfl) ?_
    refine WL.call (A := []) tf_ent_21 rfl (print_does te fre (treeT (showT (treeT text) 0)) o_4') rfl ⟨.inr (List.mem_of_getElem? (i := 0) rfl), trivial⟩ rfl rfl ?_
    refine wv (OV.move rfl) ?_
    refine wv (OV.eqlS rfl rfl) ?_
    refine wv (OV.pickT rfl rfl) ?_
    refine WL.set 43 rfl (bT (v := decide (showT (treeT (showT (treeT text) 0)) 0 = showT (treeT text) 0)) hb) ?_
    exact WL.end_ (KX.go hK_12' ⟨rfl, rfl, rfl, trivial⟩)
   ·refine WL.set 38 rfl (congrArg zB hb) ?_
    refine WL.skip rfl rfl rfl ?_
    refine WL.skip rfl rfl rfl ?_
    refine WL.skip rfl rfl rfl ?_
    refine WL.skip rfl rfl rfl ?_
    refine wv (OV.pickF rfl rfl) ?_
    refine WL.set 43 rfl (bF (v := decide (showT (treeT (showT (treeT text) 0)) 0 = showT (treeT text) 0)) hb) ?_
    exact WL.end_ (KX.go hK_12' ⟨rfl, rfl, rfl, trivial⟩)
  refine wv (OV.move rfl) ?_
  obtain ⟨o_8', h⟩ := h
  refine WL.cut 6 [(50, zB (((((decide (((showT (treeT text) 0).length : Int) ≤ 1048576)) && (andAll [decide ((errT (showT (treeT text) 0)).1 = 0), decide ((errT (showT (treeT text) 0)).2 = 0), decide (([] : List UInt8) = [])])) && (decide (Tr.whole (treeT text) = Tr.whole (treeT (showT (treeT text) 0))))) && (decide (showT (treeT (showT (treeT text) 0)) 0 = showT (treeT text) 0))) && (decide ((((treeT (showT (treeT text) 0)).size : Nat) : Int) = (((treeT text).size : Nat) : Int)))))] ?_ (fun K0_13' hK_13' => ?_)
  rotate_left
  ·refine WL.split ((((decide (((showT (treeT text) 0).length : Int) ≤ 1048576)) && (andAll [decide ((errT (showT (treeT text) 0)).1 = 0), decide ((errT (showT (treeT text) 0)).2 = 0), decide (([] : List UInt8) = [])])) && (decide (Tr.whole (treeT text) = Tr.whole (treeT (showT (treeT text) 0))))) && (decide (showT (treeT (showT (treeT text) 0)) 0 = showT (treeT text) 0))) (fun hb => ?_) (fun hb => ?_)
   ·obtain ⟨o_6', o_7'⟩ := o_8' hb
    refine WL.set 44 rfl (congrArg zB hb) ?_
    refine wv (OV.move rfl) ?_
    refine WL.cv (CV.meth rfl o_6' rfl) rfl rfl rfl ?_
    refine wv (OV.move rfl) ?_
    refine WL.cv (CV.meth rfl o_7' rfl) rfl rfl rfl ?_
    refine wv (OV.eql rfl rfl) ?_
    refine wv (OV.pickT rfl rfl) ?_
    refine WL.set 50 rfl (bT (v := decide ((((treeT (showT (treeT text) 0)).size : Nat) : Int) = (((treeT text).size : Nat) : Int))) hb) ?_
    exact WL.end_ (KX.go hK_13' ⟨rfl, trivial⟩)
   ·refine WL.set 44 rfl (congrArg zB hb) ?_
    refine WL.skip rfl rfl rfl ?_
    refine WL.skip rfl rfl rfl ?_
    refine WL.skip rfl rfl rfl ?_
    refine WL.skip rfl rfl rfl ?_
    refine WL.skip rfl rfl rfl ?_
    refine wv (OV.pickF rfl rfl) ?_
    refine WL.set 50 rfl (bF (v := decide ((((treeT (showT (treeT text) 0)).size : Nat) : Int) = (((treeT text).size : Nat) : Int))) hb) ?_
    exact WL.end_ (KX.go hK_13' ⟨rfl, trivial⟩)
  refine wv (OV.assign rfl) ?_
  refine WL.nil ?_
  refine KX.go (hK_9' [(2, zB (((((decide (((showT (treeT text) 0).length : Int) ≤ 1048576)) && (andAll [decide ((errT (showT (treeT text) 0)).1 = 0), decide ((errT (showT (treeT text) 0)).2 = 0), decide (([] : List UInt8) = [])])) && (decide (Tr.whole (treeT text) = Tr.whole (treeT (showT (treeT text) 0))))) && (decide (showT (treeT (showT (treeT text) 0)) 0 = showT (treeT text) 0))) && (decide ((((treeT (showT (treeT text) 0)).size : Nat) : Int) = (((treeT text).size : Nat) : Int)))))] _ ?_) ⟨rfl, trivial⟩
  refine wc_ret ?_
  exact hE.ret [] rfl rfl (.inl ⟨_, h, rfl⟩) (ResV.of1 rfl (RV.tmp rfl))

def lnil_vc (text : List UInt8) (K : Bool → Prop) : Prop :=
 ∃ (J0 : Tr → Prop),
  (∀ (n : Tr), J0 n →
   ((!andAll [decide ((errT ([91, 93] : List UInt8)).1 = 0), decide ((errT ([91, 93] : List UInt8)).2 = 0), decide (([] : List UInt8) = [])]) = false → (Tr.size .none ≤ 1099511627776)) ∧
   (((!andAll [decide ((errT ([91, 93] : List UInt8)).1 = 0), decide ((errT ([91, 93] : List UInt8)).2 = 0), decide (([] : List UInt8) = [])]) || (!decide (showT .none 0 = ([91, 93] : List UInt8)))) = false → (Tr.high .none ≤ 4000)) ∧
   (((((!andAll [decide ((errT ([91, 93] : List UInt8)).1 = 0), decide ((errT ([91, 93] : List UInt8)).2 = 0), decide (([] : List UInt8) = [])]) || (!decide (showT .none 0 = ([91, 93] : List UInt8)))) || (!(decide (Tr.whole .none = Tr.whole (treeT ([91, 93] : List UInt8)))))) || (!(Tr.plain .none))) = false → (Tr.high .none ≤ 4000)) ∧
   (if (((((!andAll [decide ((errT ([91, 93] : List UInt8)).1 = 0), decide ((errT ([91, 93] : List UInt8)).2 = 0), decide (([] : List UInt8) = [])]) || (!decide (showT .none 0 = ([91, 93] : List UInt8)))) || (!(decide (Tr.whole .none = Tr.whole (treeT ([91, 93] : List UInt8)))))) || (!(Tr.plain .none))) || (decide (Tr.whole .none = Tr.whole .eps))) = true then
    K false
   else
    (Tr.high (.cat n Tr.none) ≤ 4000) ∧
    ((decide (Tr.whole (.cat n Tr.none) = Tr.whole (.cat n (treeT ([91, 93] : List UInt8))))) = true → (Tr.size (.cat n Tr.none) ≤ 1099511627776) ∧ (Tr.size (.cat n (treeT ([91, 93] : List UInt8))) ≤ 1099511627776)) ∧
    (((decide (Tr.whole (.cat n Tr.none) = Tr.whole (.cat n (treeT ([91, 93] : List UInt8))))) && (decide (showT (.cat n Tr.none) 0 = showT (.cat n (treeT ([91, 93] : List UInt8))) 0))) = true → (Tr.size (.cat n Tr.none) ≤ 4611686018427387904) ∧ (DoesM Tryd.prog (Tr.val n) "Size" [] (zI ((n.size : Nat) : Int))) ∧ (I64 (2 + ((n.size : Nat) : Int)))) ∧
    K ((((decide (Tr.whole (.cat n Tr.none) = Tr.whole (.cat n (treeT ([91, 93] : List UInt8))))) && (decide (showT (.cat n Tr.none) 0 = showT (.cat n (treeT ([91, 93] : List UInt8))) 0))) && (decide (((Tr.size (.cat n Tr.none) : Nat) : Int) = 2 + ((n.size : Nat) : Int)))) && (!(Tr.null (.cat n Tr.none)))))) ∧
  (if (!andAll [decide ((errT text).1 = 0), decide ((errT text).2 = 0), decide (([] : List UInt8) = [])]) = true then
   J0 .eps
  else
   J0 (treeT text))
set_option maxRecDepth 100000 in
theorem lnil_wp (te : TypeId) (fre : Nat × Nat) (text : List UInt8) (K : Bool → Prop) (h : lnil_vc text K) :
  Does Tryd.prog 8 [st text] [(1, .cells [zU 110, zU 10, zU 114, zU 13, zU 116, zU 9].toArray te fre)] [] (fun o => (∃ (v : Bool), K v ∧ o = .ret (zB v) []) ∨ (False)) := by
 unfold lnil_vc at h
 refine does_of_wc (n := 76) (L0 := [(0, st text)]) Tryd.func8 rfl rfl rfl rfl (fun w0 M Q hE => ?_)
 refine wc_seq (fun K0 hK => ?_)
 refine wc_region ?_
 refine wv (OV.assign rfl) ?_
 refine WL.nil ?_
 refine KX.go (hK [(0, st text)] _ ?_) ⟨rfl, trivial⟩
 refine wc_seq (fun K0_1' hK_1' => ?_)
 refine wc_region ?_
 refine wv (OV.move rfl) ?_
 refine WL.call (A := []) tf_ent_14 rfl (parse_does te fre text) rfl ⟨.inr (List.mem_of_getElem? (i := 0) rfl), trivial⟩ rfl rfl ?_
 refine wv (OV.move rfl) ?_
 refine wv (OV.extract 0 rfl rfl) ?_
 refine wv (OV.extract 1 rfl rfl) ?_
 refine WL.make (MV.alloc tf_zero_26) rfl rfl rfl (fun b => ?_)
 refine wv (OV.assign rfl) ?_
 refine WL.storeW (vs := [zI ((errT text).1), zI ((errT text).2), st []]) 0 rfl rfl rfl rfl rfl tf_size_26 rfl rfl rfl ?_
 refine WL.nil ?_
 refine KX.go (hK_1' [(3, Tr.val (treeT text)), (4, zP b)] _ ?_) ⟨rfl, rfl, trivial⟩
 obtain ⟨J0, hJ, h⟩ := h
 refine wc_seqJ (X := Tr) (fun σ => J0 σ) (fun σ => [(3, Tr.val σ)]) (fun σ => []) ?_ (fun K0_3' hK_3' => ?_)
 ·rintro n hj
  replace h := hJ n hj
  show WC _ _ _ _ [(3, Tr.val n)] []
  refine wc_seq (fun K0_4' hK_4' => ?_)
  refine wc_region ?_
  refine WL.call (A := []) tf_ent_14 rfl (parse_does te fre ([91, 93] : List UInt8)) rfl ⟨.inr (List.mem_of_getElem? (i := 0) rfl), trivial⟩ rfl rfl ?_
  refine wv (OV.move rfl) ?_
  refine wv (OV.extract 0 rfl rfl) ?_
  refine wv (OV.extract 1 rfl rfl) ?_
  refine WL.make (MV.alloc tf_zero_26) rfl rfl rfl (fun b_1' => ?_)
  refine wv (OV.assign rfl) ?_
  refine WL.storeW (vs := [zI ((errT ([91, 93] : List UInt8)).1), zI ((errT ([91, 93] : List UInt8)).2), st []]) 0 rfl rfl rfl rfl rfl tf_size_26 rfl rfl rfl ?_
  refine WL.nil ?_
  refine KX.go (hK_4' [(3, Tr.val n), (5, Tr.val (treeT ([91, 93] : List UInt8))), (6, zP b_1')] _ ?_) ⟨rfl, rfl, rfl, trivial⟩
  refine wc_seq (fun K0_5' hK_5' => ?_)
  refine wc_seq (fun K0_6' hK_6' => ?_)
  refine wc_region ?_
  refine wv (OV.loadR rfl (At.own 0 rfl) tf_row_26) ?_
  refine wv (OV.build rfl (cs := [zI 0, zI 0, st []]) rfl) ?_
  refine wv (OV.neqF (rs := [decide ((errT ([91, 93] : List UInt8)).1 = 0), decide ((errT ([91, 93] : List UInt8)).2 = 0), decide (([] : List UInt8) = [])]) rfl rfl Tryd.underlying26 tf_stood_26 tf_eqg_26 ⟨rfl, tf_scal_24, ⟨_, _, rfl, rfl, ScalEq.int Tryd.underlying24⟩, ⟨rfl, tf_scal_3, ⟨_, _, rfl, rfl, ScalEq.int Tryd.underlying3⟩, ⟨rfl, tf_scal_9, ⟨_, _, rfl, rfl, ScalEq.str Tryd.underlying9⟩, trivial⟩⟩⟩) ?_
  refine wv (OV.move rfl) ?_
  obtain ⟨o_1', h⟩ := h
  refine WL.cut 3 [(3, Tr.val n), (5, Tr.val (treeT ([91, 93] : List UInt8))), (29, zB ((!andAll [decide ((errT ([91, 93] : List UInt8)).1 = 0), decide ((errT ([91, 93] : List UInt8)).2 = 0), decide (([] : List UInt8) = [])]) || (!decide (showT .none 0 = ([91, 93] : List UInt8)))))] ?_ (fun K0_7' hK_7' => ?_)
  rotate_left
  ·refine WL.split (!andAll [decide ((errT ([91, 93] : List UInt8)).1 = 0), decide ((errT ([91, 93] : List UInt8)).2 = 0), decide (([] : List UInt8) = [])]) (fun hb => ?_) (fun hb => ?_)
   ·refine WL.set 26 rfl (congrArg zB hb) ?_
    refine WL.skip rfl rfl rfl ?_
    refine WL.skip rfl rfl rfl ?_
    refine wv (OV.pickT rfl rfl) ?_
    refine WL.set 29 rfl (oT (v := !decide (showT .none 0 = ([91, 93] : List UInt8))) hb) ?_
    exact WL.end_ (KX.go hK_7' ⟨rfl, rfl, rfl, trivial⟩)
   ·have o := o_1' hb
    refine WL.set 26 rfl (congrArg zB hb) ?_
    refine WL.call (A := []) tf_ent_21 rfl (print_does te fre .none o) rfl ⟨.inr (List.mem_of_getElem? (i := 0) rfl), trivial⟩ rfl rfl ?_
    refine wv (OV.neqS rfl rfl) ?_
    refine wv (OV.pickF rfl rfl) ?_
    refine WL.set 29 rfl (oF (v := !decide (showT .none 0 = ([91, 93] : List UInt8))) hb) ?_
    exact WL.end_ (KX.go hK_7' ⟨rfl, rfl, rfl, trivial⟩)
  refine wv (OV.move rfl) ?_
  obtain ⟨o_3', h⟩ := h
  refine WL.cut 4 [(3, Tr.val n), (5, Tr.val (treeT ([91, 93] : List UInt8))), (34, zB (((!andAll [decide ((errT ([91, 93] : List UInt8)).1 = 0), decide ((errT ([91, 93] : List UInt8)).2 = 0), decide (([] : List UInt8) = [])]) || (!decide (showT .none 0 = ([91, 93] : List UInt8)))) || (!(decide (Tr.whole .none = Tr.whole (treeT ([91, 93] : List UInt8)))))))] ?_ (fun K0_8' hK_8' => ?_)
  rotate_left
  ·refine WL.split ((!andAll [decide ((errT ([91, 93] : List UInt8)).1 = 0), decide ((errT ([91, 93] : List UInt8)).2 = 0), decide (([] : List UInt8) = [])]) || (!decide (showT .none 0 = ([91, 93] : List UInt8)))) (fun hb => ?_) (fun hb => ?_)
   ·refine WL.set 30 rfl (congrArg zB hb) ?_
    refine WL.skip rfl rfl rfl ?_
    refine WL.skip rfl rfl rfl ?_
    refine WL.skip rfl rfl rfl ?_
    refine wv (OV.pickT rfl rfl) ?_
    refine WL.set 34 rfl (oT (v := !(decide (Tr.whole .none = Tr.whole (treeT ([91, 93] : List UInt8))))) hb) ?_
    exact WL.end_ (KX.go hK_8' ⟨rfl, rfl, rfl, trivial⟩)
   ·have o_2' := o_3' hb
    refine WL.set 30 rfl (congrArg zB hb) ?_
    refine wv (OV.move rfl) ?_
    refine WL.call (A := []) tf_ent_26 rfl (same_does .none (treeT ([91, 93] : List UInt8)) o_2') rfl trivial rfl rfl ?_
    refine wv (OV.not rfl) ?_
    refine wv (OV.pickF rfl rfl) ?_
    refine WL.set 34 rfl (oF (v := !(decide (Tr.whole .none = Tr.whole (treeT ([91, 93] : List UInt8))))) hb) ?_
    exact WL.end_ (KX.go hK_8' ⟨rfl, rfl, rfl, trivial⟩)
  refine wv (OV.move rfl) ?_
  refine WL.cut 3 [(3, Tr.val n), (5, Tr.val (treeT ([91, 93] : List UInt8))), (38, zB ((((!andAll [decide ((errT ([91, 93] : List UInt8)).1 = 0), decide ((errT ([91, 93] : List UInt8)).2 = 0), decide (([] : List UInt8) = [])]) || (!decide (showT .none 0 = ([91, 93] : List UInt8)))) || (!(decide (Tr.whole .none = Tr.whole (treeT ([91, 93] : List UInt8)))))) || (!(Tr.plain .none))))] ?_ (fun K0_9' hK_9' => ?_)
  rotate_left
  ·refine WL.split (((!andAll [decide ((errT ([91, 93] : List UInt8)).1 = 0), decide ((errT ([91, 93] : List UInt8)).2 = 0), decide (([] : List UInt8) = [])]) || (!decide (showT .none 0 = ([91, 93] : List UInt8)))) || (!(decide (Tr.whole .none = Tr.whole (treeT ([91, 93] : List UInt8)))))) (fun hb => ?_) (fun hb => ?_)
   ·refine WL.set 35 rfl (congrArg zB hb) ?_
    refine WL.skip rfl rfl rfl ?_
    refine WL.skip rfl rfl rfl ?_
    refine wv (OV.pickT rfl rfl) ?_
    refine WL.set 38 rfl (oT (v := !(Tr.plain .none)) hb) ?_
    exact WL.end_ (KX.go hK_9' ⟨rfl, rfl, rfl, trivial⟩)
   ·refine WL.set 35 rfl (congrArg zB hb) ?_
    refine WL.call (A := []) tf_ent_15 rfl (Plain_does .none) rfl trivial rfl rfl ?_
    refine wv (OV.not rfl) ?_
    refine wv (OV.pickF rfl rfl) ?_
    refine WL.set 38 rfl (oF (v := !(Tr.plain .none)) hb) ?_
    exact WL.end_ (KX.go hK_9' ⟨rfl, rfl, rfl, trivial⟩)
  refine wv (OV.move rfl) ?_
  obtain ⟨o_6', h⟩ := h
  refine WL.cut 4 [(3, Tr.val n), (5, Tr.val (treeT ([91, 93] : List UInt8))), (43, zB (((((!andAll [decide ((errT ([91, 93] : List UInt8)).1 = 0), decide ((errT ([91, 93] : List UInt8)).2 = 0), decide (([] : List UInt8) = [])]) || (!decide (showT .none 0 = ([91, 93] : List UInt8)))) || (!(decide (Tr.whole .none = Tr.whole (treeT ([91, 93] : List UInt8)))))) || (!(Tr.plain .none))) || (decide (Tr.whole .none = Tr.whole .eps))))] ?_ (fun K0_10' hK_10' => ?_)
  rotate_left
  ·refine WL.split ((((!andAll [decide ((errT ([91, 93] : List UInt8)).1 = 0), decide ((errT ([91, 93] : List UInt8)).2 = 0), decide (([] : List UInt8) = [])]) || (!decide (showT .none 0 = ([91, 93] : List UInt8)))) || (!(decide (Tr.whole .none = Tr.whole (treeT ([91, 93] : List UInt8)))))) || (!(Tr.plain .none))) (fun hb => ?_) (fun hb => ?_)
   ·refine WL.set 39 rfl (congrArg zB hb) ?_
    refine WL.skip rfl rfl rfl ?_
    refine WL.skip rfl rfl rfl ?_
    refine WL.skip rfl rfl rfl ?_
    refine wv (OV.pickT rfl rfl) ?_
    refine WL.set 43 rfl (oT (v := decide (Tr.whole .none = Tr.whole .eps)) hb) ?_
    exact WL.end_ (KX.go hK_10' ⟨rfl, rfl, rfl, trivial⟩)
   ·have o_5' := o_6' hb
    refine WL.set 39 rfl (congrArg zB hb) ?_
    refine wv (OV.build rfl (cs := []) rfl) ?_
    refine wv (OV.cast (OV.iface rfl tf_conc_49) (v' := Tr.val .eps) rfl) ?_
    refine WL.call (A := []) tf_ent_26 rfl (same_does .none .eps o_5') rfl trivial rfl rfl ?_
    refine wv (OV.pickF rfl rfl) ?_
    refine WL.set 43 rfl (oF (v := decide (Tr.whole .none = Tr.whole .eps)) hb) ?_
    exact WL.end_ (KX.go hK_10' ⟨rfl, rfl, rfl, trivial⟩)
  refine WL.nil ?_
  refine KX.go (hK_6' [(3, Tr.val n), (5, Tr.val (treeT ([91, 93] : List UInt8))), (43, zB (((((!andAll [decide ((errT ([91, 93] : List UInt8)).1 = 0), decide ((errT ([91, 93] : List UInt8)).2 = 0), decide (([] : List UInt8) = [])]) || (!decide (showT .none 0 = ([91, 93] : List UInt8)))) || (!(decide (Tr.whole .none = Tr.whole (treeT ([91, 93] : List UInt8)))))) || (!(Tr.plain .none))) || (decide (Tr.whole .none = Tr.whole .eps))))] _ ?_) ⟨rfl, rfl, rfl, trivial⟩
  refine wc_cond (b := ((((!andAll [decide ((errT ([91, 93] : List UInt8)).1 = 0), decide ((errT ([91, 93] : List UInt8)).2 = 0), decide (([] : List UInt8) = [])]) || (!decide (showT .none 0 = ([91, 93] : List UInt8)))) || (!(decide (Tr.whole .none = Tr.whole (treeT ([91, 93] : List UInt8)))))) || (!(Tr.plain .none))) || (decide (Tr.whole .none = Tr.whole .eps))) rfl (fun hb => ?_) (fun hb => ?_)
  ·replace h := if_T h hb
   refine wc_seq (fun K0_11' hK_11' => ?_)
   refine wc_region ?_
   refine wv (OV.assign rfl) ?_
   refine WL.nil ?_
   refine KX.go (hK_11' [(2, zB false)] _ ?_) ⟨rfl, trivial⟩
   refine wc_ret ?_
   exact hE.ret [] rfl rfl (.inl ⟨_, h, rfl⟩) (ResV.of1 rfl (RV.tmp rfl))
  ·replace h := if_F h hb
   refine wc_skip ?_
   refine KX.go (hK_5' [(3, Tr.val n), (5, Tr.val (treeT ([91, 93] : List UInt8)))] _ ?_) ⟨rfl, rfl, trivial⟩
   refine wc_seq (fun K0_12' hK_12' => ?_)
   refine wc_region ?_
   refine wv (OV.move rfl) ?_
   refine wv (OV.buildC (qs := [(0, [Tr.val n])]) (cs := [Tr.val n, Tr.val Tr.none]) rfl ⟨rfl, Tr.val_cells _, trivial⟩ rfl) ?_
   refine WL.make (MV.alloc tf_zero_51) rfl rfl rfl (fun b_2' => ?_)
   refine WL.storeW (vs := [Tr.val n, Tr.val Tr.none]) 0 rfl rfl rfl rfl rfl tf_size_51 rfl (one_cons (Tr.val_one _) (one_cons (Tr.val_one _) one_nil)) rfl ?_
   refine WL.nil ?_
   refine KX.go (hK_12' [(3, Tr.val n), (5, Tr.val (treeT ([91, 93] : List UInt8))), (7, zP b_2')] _ ?_) ⟨rfl, rfl, rfl, trivial⟩
   refine wc_seq (fun K0_13' hK_13' => ?_)
   refine wc_region ?_
   refine wv (OV.move rfl) ?_
   refine wv (OV.move rfl) ?_
   refine wv (OV.buildC (qs := [(0, [Tr.val n]), (1, [Tr.val (treeT ([91, 93] : List UInt8))])]) (cs := [Tr.val n, Tr.val (treeT ([91, 93] : List UInt8))]) rfl ⟨rfl, Tr.val_cells _, ⟨rfl, Tr.val_cells _, trivial⟩⟩ rfl) ?_
   refine WL.make (MV.alloc tf_zero_51) rfl rfl rfl (fun b_3' => ?_)
   refine WL.storeW (vs := [Tr.val n, Tr.val (treeT ([91, 93] : List UInt8))]) 0 rfl rfl rfl rfl rfl tf_size_51 rfl (one_cons (Tr.val_one _) (one_cons (Tr.val_one _) one_nil)) rfl ?_
   refine WL.nil ?_
   refine KX.go (hK_13' [(3, Tr.val n), (7, zP b_2'), (8, zP b_3')] _ ?_) ⟨rfl, rfl, rfl, trivial⟩
   refine wc_seq (fun K0_14' hK_14' => ?_)
   refine wc_draw_all [] tf_mixed (by kernel_rfl) rfl (fun T hT => ?_)
   refine FL.val (fun _ => OV.loadR rfl (At.own 1 rfl) tf_row_51) rfl (fun _ => rfl) rfl rfl ?_
   refine FL.val (fun _ => OV.cast (OV.iface rfl tf_conc_51) (v' := Tr.val (.cat n Tr.none)) rfl) rfl (fun _ => rfl) rfl rfl ?_
   refine FL.val (fun _ => OV.loadR rfl (At.own 0 rfl) tf_row_51) rfl (fun _ => rfl) rfl rfl ?_
   refine FL.val (fun _ => OV.cast (OV.iface rfl tf_conc_51) (v' := Tr.val (.cat n (treeT ([91, 93] : List UInt8)))) rfl) rfl (fun _ => rfl) rfl rfl ?_
   obtain ⟨o_7', h⟩ := h
   refine FL.call tf_ent_26 (fun _ => rfl) (same_does (.cat n Tr.none) (.cat n (treeT ([91, 93] : List UInt8))) o_7') trivial rfl (fun _ => rfl) rfl ?_
   refine FL.val (fun _ => OV.move rfl) rfl (fun _ => rfl) rfl rfl ?_
   obtain ⟨o_10', h⟩ := h
   refine FL.cut 8 rfl (fun _ => [(3, Tr.val n), (7, zP b_2'), (62, zB ((decide (Tr.whole (.cat n Tr.none) = Tr.whole (.cat n (treeT ([91, 93] : List UInt8))))) && (decide (showT (.cat n Tr.none) 0 = showT (.cat n (treeT ([91, 93] : List UInt8))) 0))))]) ?_ (fun K0_15' hK_15' => ?_)
   rotate_left
   ·refine FL.split (decide (Tr.whole (.cat n Tr.none) = Tr.whole (.cat n (treeT ([91, 93] : List UInt8))))) (fun hb => ?_) (fun hb => ?_)
    ·obtain ⟨o_8', o_9'⟩ := o_10' hb
     refine FL.set 54 (fun _ => rfl) (congrArg zB hb) ?_
     refine FL.val (fun _ => OV.loadR rfl (At.own 1 rfl) tf_row_51) rfl (fun _ => rfl) rfl rfl ?_
     refine FL.val (fun _ => OV.cast (OV.iface rfl tf_conc_51) (v' := Tr.val (.cat n Tr.none)) rfl) rfl (fun _ => rfl) rfl rfl ?_
     refine FL.call tf_ent_21 (fun _ => rfl) (print_does te fre (.cat n Tr.none) o_8') ⟨.inr (List.mem_of_getElem? (i := 0) rfl), trivial⟩ rfl (fun _ => rfl) rfl ?_
     refine FL.val (fun _ => OV.loadR rfl (At.own 0 rfl) tf_row_51) rfl (fun _ => rfl) rfl rfl ?_
     refine FL.val (fun _ => OV.cast (OV.iface rfl tf_conc_51) (v' := Tr.val (.cat n (treeT ([91, 93] : List UInt8)))) rfl) rfl (fun _ => rfl) rfl rfl ?_
     refine FL.call tf_ent_21 (fun _ => rfl) (print_does te fre (.cat n (treeT ([91, 93] : List UInt8))) o_9') ⟨.inr (List.mem_of_getElem? (i := 0) rfl), trivial⟩ rfl (fun _ => rfl) rfl ?_
     refine FL.val (fun _ => OV.eqlS rfl rfl) rfl (fun _ => rfl) rfl rfl ?_
     refine FL.val (fun _ => OV.pickT rfl rfl) rfl (fun _ => rfl) rfl rfl ?_
     refine FL.set 62 (fun _ => rfl) (bT (v := decide (showT (.cat n Tr.none) 0 = showT (.cat n (treeT ([91, 93] : List UInt8))) 0)) hb) ?_
     exact FL.weak (L' := fun _ => [(3, Tr.val n), (7, zP b_2'), (62, zB ((decide (Tr.whole (.cat n Tr.none) = Tr.whole (.cat n (treeT ([91, 93] : List UInt8))))) && (decide (showT (.cat n Tr.none) 0 = showT (.cat n (treeT ([91, 93] : List UInt8))) 0))))]) (fun _ => ⟨rfl, rfl, rfl, trivial⟩) (FL.nil hK_15')
    ·refine FL.set 54 (fun _ => rfl) (congrArg zB hb) ?_
     refine FL.skip rfl (fun _ => rfl) rfl rfl ?_
     refine FL.skip rfl (fun _ => rfl) rfl rfl ?_
     refine FL.skip rfl (fun _ => rfl) rfl rfl ?_
     refine FL.skip rfl (fun _ => rfl) rfl rfl ?_
     refine FL.skip rfl (fun _ => rfl) rfl rfl ?_
     refine FL.skip rfl (fun _ => rfl) rfl rfl ?_
     refine FL.skip rfl (fun _ => rfl) rfl rfl ?_
     refine FL.val (fun _ => OV.pickF rfl rfl) rfl (fun _ => rfl) rfl rfl ?_
     refine FL.set 62 (fun _ => rfl) (bF (v := decide (showT (.cat n Tr.none) 0 = showT (.cat n (treeT ([91, 93] : List UInt8))) 0)) hb) ?_
     exact FL.weak (L' := fun _ => [(3, Tr.val n), (7, zP b_2'), (62, zB ((decide (Tr.whole (.cat n Tr.none) = Tr.whole (.cat n (treeT ([91, 93] : List UInt8))))) && (decide (showT (.cat n Tr.none) 0 = showT (.cat n (treeT ([91, 93] : List UInt8))) 0))))]) (fun _ => ⟨rfl, rfl, rfl, trivial⟩) (FL.nil hK_15')
   refine FL.val (fun _ => OV.move rfl) rfl (fun _ => rfl) rfl rfl ?_
   obtain ⟨o_14', h⟩ := h
   refine FL.cut 7 rfl (fun _ => [(7, zP b_2'), (70, zB (((decide (Tr.whole (.cat n Tr.none) = Tr.whole (.cat n (treeT ([91, 93] : List UInt8))))) && (decide (showT (.cat n Tr.none) 0 = showT (.cat n (treeT ([91, 93] : List UInt8))) 0))) && (decide (((Tr.size (.cat n Tr.none) : Nat) : Int) = 2 + ((n.size : Nat) : Int)))))]) ?_ (fun K0_16' hK_16' => ?_)
   rotate_left
   ·refine FL.split ((decide (Tr.whole (.cat n Tr.none) = Tr.whole (.cat n (treeT ([91, 93] : List UInt8))))) && (decide (showT (.cat n Tr.none) 0 = showT (.cat n (treeT ([91, 93] : List UInt8))) 0))) (fun hb => ?_) (fun hb => ?_)
    ·obtain ⟨o_11', o_12', o_13'⟩ := o_14' hb
     refine FL.set 63 (fun _ => rfl) (congrArg zB hb) ?_
     refine FL.val (fun _ => OV.loadR rfl (At.own 1 rfl) tf_row_51) rfl (fun _ => rfl) rfl rfl ?_
     refine FL.call tf_ent_27 (fun _ => rfl) (catSize_does n Tr.none o_11') trivial rfl (fun _ => rfl) rfl ?_
     refine FL.val (fun _ => OV.move rfl) rfl (fun _ => rfl) rfl rfl ?_
     refine FL.cv (fun _ => CV.meth rfl o_12' rfl) rfl rfl (fun _ => rfl) rfl ?_
     refine FL.val (fun _ => OV.add rfl rfl o_13') rfl (fun _ => rfl) rfl rfl ?_
     refine FL.val (fun _ => OV.eql rfl rfl) rfl (fun _ => rfl) rfl rfl ?_
     refine FL.val (fun _ => OV.pickT rfl rfl) rfl (fun _ => rfl) rfl rfl ?_
     refine FL.set 70 (fun _ => rfl) (bT (v := decide (((Tr.size (.cat n Tr.none) : Nat) : Int) = 2 + ((n.size : Nat) : Int))) hb) ?_
     exact FL.weak (L' := fun _ => [(7, zP b_2'), (70, zB (((decide (Tr.whole (.cat n Tr.none) = Tr.whole (.cat n (treeT ([91, 93] : List UInt8))))) && (decide (showT (.cat n Tr.none) 0 = showT (.cat n (treeT ([91, 93] : List UInt8))) 0))) && (decide (((Tr.size (.cat n Tr.none) : Nat) : Int) = 2 + ((n.size : Nat) : Int)))))]) (fun _ => ⟨rfl, rfl, trivial⟩) (FL.nil hK_16')
    ·refine FL.set 63 (fun _ => rfl) (congrArg zB hb) ?_
     refine FL.skip rfl (fun _ => rfl) rfl rfl ?_
     refine FL.skip rfl (fun _ => rfl) rfl rfl ?_
     refine FL.skip rfl (fun _ => rfl) rfl rfl ?_
     refine FL.skip rfl (fun _ => rfl) rfl rfl ?_
     refine FL.skip rfl (fun _ => rfl) rfl rfl ?_
     refine FL.skip rfl (fun _ => rfl) rfl rfl ?_
     refine FL.val (fun _ => OV.pickF rfl rfl) rfl (fun _ => rfl) rfl rfl ?_
     refine FL.set 70 (fun _ => rfl) (bF (v := decide (((Tr.size (.cat n Tr.none) : Nat) : Int) = 2 + ((n.size : Nat) : Int))) hb) ?_
     exact FL.weak (L' := fun _ => [(7, zP b_2'), (70, zB (((decide (Tr.whole (.cat n Tr.none) = Tr.whole (.cat n (treeT ([91, 93] : List UInt8))))) && (decide (showT (.cat n Tr.none) 0 = showT (.cat n (treeT ([91, 93] : List UInt8))) 0))) && (decide (((Tr.size (.cat n Tr.none) : Nat) : Int) = 2 + ((n.size : Nat) : Int)))))]) (fun _ => ⟨rfl, rfl, trivial⟩) (FL.nil hK_16')
   refine FL.val (fun _ => OV.move rfl) rfl (fun _ => rfl) rfl rfl ?_
   refine FL.cut 4 rfl (fun _ => [(75, zB ((((decide (Tr.whole (.cat n Tr.none) = Tr.whole (.cat n (treeT ([91, 93] : List UInt8))))) && (decide (showT (.cat n Tr.none) 0 = showT (.cat n (treeT ([91, 93] : List UInt8))) 0))) && (decide (((Tr.size (.cat n Tr.none) : Nat) : Int) = 2 + ((n.size : Nat) : Int)))) && (!(Tr.null (.cat n Tr.none)))))]) ?_ (fun K0_17' hK_17' => ?_)
   rotate_left
   ·refine FL.split (((decide (Tr.whole (.cat n Tr.none) = Tr.whole (.cat n (treeT ([91, 93] : List UInt8))))) && (decide (showT (.cat n Tr.none) 0 = showT (.cat n (treeT ([91, 93] : List UInt8))) 0))) && (decide (((Tr.size (.cat n Tr.none) : Nat) : Int) = 2 + ((n.size : Nat) : Int)))) (fun hb => ?_) (fun hb => ?_)
    ·refine FL.set 71 (fun _ => rfl) (congrArg zB hb) ?_
     refine FL.val (fun _ => OV.loadR rfl (At.own 1 rfl) tf_row_51) rfl (fun _ => rfl) rfl rfl ?_
     refine FL.call tf_ent_28 (fun _ => rfl) (catNull_does n Tr.none) trivial rfl (fun _ => rfl) rfl ?_
     refine FL.val (fun _ => OV.not rfl) rfl (fun _ => rfl) rfl rfl ?_
     refine FL.val (fun _ => OV.pickT rfl rfl) rfl (fun _ => rfl) rfl rfl ?_
     refine FL.set 75 (fun _ => rfl) (bT (v := !(Tr.null (.cat n Tr.none))) hb) ?_
     exact FL.weak (L' := fun _ => [(75, zB ((((decide (Tr.whole (.cat n Tr.none) = Tr.whole (.cat n (treeT ([91, 93] : List UInt8))))) && (decide (showT (.cat n Tr.none) 0 = showT (.cat n (treeT ([91, 93] : List UInt8))) 0))) && (decide (((Tr.size (.cat n Tr.none) : Nat) : Int) = 2 + ((n.size : Nat) : Int)))) && (!(Tr.null (.cat n Tr.none)))))]) (fun _ => ⟨rfl, trivial⟩) (FL.nil hK_17')
    ·refine FL.set 71 (fun _ => rfl) (congrArg zB hb) ?_
     refine FL.skip rfl (fun _ => rfl) rfl rfl ?_
     refine FL.skip rfl (fun _ => rfl) rfl rfl ?_
     refine FL.skip rfl (fun _ => rfl) rfl rfl ?_
     refine FL.val (fun _ => OV.pickF rfl rfl) rfl (fun _ => rfl) rfl rfl ?_
     refine FL.set 75 (fun _ => rfl) (bF (v := !(Tr.null (.cat n Tr.none))) hb) ?_
     exact FL.weak (L' := fun _ => [(75, zB ((((decide (Tr.whole (.cat n Tr.none) = Tr.whole (.cat n (treeT ([91, 93] : List UInt8))))) && (decide (showT (.cat n Tr.none) 0 = showT (.cat n (treeT ([91, 93] : List UInt8))) 0))) && (decide (((Tr.size (.cat n Tr.none) : Nat) : Int) = 2 + ((n.size : Nat) : Int)))) && (!(Tr.null (.cat n Tr.none)))))]) (fun _ => ⟨rfl, trivial⟩) (FL.nil hK_17')
   refine FL.val (fun _ => OV.assign rfl) rfl (fun _ => rfl) rfl rfl ?_
   refine FL.weak (L' := fun _ => [(2, zB ((((decide (Tr.whole (.cat n Tr.none) = Tr.whole (.cat n (treeT ([91, 93] : List UInt8))))) && (decide (showT (.cat n Tr.none) 0 = showT (.cat n (treeT ([91, 93] : List UInt8))) 0))) && (decide (((Tr.size (.cat n Tr.none) : Nat) : Int) = 2 + ((n.size : Nat) : Int)))) && (!(Tr.null (.cat n Tr.none)))))]) (fun _ => ⟨rfl, trivial⟩) (FL.nil (hT (fun _ => [(2, zB ((((decide (Tr.whole (.cat n Tr.none) = Tr.whole (.cat n (treeT ([91, 93] : List UInt8))))) && (decide (showT (.cat n Tr.none) 0 = showT (.cat n (treeT ([91, 93] : List UInt8))) 0))) && (decide (((Tr.size (.cat n Tr.none) : Nat) : Int) = 2 + ((n.size : Nat) : Int)))) && (!(Tr.null (.cat n Tr.none)))))]) (fun _ => ?_)))
   refine KX.go (hK_14' [(2, zB ((((decide (Tr.whole (.cat n Tr.none) = Tr.whole (.cat n (treeT ([91, 93] : List UInt8))))) && (decide (showT (.cat n Tr.none) 0 = showT (.cat n (treeT ([91, 93] : List UInt8))) 0))) && (decide (((Tr.size (.cat n Tr.none) : Nat) : Int) = 2 + ((n.size : Nat) : Int)))) && (!(Tr.null (.cat n Tr.none)))))] _ ?_) ⟨rfl, trivial⟩
   refine wc_ret ?_
   exact hE.ret [] rfl rfl (.inl ⟨_, h, rfl⟩) (ResV.of1 rfl (RV.tmp rfl))
 ·skip
  refine wc_seq (fun K0_18' hK_18' => ?_)
  refine wc_region ?_
  refine wv (OV.loadR rfl (At.own 0 rfl) tf_row_26) ?_
  refine wv (OV.build rfl (cs := [zI 0, zI 0, st []]) rfl) ?_
  refine wv (OV.neqF (rs := [decide ((errT text).1 = 0), decide ((errT text).2 = 0), decide (([] : List UInt8) = [])]) rfl rfl Tryd.underlying26 tf_stood_26 tf_eqg_26 ⟨rfl, tf_scal_24, ⟨_, _, rfl, rfl, ScalEq.int Tryd.underlying24⟩, ⟨rfl, tf_scal_3, ⟨_, _, rfl, rfl, ScalEq.int Tryd.underlying3⟩, ⟨rfl, tf_scal_9, ⟨_, _, rfl, rfl, ScalEq.str Tryd.underlying9⟩, trivial⟩⟩⟩) ?_
  refine WL.nil ?_
  refine KX.go (hK_18' [(3, Tr.val (treeT text)), (16, zB (!andAll [decide ((errT text).1 = 0), decide ((errT text).2 = 0), decide (([] : List UInt8) = [])]))] _ ?_) ⟨rfl, rfl, trivial⟩
  refine wc_cond (b := !andAll [decide ((errT text).1 = 0), decide ((errT text).2 = 0), decide (([] : List UInt8) = [])]) rfl (fun hb => ?_) (fun hb => ?_)
  ·replace h := if_T h hb
   refine wc_region ?_
   refine wv (OV.build rfl (cs := []) rfl) ?_
   refine wv (OV.cast (OV.iface rfl tf_conc_49) (v' := Tr.val .eps) rfl) ?_
   refine wv (OV.assign rfl) ?_
   refine WL.nil ?_
   exact KX.goH (hK_3' .eps h) ⟨rfl, trivial⟩ [] rfl rfl
  ·replace h := if_F h hb
   refine wc_skip ?_
   exact KX.goH (hK_3' (treeT text) h) ⟨rfl, trivial⟩ [] rfl rfl

theorem flt0 (t : List UInt8) : andAll [decide ((errT t).1 = 0), decide ((errT t).2 = 0), decide (([] : List UInt8) = [])] = decide ((errT t).1 = 0) := by
 by_cases h : (errT t).1 = 0
 ·obtain ⟨x, hx, _⟩ := errT_zero h
  rw [(errT_ok hx).1]; rfl
 ·simp [andAll, h]
theorem parseT_none {t : List UInt8} {x : Tr} (h : parseT t = .ok x) : x.isNone = false := (parseT_ok h).2.2.1 |> Tr.solid_some
theorem lnil_does (te : TypeId) (fre : Nat × Nat) (t : List UInt8) : Does Tryd.prog 8 [st t] (escTab te fre) [] (Ret (.bool true) []) := by
 refine Does.one (e := fun v => .bool v) (lnil_wp te fre t (fun v => v = true) ?_)
 unfold lnil_vc
 simp only [↓flt0]
 rw [(errT_ok lit_none).1, (errT_ok lit_none).2]
 refine ⟨fun n => n.solid ∧ n.size ≤ 2000, ?_, ?_⟩
 ·rintro n ⟨hsol, hs⟩
  have hh := high_le_size n
  have hn := Tr.solid_some hsol
  refine ⟨fun _ => by decide, fun _ => by decide, fun _ => by decide, ?_⟩
  rw [if_neg (by simp [showT, showO, parT, rankT, Tr.whole, Tr.plain])]
  have h0 : showL cs0 = [91, 93] := by kernel_rfl
  refine ⟨by simp only [Tr.high]; omega, fun _ => ⟨by simp only [Tr.size]; omega, by simp only [Tr.size]; omega⟩, fun _ => ⟨by simp only [Tr.size]; omega, size_meth n hn (by omega), by unfold I64; omega⟩, ?_⟩
  have h2 : showT (.cat n .none) 0 = showT (.cat n (.cls cs0)) 0 := by simp [showT, showO, parT, rankT, h0]
  have h3 : ((Tr.size (.cat n .none) : Nat) : Int) = 2 + ((n.size : Nat) : Int) := by simp only [Tr.size]; omega
  rw [h2, h3]
  simp [Tr.whole, Tr.null]
 ·by_cases he : (errT t).1 = 0
  ·obtain ⟨x, hx, hT⟩ := errT_zero he
   obtain ⟨_, hs, hsol, _⟩ := parseT_ok hx
   rw [if_neg (by simp [he]), hT]
   exact ⟨hsol, hs⟩
  ·rw [if_pos (by simp [he])]
   exact ⟨trivial, by decide⟩
theorem lback_does (te : TypeId) (fre : Nat × Nat) (t : List UInt8) : Does Tryd.prog 6 [st t] (escTab te fre) [] (Ret (.bool true) []) := by
 refine Does.one (e := fun v => .bool v) (lback_wp te fre t (fun v => v = true) ?_)
 unfold lback_vc
 simp only [↓flt0]
 by_cases he : (errT t).1 = 0
 ·obtain ⟨x, hx, hT⟩ := errT_zero he
  obtain ⟨_, hs, hsol, _⟩ := parseT_ok hx
  have hn := parseT_none hx
  have hh := high_le_size x
  rw [if_neg (by simp [he]), hT]
  obtain ⟨p1, p2⟩ := errT_ok (parse_show hsol hs)
  have hl := show_short hs
  rw [p1, p2]
  exact ⟨by omega, fun _ => by omega, fun _ => by omega, fun _ => ⟨size_meth x hn (by omega), size_meth x hn (by omega)⟩, by simp; omega⟩
 ·rw [if_pos (by simp [he])]; trivial
end Go.Proofs.YtohnchdnkbadaaaDoor
namespace Go.Proofs.YtohnchdnkbadaaaDoor
open Go Go.ChangeShapes Go.WideShapes Go.ChangeAt Go.RowKit

theorem regexThereAndBack_walk (t : ByteArray) (_h : t.data.toList.length ≤ reachBytes) : PureE 6 #[.string t] (.bool true) :=
 Does.pureE (vs := [st t.data.toList]) fun te fre => lback_does te fre _

set_option maxRecDepth 100000 in
theorem regexThereAndBack_lifted (os : Os) (started : os.Started) (H : Type) (enc : TypeId × Value → H) :
  ReturnsInHanded {} Tryd.checked os 6 .any (fun w args => (Rows.regexThereAndBackSpec.pre enc Tryd.prog Tryd.f6 [] false w args ∧ laidMetH Tryd.prog escLaid w) ∧ sizedMet enc Tryd.prog Tryd.f6 (OpenSpec.ofChange Rows.regexThereAndBackSpec) false w args)
   (Rows.regexThereAndBackSpec.post enc Tryd.prog Tryd.f6 false true false false) := by
 refine returnsInHanded_of_change_and (C := Tryd.checked) (X := fun w _ => laidMetH Tryd.prog escLaid w) (fun _ _ _ hh h => h.of_heap hh) own_none started (by kernel_rfl) Tryd.func6
  (ChangeSpec.witness_at (enc := enc) (C := Tryd.checked) (os := os) (X := fun w _ => laidMetH Tryd.prog escLaid w) false (laidWorld os) #[.string ByteArray.empty] 8 rfl (by kernel_rfl) (by kernel_rfl) (by kernel_rfl) (by kernel_rfl) (by kernel_rfl) (laidWorld_met os _)) ?_
 intro W base args ds gs before hval0 hW _ hwt0 hL _
 have hval : ∀ (j : Nat) t v, Tryd.f6.params[j]? = some t → args[j]? = some v → Value.okWide Tryd.prog W .any base t v := hval0
 have hW' := hW
 obtain ⟨p, q, hA0, hV, rfl, _, _⟩ := hW
 have hA : DataW.TrodAll enc Tryd.prog W 0 (fun _ => true) true Tryd.f6.params.toList args.toList ds p := hA0
 have hwt : (DataW.weightsEach Tryd.prog (Tryd.f6.params.toList ++ Rows.regexThereAndBackSpec.plain.varTypes Tryd.prog) (ds ++ gs)).all (· ≤ reachBytes) = true := hwt0
 rw [Tryd.params6] at hA hval hwt
 obtain ⟨v0, d0, rfl, rfl, h0⟩ := trodAll_one hA
 obtain ⟨rfl, rfl⟩ := trodVars_none hV
 obtain ⟨a0, rfl, e0, _, _⟩ := ChangeMaps.open_string Tryd.underlying9 (hval 0 _ v0 rfl rfl) h0
 have z0 : a0.data.toList.length ≤ reachBytes := sized_string hwt (j := 0) (t := 9) rfl (by rw [e0]; rfl)
 refine (regexThereAndBack_walk a0 z0 W (esc_of_laid hL)).mono fun e W' ⟨he, hb⟩ => ?_
 subst he
 exact ⟨_, rfl, law_post laid_out rfl Tryd.underlying4 (by kernel_rfl) rfl hW' rfl hb⟩

theorem regexThereAndBack_said : Rows.RegexThereAndBackSaid :=
 OpenClaim.holds_of_wide 6 Tryd.f6 rfl rfl rfl rfl rfl rfl rfl ⟨rfl, rfl, rfl, rfl, rfl⟩ rfl rfl rfl rfl rfl (by kernel_rfl) Tryd.func6 (by kernel_rfl)
  (of_decide_eq_true (by kernel_rfl)) (by unfold Func.isWrapper; rw [if_neg (of_decide_eq_false (by kernel_rfl))]; exact ⟨rfl, rfl⟩)
  (fun os started H enc _ => regexThereAndBack_lifted os started H enc)

theorem regexThereAndBack_card_holds : Rows.RegexThereAndBackCardSaid :=
 Claim7.holds_tied_plain_at .later [] _ _ _ _ regexThereAndBack_said (fun _ h => by cases h) (by kernel_rfl) (fun _ h => by cases h) regexThereAndBack_row_tie rfl ⟨rfl, rfl⟩ (by kernel_rfl) rfl
  (fun f fn hf hfn => by
   obtain rfl : f = 6 := Option.some.inj ((show Tryd.prog.funcNamed "loupe/loupelaw02.RegexThereAndBack" = some 6 by kernel_rfl).symm.trans hf) |>.symm
   obtain rfl : fn = Tryd.f6 := (Option.some.inj (Tryd.func6.symm.trans hfn)).symm
   refine ⟨by kernel_rfl, fun j t ht => ?_⟩
   rw [Tryd.params6] at ht
   have h3 : t = 9 := by simpa using Array.mem_of_getElem? ht
   rcases h3 with rfl
   ·exact (show Tryd.prog.wantsStandIn 9 = false by kernel_rfl))
  (by kernel_rfl)

end Go.Proofs.YtohnchdnkbadaaaDoor
namespace Go.Proofs.YtohnchdnkbadaaaDoor
open Go Go.ChangeShapes Go.WideShapes Go.ChangeAt Go.RowKit

theorem regexNil_walk (t : ByteArray) (_h : t.data.toList.length ≤ reachBytes) : PureE 8 #[.string t] (.bool true) :=
 Does.pureE (vs := [st t.data.toList]) fun te fre => lnil_does te fre _

set_option maxRecDepth 100000 in
theorem regexNil_lifted (os : Os) (started : os.Started) (H : Type) (enc : TypeId × Value → H) :
  ReturnsInHanded {} Tryd.checked os 8 .any (fun w args => (Rows.regexNilSpec.pre enc Tryd.prog Tryd.f8 [] false w args ∧ laidMetH Tryd.prog escLaid w) ∧ sizedMet enc Tryd.prog Tryd.f8 (OpenSpec.ofChange Rows.regexNilSpec) false w args)
   (Rows.regexNilSpec.post enc Tryd.prog Tryd.f8 false true false false) := by
 refine returnsInHanded_of_change_and (C := Tryd.checked) (X := fun w _ => laidMetH Tryd.prog escLaid w) (fun _ _ _ hh h => h.of_heap hh) own_none started (by kernel_rfl) Tryd.func8
  (ChangeSpec.witness_at (enc := enc) (C := Tryd.checked) (os := os) (X := fun w _ => laidMetH Tryd.prog escLaid w) false (laidWorld os) #[.string ByteArray.empty] 8 rfl (by kernel_rfl) (by kernel_rfl) (by kernel_rfl) (by kernel_rfl) (by kernel_rfl) (laidWorld_met os _)) ?_
 intro W base args ds gs before hval0 hW _ hwt0 hL _
 have hval : ∀ (j : Nat) t v, Tryd.f8.params[j]? = some t → args[j]? = some v → Value.okWide Tryd.prog W .any base t v := hval0
 have hW' := hW
 obtain ⟨p, q, hA0, hV, rfl, _, _⟩ := hW
 have hA : DataW.TrodAll enc Tryd.prog W 0 (fun _ => true) true Tryd.f8.params.toList args.toList ds p := hA0
 have hwt : (DataW.weightsEach Tryd.prog (Tryd.f8.params.toList ++ Rows.regexNilSpec.plain.varTypes Tryd.prog) (ds ++ gs)).all (· ≤ reachBytes) = true := hwt0
 rw [Tryd.params8] at hA hval hwt
 obtain ⟨v0, d0, rfl, rfl, h0⟩ := trodAll_one hA
 obtain ⟨rfl, rfl⟩ := trodVars_none hV
 obtain ⟨a0, rfl, e0, _, _⟩ := ChangeMaps.open_string Tryd.underlying9 (hval 0 _ v0 rfl rfl) h0
 have z0 : a0.data.toList.length ≤ reachBytes := sized_string hwt (j := 0) (t := 9) rfl (by rw [e0]; rfl)
 refine (regexNil_walk a0 z0 W (esc_of_laid hL)).mono fun e W' ⟨he, hb⟩ => ?_
 subst he
 exact ⟨_, rfl, law_post laid_out rfl Tryd.underlying4 (by kernel_rfl) rfl hW' rfl hb⟩

theorem regexNil_said : Rows.RegexNilSaid :=
 OpenClaim.holds_of_wide 8 Tryd.f8 rfl rfl rfl rfl rfl rfl rfl ⟨rfl, rfl, rfl, rfl, rfl⟩ rfl rfl rfl rfl rfl (by kernel_rfl) Tryd.func8 (by kernel_rfl)
  (of_decide_eq_true (by kernel_rfl)) (by unfold Func.isWrapper; rw [if_neg (of_decide_eq_false (by kernel_rfl))]; exact ⟨rfl, rfl⟩)
  (fun os started H enc _ => regexNil_lifted os started H enc)

theorem regexNil_card_holds : Rows.RegexNilCardSaid :=
 Claim7.holds_tied_plain_at .later [] _ _ _ _ regexNil_said (fun _ h => by cases h) (by kernel_rfl) (fun _ h => by cases h) regexNil_row_tie rfl ⟨rfl, rfl⟩ (by kernel_rfl) rfl
  (fun f fn hf hfn => by
   obtain rfl : f = 8 := Option.some.inj ((show Tryd.prog.funcNamed "loupe/loupelaw02.RegexNil" = some 8 by kernel_rfl).symm.trans hf) |>.symm
   obtain rfl : fn = Tryd.f8 := (Option.some.inj (Tryd.func8.symm.trans hfn)).symm
   refine ⟨by kernel_rfl, fun j t ht => ?_⟩
   rw [Tryd.params8] at ht
   have h3 : t = 9 := by simpa using Array.mem_of_getElem? ht
   rcases h3 with rfl
   ·exact (show Tryd.prog.wantsStandIn 9 = false by kernel_rfl))
  (by kernel_rfl)

end Go.Proofs.YtohnchdnkbadaaaDoor
