/-
  Merged: RxW, RxLawSames.
-/
import Derived.Test.YtohnchdnkbadaaaDoorPd11
set_option maxRecDepth 100000
namespace Go.Proofs.YtohnchdnkbadaaaDoor
open Go Go.RowKit
theorem anw : o9 Tryd.prog 16 = true := by kernel_rfl
theorem aov : o9 Tryd.prog 17 = true := by kernel_rfl
theorem avp : o9 Tryd.prog 19 = true := by kernel_rfl
theorem an2 : o9 Tryd.prog 22 = true := by kernel_rfl
theorem agy : o9 Tryd.prog 26 = true := by kernel_rfl
def ajq (s : List UInt8) (t : List UInt8) (K : Bool → Prop) : Prop :=
 (([97] : List UInt8).length ≤ 4096) ∧
 (([98] : List UInt8).length ≤ 4096) ∧
 (Tr.high (adv ([97] : List UInt8)) ≤ 4000) ∧
 (if (decide (Tr.whole (adv ([97] : List UInt8)) = Tr.whole (adv ([98] : List UInt8)))) = true then
  K false
 else
  (
   (
    (if ((!((t4 [decide ((m9 s).1 = 0), decide ((m9 s).2 = 0), decide (([] : List UInt8) = [])]) == (decide ((m9 s).1 = 0)))) || (!((t4 [decide ((m9 t).1 = 0), decide ((m9 t).2 = 0), decide (([] : List UInt8) = [])]) == (decide ((m9 t).1 = 0))))) = true then
     K false
    else
     (if ((!decide ((m9 s).1 = 0)) || (!decide ((m9 t).1 = 0))) = true then
      K true
     else
      (ayv (reN s) (p9 s)) ∧
      (ayv (reN t) (p9 t)) ∧
      (Tr.high (j9 s) ≤ 4000) ∧
      (((decide (Tr.whole (j9 s) = Tr.whole (j9 t))) == (decide (b7 (j8 (reN s) (p9 s)) 0 = b7 (j8 (reN t) (p9 t)) 0))) = true → (Tr.high (j9 t) ≤ 4000)) ∧
      ((((decide (Tr.whole (j9 s) = Tr.whole (j9 t))) == (decide (b7 (j8 (reN s) (p9 s)) 0 = b7 (j8 (reN t) (p9 t)) 0))) && ((decide (Tr.whole (j9 t) = Tr.whole (j9 s))) == (decide (b7 (j8 (reN s) (p9 s)) 0 = b7 (j8 (reN t) (p9 t)) 0)))) = true → (Tr.high (j9 s) ≤ 4000)) ∧
      K ((((decide (Tr.whole (j9 s) = Tr.whole (j9 t))) == (decide (b7 (j8 (reN s) (p9 s)) 0 = b7 (j8 (reN t) (p9 t)) 0))) && ((decide (Tr.whole (j9 t) = Tr.whole (j9 s))) == (decide (b7 (j8 (reN s) (p9 s)) 0 = b7 (j8 (reN t) (p9 t)) 0)))) && (decide (Tr.whole (j9 s) = Tr.whole (j9 s)))))))))
theorem auv (te : TypeId) (fre : Nat × Nat) (s : List UInt8) (t : List UInt8) (K : Bool → Prop) (h : ajq s t K) :
  d4 Tryd.prog 7 [st s, st t] [(1, .cells [zU 110, zU 10, zU 114, zU 13, zU 116, zU 9].toArray te fre)] [] (fun o => (∃ (v : Bool), K v ∧ o = .ret (zB v) []) ∨ (False)) := by
 unfold ajq at h
 refine c8 (n := 87) (L0 := [(0, st s), (1, st t)]) Tryd.func7 rfl rfl rfl rfl (fun w0 M Q hE => ?_)
 refine a6 (fun _ hK => ?_)
 refine a4 ?_
 refine wa ?_
 refine WL.nil ?_
 refine kg (hK [(0, st s), (1, st t)] _ ?_)
 refine a6 (fun _ hK_1' => ?_)
 refine a6 (fun _ hK_2' => ?_)
 refine a4 ?_
 refine WL.call (A := []) avp rfl (aq3 te fre) rfl ⟨.inr (List.mem_of_getElem? (i := 0) rfl), trivial⟩ rfl rfl ?_
 refine wv (OV.not rfl) ?_
 refine wm ?_
 obtain ⟨o, h⟩ := h
 refine WL.call (A := []) anw rfl (ant ([97] : List UInt8) o) rfl trivial rfl rfl ?_
 obtain ⟨o_1', h⟩ := h
 refine WL.call (A := []) anw rfl (ant ([98] : List UInt8) o_1') rfl trivial rfl rfl ?_
 obtain ⟨o_2', h⟩ := h
 refine WL.call (A := []) agy rfl (agt (adv ([97] : List UInt8)) (adv ([98] : List UInt8)) o_2') rfl trivial rfl rfl ?_
 refine wv (OV.pickF rfl rfl) ?_
 refine WL.nil ?_
 refine kg (hK_2' [(0, st s), (1, st t), (22, zB (decide (Tr.whole (adv ([97] : List UInt8)) = Tr.whole (adv ([98] : List UInt8)))))] _ ?_)
 refine b5 (b := decide (Tr.whole (adv ([97] : List UInt8)) = Tr.whole (adv ([98] : List UInt8)))) rfl (fun hb => ?_) (fun hb => ?_)
 ·replace h := j7 h hb
  refine a6 (fun _ hK_3' => ?_)
  refine a4 ?_
  refine wa ?_
  refine WL.nil ?_
  refine kg (hK_3' [(4, zB false)] _ ?_)
  refine b9 ?_
  exact hE.ret [] rfl rfl (.inl ⟨_, h, rfl⟩) (f9.of1 rfl (RV.tmp rfl))
 ·replace h := j6 h hb
  refine b8 ?_
  refine kg (hK_1' [(0, st s), (1, st t)] _ ?_)
  refine a6 (fun _ hK_4' => ?_)
  refine a4 ?_
  refine wm ?_
  refine WL.call (A := []) ai5 rfl (ah1 te fre s) rfl ⟨.inr (List.mem_of_getElem? (i := 0) rfl), trivial⟩ rfl rfl ?_
  refine wm ?_
  refine wv (OV.extract 0 rfl rfl) ?_
  refine wv (OV.extract 1 rfl rfl) ?_
  refine WL.make (MV.alloc acp) rfl rfl rfl (fun b => ?_)
  refine wa ?_
  refine WL.storeW (vs := [zI ((m9 s).1), zI ((m9 s).2), st []]) 0 rfl rfl rfl rfl rfl aaf rfl rfl rfl ?_
  refine WL.nil ?_
  refine kg (hK_4' [(0, st s), (1, st t), (5, Tr.val (j9 s)), (6, zP b)] _ ?_)
  refine a6 (fun _ hK_5' => ?_)
  refine a4 ?_
  refine wm ?_
  refine WL.call (A := []) ai5 rfl (ah1 te fre t) rfl ⟨.inr (List.mem_of_getElem? (i := 0) rfl), trivial⟩ rfl rfl ?_
  refine wm ?_
  refine wv (OV.extract 0 rfl rfl) ?_
  refine wv (OV.extract 1 rfl rfl) ?_
  refine WL.make (MV.alloc acp) rfl rfl rfl (fun b_1' => ?_)
  refine wa ?_
  refine WL.storeW (vs := [zI ((m9 t).1), zI ((m9 t).2), st []]) 0 rfl rfl rfl rfl rfl aaf rfl rfl rfl ?_
  refine WL.nil ?_
  refine kg (hK_5' [(0, st s), (1, st t), (5, Tr.val (j9 s)), (6, zP b), (7, Tr.val (j9 t)), (8, zP b_1')] _ ?_)
  refine a6 (fun _ hK_6' => ?_)
  refine a4 ?_
  refine wm ?_
  refine WL.callS aov rfl (ajw s) rfl trivial rfl rfl (fun r H' hS => ?_) (fun c H' hS => ?_)
  ·obtain ⟨w, ho⟩ := hS
   cases ho
   refine wm ?_
   refine wv (OV.extract 0 rfl rfl) ?_
   refine wv (OV.extract 1 rfl rfl) ?_
   refine wv (OV.extract 2 rfl rfl) ?_
   refine WL.make (MV.alloc afn) rfl rfl rfl (fun b_2' => ?_)
   refine WL.nilRow 102 261 ndC ?_
   refine WL.rowOne 2 rfl (fun hone => ?_)
   refine WL.storeW (vs := [w, zI (p9 s)]) 1 rfl rfl rfl rfl rfl aad rfl (c9 hone (c9 rfl m4)) rfl ?_
   refine wa ?_
   refine wa ?_
   refine WL.nil ?_
   refine kg (hK_6' [(1, st t), (5, Tr.val (j9 s)), (6, zP b), (7, Tr.val (j9 t)), (8, zP b_1'), (9, zP b_2'), (10, zI ((m9 s).1))] _ ?_)
   refine a6 (fun _ hK_7' => ?_)
   refine a4 ?_
   refine wm ?_
   refine WL.callS aov rfl (ajw t) rfl trivial rfl rfl (fun r H' hS => ?_) (fun c H' hS => ?_)
   ·obtain ⟨w_1', ho⟩ := hS
    cases ho
    refine wm ?_
    refine wv (OV.extract 0 rfl rfl) ?_
    refine wv (OV.extract 1 rfl rfl) ?_
    refine wv (OV.extract 2 rfl rfl) ?_
    refine WL.make (MV.alloc afn) rfl rfl rfl (fun b_3' => ?_)
    refine WL.nilRow 102 261 ndC ?_
    refine WL.rowOne 2 rfl (fun hone => ?_)
    refine WL.storeW (vs := [w_1', zI (p9 t)]) 1 rfl rfl rfl rfl rfl aad rfl (c9 hone (c9 rfl m4)) rfl ?_
    refine wa ?_
    refine wa ?_
    refine WL.nil ?_
    refine kg (hK_7' [(5, Tr.val (j9 s)), (6, zP b), (7, Tr.val (j9 t)), (8, zP b_1'), (9, zP b_2'), (10, zI ((m9 s).1)), (12, zP b_3'), (13, zI ((m9 t).1))] _ ?_)
    refine a6 (fun _ hK_8' => ?_)
    refine a6 (fun _ hK_9' => ?_)
    refine a4 ?_
    refine wv (OV.loadR rfl (At.own 7 rfl) z8) ?_
    refine wv (OV.build rfl (cs := [zI 0, zI 0, st []]) rfl) ?_
    refine wv (OV.eqlF (rs := [decide ((m9 s).1 = 0), decide ((m9 s).2 = 0), decide (([] : List UInt8) = [])]) rfl rfl Tryd.underlying26 aec agu ⟨rfl, ae7, ⟨_, _, rfl, rfl, aaz.int Tryd.underlying24⟩, ⟨rfl, b4, ⟨_, _, rfl, rfl, aaz.int Tryd.underlying3⟩, ⟨rfl, aax, ⟨_, _, rfl, rfl, aaz.str Tryd.underlying9⟩, trivial⟩⟩⟩) ?_
    refine wm ?_
    refine wv (OV.eql rfl rfl) ?_
    refine wv (OV.neqB rfl rfl Tryd.underlying4) ?_
    refine wm ?_
    refine WL.cut 7 [(5, Tr.val (j9 s)), (7, Tr.val (j9 t)), (9, zP b_2'), (10, zI ((m9 s).1)), (12, zP b_3'), (13, zI ((m9 t).1)), (58, zB ((!((t4 [decide ((m9 s).1 = 0), decide ((m9 s).2 = 0), decide (([] : List UInt8) = [])]) == (decide ((m9 s).1 = 0)))) || (!((t4 [decide ((m9 t).1 = 0), decide ((m9 t).2 = 0), decide (([] : List UInt8) = [])]) == (decide ((m9 t).1 = 0))))))] ?_ (fun K0_10' hK_10' => ?_)
    rotate_left
    ·refine WL.split (!((t4 [decide ((m9 s).1 = 0), decide ((m9 s).2 = 0), decide (([] : List UInt8) = [])]) == (decide ((m9 s).1 = 0)))) (fun hb => ?_) (fun hb => ?_)
     ·refine WL.set 51 rfl (congrArg zB hb) ?_
      refine wk ?_
      refine wk ?_
      refine wk ?_
      refine wk ?_
      refine wk ?_
      refine wk ?_
      refine wv (OV.pickT rfl rfl) ?_
      refine WL.set 58 rfl (oT (v := !((t4 [decide ((m9 t).1 = 0), decide ((m9 t).2 = 0), decide (([] : List UInt8) = [])]) == (decide ((m9 t).1 = 0)))) hb) ?_
      exact WL.end_ (kg hK_10')
     ·refine WL.set 51 rfl (congrArg zB hb) ?_
      refine wv (OV.loadR rfl (At.own 6 rfl) z8) ?_
      refine wv (OV.build rfl (cs := [zI 0, zI 0, st []]) rfl) ?_
      refine wv (OV.eqlF (rs := [decide ((m9 t).1 = 0), decide ((m9 t).2 = 0), decide (([] : List UInt8) = [])]) rfl rfl Tryd.underlying26 aec agu ⟨rfl, ae7, ⟨_, _, rfl, rfl, aaz.int Tryd.underlying24⟩, ⟨rfl, b4, ⟨_, _, rfl, rfl, aaz.int Tryd.underlying3⟩, ⟨rfl, aax, ⟨_, _, rfl, rfl, aaz.str Tryd.underlying9⟩, trivial⟩⟩⟩) ?_
      refine wm ?_
      refine wv (OV.eql rfl rfl) ?_
      refine wv (OV.neqB rfl rfl Tryd.underlying4) ?_
      refine wv (OV.pickF rfl rfl) ?_
      refine WL.set 58 rfl (oF (v := !((t4 [decide ((m9 t).1 = 0), decide ((m9 t).2 = 0), decide (([] : List UInt8) = [])]) == (decide ((m9 t).1 = 0)))) hb) ?_
      exact WL.end_ (kg hK_10')
    refine WL.nil ?_
    refine kg (hK_9' [(5, Tr.val (j9 s)), (7, Tr.val (j9 t)), (9, zP b_2'), (10, zI ((m9 s).1)), (12, zP b_3'), (13, zI ((m9 t).1)), (58, zB ((!((t4 [decide ((m9 s).1 = 0), decide ((m9 s).2 = 0), decide (([] : List UInt8) = [])]) == (decide ((m9 s).1 = 0)))) || (!((t4 [decide ((m9 t).1 = 0), decide ((m9 t).2 = 0), decide (([] : List UInt8) = [])]) == (decide ((m9 t).1 = 0))))))] _ ?_)
    refine b5 (b := (!((t4 [decide ((m9 s).1 = 0), decide ((m9 s).2 = 0), decide (([] : List UInt8) = [])]) == (decide ((m9 s).1 = 0)))) || (!((t4 [decide ((m9 t).1 = 0), decide ((m9 t).2 = 0), decide (([] : List UInt8) = [])]) == (decide ((m9 t).1 = 0))))) rfl (fun hb => ?_) (fun hb => ?_)
    ·replace h := j7 h hb
     refine a6 (fun _ hK_11' => ?_)
     refine a4 ?_
     refine wa ?_
     refine WL.nil ?_
     refine kg (hK_11' [(4, zB false)] _ ?_)
     refine b9 ?_
     exact hE.ret [] rfl rfl (.inl ⟨_, h, rfl⟩) (f9.of1 rfl (RV.tmp rfl))
    ·replace h := j6 h hb
     refine b8 ?_
     refine kg (hK_8' [(5, Tr.val (j9 s)), (7, Tr.val (j9 t)), (9, zP b_2'), (10, zI ((m9 s).1)), (12, zP b_3'), (13, zI ((m9 t).1))] _ ?_)
     refine a6 (fun _ hK_12' => ?_)
     refine a6 (fun _ hK_13' => ?_)
     refine a4 ?_
     refine wm ?_
     refine wv (OV.neq rfl rfl) ?_
     refine wm ?_
     refine WL.cut 3 [(5, Tr.val (j9 s)), (7, Tr.val (j9 t)), (9, zP b_2'), (12, zP b_3'), (64, zB ((!decide ((m9 s).1 = 0)) || (!decide ((m9 t).1 = 0))))] ?_ (fun K0_14' hK_14' => ?_)
     rotate_left
     ·refine WL.split (!decide ((m9 s).1 = 0)) (fun hb => ?_) (fun hb => ?_)
      ·refine WL.set 61 rfl (congrArg zB hb) ?_
       refine wk ?_
       refine wk ?_
       refine wv (OV.pickT rfl rfl) ?_
       refine WL.set 64 rfl (oT (v := !decide ((m9 t).1 = 0)) hb) ?_
       exact WL.end_ (kg hK_14')
      ·refine WL.set 61 rfl (congrArg zB hb) ?_
       refine wm ?_
       refine wv (OV.neq rfl rfl) ?_
       refine wv (OV.pickF rfl rfl) ?_
       refine WL.set 64 rfl (oF (v := !decide ((m9 t).1 = 0)) hb) ?_
       exact WL.end_ (kg hK_14')
     refine WL.nil ?_
     refine kg (hK_13' [(5, Tr.val (j9 s)), (7, Tr.val (j9 t)), (9, zP b_2'), (12, zP b_3'), (64, zB ((!decide ((m9 s).1 = 0)) || (!decide ((m9 t).1 = 0))))] _ ?_)
     refine b5 (b := (!decide ((m9 s).1 = 0)) || (!decide ((m9 t).1 = 0))) rfl (fun hb => ?_) (fun hb => ?_)
     ·replace h := j7 h hb
      refine a6 (fun _ hK_15' => ?_)
      refine a4 ?_
      refine wa ?_
      refine WL.nil ?_
      refine kg (hK_15' [(4, zB true)] _ ?_)
      refine b9 ?_
      exact hE.ret [] rfl rfl (.inl ⟨_, h, rfl⟩) (f9.of1 rfl (RV.tmp rfl))
     ·replace h := j6 h hb
      refine b8 ?_
      refine kg (hK_12' [(5, Tr.val (j9 s)), (7, Tr.val (j9 t)), (9, zP b_2'), (12, zP b_3')] _ ?_)
      refine a6 (fun _ hK_16' => ?_)
      refine o0 3 [] g8 (by kernel_rfl) rfl (fun T hT => ?_)
      refine fv (fun _ => OV.loadR rfl (At.own 4 rfl) o6) ?_
      obtain ⟨o_5', h⟩ := h
      refine FL.callL an2 (fun _ => rfl) (fun R hR => akp w (reN s) (p9 s) o_5' R hR) (LOk.row 5 rfl) rfl (fun _ => rfl) rfl ?_
      refine fv (fun _ => OV.loadR rfl (At.own 1 rfl) o6) ?_
      refine FL.weak (L' := fun γ => [(5, Tr.val (j9 s)), (7, Tr.val (j9 t)), (66, st (b7 (j8 (reN s) (p9 s)) 0)), (67, Value.agg [w_1', zI (p9 t)].toArray)]) (fun γ => ⟨rfl, rfl, rfl, rfl, trivial⟩) (FL.nil (hT (fun γ => [(5, Tr.val (j9 s)), (7, Tr.val (j9 t)), (66, st (b7 (j8 (reN s) (p9 s)) 0)), (67, Value.agg [w_1', zI (p9 t)].toArray)]) (fun γ => ?_)))
      obtain ⟨o_6', h⟩ := h
      refine WL.call1 (A := []) an2 rfl (fun R hR => akp w_1' (reN t) (p9 t) o_6' R hR) rfl (LOk.row 2 rfl) trivial rfl rfl ?_
      refine wv (OV.eqlS rfl rfl) ?_
      refine wa ?_
      refine WL.nil ?_
      refine kg (hK_16' [(5, Tr.val (j9 s)), (7, Tr.val (j9 t)), (15, zB (decide (b7 (j8 (reN s) (p9 s)) 0 = b7 (j8 (reN t) (p9 t)) 0)))] _ ?_)
      refine a6 (fun _ hK_17' => ?_)
      refine a4 ?_
      refine wm ?_
      refine wm ?_
      obtain ⟨o_7', h⟩ := h
      refine WL.call (A := []) agy rfl (agt (j9 s) (j9 t) o_7') rfl trivial rfl rfl ?_
      refine wm ?_
      refine wv (OV.eqlB rfl rfl Tryd.underlying4) ?_
      refine wm ?_
      obtain ⟨o_9', h⟩ := h
      refine WL.cut 6 [(5, Tr.val (j9 s)), (81, zB (((decide (Tr.whole (j9 s) = Tr.whole (j9 t))) == (decide (b7 (j8 (reN s) (p9 s)) 0 = b7 (j8 (reN t) (p9 t)) 0))) && ((decide (Tr.whole (j9 t) = Tr.whole (j9 s))) == (decide (b7 (j8 (reN s) (p9 s)) 0 = b7 (j8 (reN t) (p9 t)) 0)))))] ?_ (fun K0_18' hK_18' => ?_)
      rotate_left
      ·refine WL.split ((decide (Tr.whole (j9 s) = Tr.whole (j9 t))) == (decide (b7 (j8 (reN s) (p9 s)) 0 = b7 (j8 (reN t) (p9 t)) 0))) (fun hb => ?_) (fun hb => ?_)
       ·have o_8' := o_9' hb
        refine WL.set 75 rfl (congrArg zB hb) ?_
        refine wm ?_
        refine wm ?_
        refine WL.call (A := []) agy rfl (agt (j9 t) (j9 s) o_8') rfl trivial rfl rfl ?_
        refine wm ?_
        refine wv (OV.eqlB rfl rfl Tryd.underlying4) ?_
        refine wv (OV.pickT rfl rfl) ?_
        refine WL.set 81 rfl (bT (v := (decide (Tr.whole (j9 t) = Tr.whole (j9 s))) == (decide (b7 (j8 (reN s) (p9 s)) 0 = b7 (j8 (reN t) (p9 t)) 0))) hb) ?_
        exact WL.end_ (kg hK_18')
       ·refine WL.set 75 rfl (congrArg zB hb) ?_
        refine wk ?_
        refine wk ?_
        refine wk ?_
        refine wk ?_
        refine wk ?_
        refine wv (OV.pickF rfl rfl) ?_
        refine WL.set 81 rfl (bF (v := (decide (Tr.whole (j9 t) = Tr.whole (j9 s))) == (decide (b7 (j8 (reN s) (p9 s)) 0 = b7 (j8 (reN t) (p9 t)) 0))) hb) ?_
        exact WL.end_ (kg hK_18')
      refine wm ?_
      obtain ⟨o_11', h⟩ := h
      refine WL.cut 4 [(86, zB ((((decide (Tr.whole (j9 s) = Tr.whole (j9 t))) == (decide (b7 (j8 (reN s) (p9 s)) 0 = b7 (j8 (reN t) (p9 t)) 0))) && ((decide (Tr.whole (j9 t) = Tr.whole (j9 s))) == (decide (b7 (j8 (reN s) (p9 s)) 0 = b7 (j8 (reN t) (p9 t)) 0)))) && (decide (Tr.whole (j9 s) = Tr.whole (j9 s)))))] ?_ (fun K0_19' hK_19' => ?_)
      rotate_left
      ·refine WL.split (((decide (Tr.whole (j9 s) = Tr.whole (j9 t))) == (decide (b7 (j8 (reN s) (p9 s)) 0 = b7 (j8 (reN t) (p9 t)) 0))) && ((decide (Tr.whole (j9 t) = Tr.whole (j9 s))) == (decide (b7 (j8 (reN s) (p9 s)) 0 = b7 (j8 (reN t) (p9 t)) 0)))) (fun hb => ?_) (fun hb => ?_)
       ·have o_10' := o_11' hb
        refine WL.set 82 rfl (congrArg zB hb) ?_
        refine wm ?_
        refine wm ?_
        refine WL.call (A := []) agy rfl (agt (j9 s) (j9 s) o_10') rfl trivial rfl rfl ?_
        refine wv (OV.pickT rfl rfl) ?_
        refine WL.set 86 rfl (bT (v := decide (Tr.whole (j9 s) = Tr.whole (j9 s))) hb) ?_
        exact WL.end_ (kg hK_19')
       ·refine WL.set 82 rfl (congrArg zB hb) ?_
        refine wk ?_
        refine wk ?_
        refine wk ?_
        refine wv (OV.pickF rfl rfl) ?_
        refine WL.set 86 rfl (bF (v := decide (Tr.whole (j9 s) = Tr.whole (j9 s))) hb) ?_
        exact WL.end_ (kg hK_19')
      refine wa ?_
      refine WL.nil ?_
      refine kg (hK_17' [(4, zB ((((decide (Tr.whole (j9 s) = Tr.whole (j9 t))) == (decide (b7 (j8 (reN s) (p9 s)) 0 = b7 (j8 (reN t) (p9 t)) 0))) && ((decide (Tr.whole (j9 t) = Tr.whole (j9 s))) == (decide (b7 (j8 (reN s) (p9 s)) 0 = b7 (j8 (reN t) (p9 t)) 0)))) && (decide (Tr.whole (j9 s) = Tr.whole (j9 s)))))] _ ?_)
      refine b9 ?_
      exact hE.ret [] rfl rfl (.inl ⟨_, h, rfl⟩) (f9.of1 rfl (RV.tmp rfl))
   ·obtain ⟨w_1', ho⟩ := hS
    cases ho
  ·obtain ⟨w, ho⟩ := hS
   cases ho
theorem a0k (t : List UInt8) : t4 [decide ((m9 t).1 = 0), decide ((m9 t).2 = 0), decide (([] : List UInt8) = [])] = decide ((m9 t).1 = 0) := by
 by_cases h : (m9 t).1 = 0
 ·obtain ⟨x, hx, _⟩ := ajd h
  rw [(ao4 hx).1]; rfl
 ·simp [t4, h]
theorem art (te : TypeId) (fre : Nat × Nat) (s t : List UInt8) : d4 Tryd.prog 7 [st s, st t] (y9 te fre) [] (Ret (.bool true) []) := by
 refine d4.one (e := fun v => .bool v) (auv te fre s t (fun v => v = true) ?_)
 unfold ajq
 simp only [↓a0k]
 have ta : adv [97] = .cls (ofS [97]) := rfl
 have tb : adv [98] = .cls (ofS [98]) := rfl
 refine ⟨by decide, by decide, by rw [ta]; decide, ?_⟩
 rw [if_neg (by rw [ta, tb]; simp [Tr.whole, a0b])]
 rw [if_neg (by simp)]
 by_cases he : (m9 s).1 = 0 ∧ (m9 t).1 = 0
 ·rw [if_neg (by simp [he.1, he.2])]
  obtain ⟨x, hx, hT⟩ := ajd he.1
  obtain ⟨y, hy, hU⟩ := ajd he.2
  obtain ⟨_, hs, hsol, _⟩ := ajm hx
  obtain ⟨_, hs', hsol', _⟩ := ajm hy
  obtain ⟨e1, e2, e3, e4⟩ := aza hx
  obtain ⟨g1, g2, g3, g4⟩ := aza hy
  have hh := ack x; have hh' := ack y
  rw [hT, hU, e4, g4, Tr.whole_of hsol, Tr.whole_of hsol']
  have hi : decide (b7 x 0 = b7 y 0) = decide (x = y) := by
   rw [decide_eq_decide]
   exact ⟨aw6 hsol hs hsol' hs', fun h => by rw [h]⟩
  have hj : decide (y = x) = decide (x = y) := by rw [decide_eq_decide]; exact ⟨Eq.symm, Eq.symm⟩
  refine ⟨e3, g3, by omega, fun _ => by omega, fun _ => by omega, ?_⟩
  rw [hi, hj]; simp
 ·rw [if_pos (by
   simp only [Bool.or_eq_true, Bool.not_eq_true', decide_eq_false_iff_not]
   by_cases h1 : (m9 s).1 = 0
   ·exact .inr fun h2 => he ⟨h1, h2⟩
   ·exact .inl h1)]; trivial
end Go.Proofs.YtohnchdnkbadaaaDoor
namespace Go.Proofs.YtohnchdnkbadaaaDoor
open Go Go.ChangeShapes Go.WideShapes Go.ChangeAt Go.RowKit
theorem aky (s t : ByteArray) (_h : s.data.toList.length ≤ reachBytes) (_h' : t.data.toList.length ≤ reachBytes) : ai3 7 #[.string s, .string t] (.bool true) :=
 d4.pureE (vs := [st s.data.toList, st t.data.toList]) fun te fre => art te fre _ _
set_option maxRecDepth 100000 in
theorem aij (os : Os) (started : os.Started) (H : Type) (enc : TypeId × Value → H) :
  ReturnsInHanded {} Tryd.checked os 7 .any (fun w args => (Rows.regexSamesSpec.pre enc Tryd.prog Tryd.f7 [] false w args ∧ laidMetH Tryd.prog aee w) ∧ sizedMet enc Tryd.prog Tryd.f7 (OpenSpec.ofChange Rows.regexSamesSpec) false w args)
   (Rows.regexSamesSpec.post enc Tryd.prog Tryd.f7 false true false false) := by
 refine returnsInHanded_of_change_and (C := Tryd.checked) (X := fun w _ => laidMetH Tryd.prog aee w) (fun _ _ _ hh h => h.of_heap hh) awq started (by kernel_rfl) Tryd.func7
  (ChangeSpec.witness_at (enc := enc) (C := Tryd.checked) (os := os) (X := fun w _ => laidMetH Tryd.prog aee w) false (ajf os) #[.string ByteArray.empty, .string ByteArray.empty] 8 rfl (by kernel_rfl) (by kernel_rfl) (by kernel_rfl) (by kernel_rfl) (by kernel_rfl) (anr os _)) ?_
 intro W base args ds gs before hval0 hW _ hwt0 hL _
 have hval : ∀ (j : Nat) t v, Tryd.f7.params[j]? = some t → args[j]? = some v → Value.okWide Tryd.prog W .any base t v := hval0
 have hW' := hW
 obtain ⟨p, q, hA0, hV, rfl, _, _⟩ := hW
 have hA : DataW.TrodAll enc Tryd.prog W 0 (fun _ => true) true Tryd.f7.params.toList args.toList ds p := hA0
 have hwt : (DataW.weightsEach Tryd.prog (Tryd.f7.params.toList ++ Rows.regexSamesSpec.plain.varTypes Tryd.prog) (ds ++ gs)).all (· ≤ reachBytes) = true := hwt0
 rw [Tryd.params7] at hA hval hwt
 obtain ⟨v0, v1, d0, d1, p0, p1, rfl, rfl, rfl, h0, h1⟩ := trodAll_two hA
 obtain ⟨rfl, rfl⟩ := trodVars_none hV
 obtain ⟨a0, rfl, e0, _, _⟩ := ChangeMaps.open_string Tryd.underlying9 (hval 0 _ v0 rfl rfl) h0
 have z0 : a0.data.toList.length ≤ reachBytes := sized_string hwt (j := 0) (t := 9) rfl (by rw [e0]; rfl)
 obtain ⟨a1, rfl, e1, _, _⟩ := ChangeMaps.open_string Tryd.underlying9 (hval 1 _ v1 rfl rfl) h1
 have z1 : a1.data.toList.length ≤ reachBytes := sized_string hwt (j := 1) (t := 9) rfl (by rw [e1]; rfl)
 refine (aky a0 a1 z0 z1 W (aqt hL)).mono fun e W' ⟨he, hb⟩ => ?_
 subst he
 exact ⟨_, rfl, awn axy rfl Tryd.underlying4 (by kernel_rfl) rfl hW' rfl hb⟩
theorem ak1 : Rows.RegexSamesSaid :=
 OpenClaim.holds_of_wide 7 Tryd.f7 rfl rfl rfl rfl rfl rfl rfl ⟨rfl, rfl, rfl, rfl, rfl⟩ rfl rfl rfl rfl rfl (by kernel_rfl) Tryd.func7 (by kernel_rfl)
  (of_decide_eq_true (by kernel_rfl)) (by unfold Func.isWrapper; rw [if_neg (of_decide_eq_false (by kernel_rfl))]; exact ⟨rfl, rfl⟩)
  (fun os started H enc _ => aij os started H enc)
theorem regexSames_card_holds : Rows.RegexSamesCardSaid :=
 Claim7.holds_tied_plain_at .later [] _ _ _ _ ak1 (fun _ h => by cases h) (by kernel_rfl) (fun _ h => by cases h) regexSames_row_tie rfl ⟨rfl, rfl⟩ (by kernel_rfl) rfl
  (fun f fn hf hfn => by
   obtain rfl : f = 7 := Option.some.inj ((show Tryd.prog.funcNamed "loupe/loupelaw02.RegexSames" = some 7 by kernel_rfl).symm.trans hf) |>.symm
   obtain rfl : fn = Tryd.f7 := (Option.some.inj (Tryd.func7.symm.trans hfn)).symm
   refine ⟨by kernel_rfl, fun j t ht => ?_⟩
   rw [Tryd.params7] at ht
   have h3 : t = 9 ∨ t = 9 := by simpa using Array.mem_of_getElem? ht
   rcases h3 with rfl | rfl
   ·exact (show Tryd.prog.wantsStandIn 9 = false by kernel_rfl)
   ·exact (show Tryd.prog.wantsStandIn 9 = false by kernel_rfl))
  (by kernel_rfl)
end Go.Proofs.YtohnchdnkbadaaaDoor
