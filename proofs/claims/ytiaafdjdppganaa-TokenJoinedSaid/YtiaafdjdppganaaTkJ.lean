/-
  TokenJoined.
-/
import Derived.Test.YtiaafdjdppganaaTkJm
namespace Go.Proofs.Ytiaafdjdppganaa
open Go Go.RowKit

theorem tf_zero_34 : zeroB Try.prog 34 = some [Value.int .i64 0, Value.int .i64 0, st []] := by kernel_rfl

def ljoined_vc (s : List UInt8) (t : List UInt8) (K : Bool → Prop) : Prop :=
  (
    (
      (((!andAll [decide ((scanR s).2.1 = 0), decide ((scanR s).2.2 = 0), decide (([] : List UInt8) = [])]) || (!andAll [decide ((scanR t).2.1 = 0), decide ((scanR t).2.2 = 0), decide (([] : List UInt8) = [])])) = false → (I64 ((s.length : Int) + (t.length : Int)))) ∧
      (if (((!andAll [decide ((scanR s).2.1 = 0), decide ((scanR s).2.2 = 0), decide (([] : List UInt8) = [])]) || (!andAll [decide ((scanR t).2.1 = 0), decide ((scanR t).2.2 = 0), decide (([] : List UInt8) = [])])) || (decide (4096 ≤ (s.length : Int) + (t.length : Int)))) = true then
        K true
      else
        (s.length + ([10] : List UInt8).length ≤ 9223372036854775807) ∧
        ((s ++ ([10] : List UInt8)).length + t.length ≤ 9223372036854775807) ∧
        (
          ((!andAll [decide ((scanR ((s ++ ([10] : List UInt8)) ++ t)).2.1 = 0), decide ((scanR ((s ++ ([10] : List UInt8)) ++ t)).2.2 = 0), decide (([] : List UInt8) = [])]) = false → (I64 ((((scanR s).1).length : Int) + (((scanR t).1).length : Int))) ∧ (I64 (((((scanR s).1).length : Int) + (((scanR t).1).length : Int)) - 1))) ∧
          (if ((!andAll [decide ((scanR ((s ++ ([10] : List UInt8)) ++ t)).2.1 = 0), decide ((scanR ((s ++ ([10] : List UInt8)) ++ t)).2.2 = 0), decide (([] : List UInt8) = [])]) || (!decide ((((scanR ((s ++ ([10] : List UInt8)) ++ t)).1).length : Int) = ((((scanR s).1).length : Int) + (((scanR t).1).length : Int)) - 1))) = true then
            K false
          else
            ∃ (Inv : Int → Prop) (mu : Int → Nat),
              Inv 0 ∧ ∀ (i_1' : Int), Inv i_1' →
                (if (decide (i_1' < (((scanR ((s ++ ([10] : List UInt8)) ++ t)).1).length : Int))) = true then
                  ∃ (J0_2' : Int → Int → (List UInt8) → Prop),
                    (∀ (want_0_2' : Int) (want_1_2' : Int) (want_2_2' : List UInt8), J0_2' want_0_2' want_1_2' want_2_2' →
                      (0 ≤ i_1' ∧ i_1' < (((scanR ((s ++ ([10] : List UInt8)) ++ t)).1).length : Int)) ∧
                      (if (!andAll [decide ((((scanR ((s ++ ([10] : List UInt8)) ++ t)).1).getD (i_1').toNat default).1 = want_0_2'), decide ((((scanR ((s ++ ([10] : List UInt8)) ++ t)).1).getD (i_1').toNat default).2.1 = want_1_2'), decide ((((scanR ((s ++ ([10] : List UInt8)) ++ t)).1).getD (i_1').toNat default).2.2 = want_2_2')]) = true then
                        K false
                      else
                        (I64 (i_1' + 1)) ∧
                        Inv (i_1' + 1) ∧ mu (i_1' + 1) < mu i_1')) ∧
                    (I64 ((((scanR s).1).length : Int) - 1)) ∧
                    (if (decide (i_1' < (((scanR s).1).length : Int) - 1)) = true then
                      (0 ≤ i_1' ∧ i_1' < (((scanR s).1).length : Int)) ∧
                      J0_2' ((((scanR s).1).getD (i_1').toNat default).1) ((((scanR s).1).getD (i_1').toNat default).2.1) ((((scanR s).1).getD (i_1').toNat default).2.2)
                    else
                      (I64 (i_1' - (((scanR s).1).length : Int))) ∧
                      (I64 ((i_1' - (((scanR s).1).length : Int)) + 1)) ∧
                      (0 ≤ ((i_1' - (((scanR s).1).length : Int)) + 1) ∧ ((i_1' - (((scanR s).1).length : Int)) + 1) < (((scanR t).1).length : Int)) ∧
                      (I64 ((s.length : Int) + 1)) ∧
                      (I64 (((((scanR t).1).getD (((i_1' - (((scanR s).1).length : Int)) + 1)).toNat default).2.1) + ((s.length : Int) + 1))) ∧
                      J0_2' ((((scanR t).1).getD (((i_1' - (((scanR s).1).length : Int)) + 1)).toNat default).1) (((((scanR t).1).getD (((i_1' - (((scanR s).1).length : Int)) + 1)).toNat default).2.1) + ((s.length : Int) + 1)) ((((scanR t).1).getD (((i_1' - (((scanR s).1).length : Int)) + 1)).toNat default).2.2))
                else
                  K true))))))
set_option maxRecDepth 100000 in
theorem ljoined_wp  (s : List UInt8) (t : List UInt8) (K : Bool → Prop) (h : ljoined_vc s t K) :
    Does Try.prog 4 [st s, st t] [] [] (fun o => (∃ (v : Bool), K v ∧ o = .ret (Value.bool v) []) ∨ (False)) := by
  unfold ljoined_vc at h
  refine does_of_wc (n := 100) (L0 := [(0, st s), (1, st t)]) Try.func4 rfl rfl rfl rfl (fun w0 M Q hE => ?_)
  refine wc_seq (fun K0 hK => ?_)
  refine wc_region ?_
  refine WL.val (OV.assign rfl) rfl rfl rfl ?_
  refine WL.nil ?_
  refine KX.go (hK [(0, st s), (1, st t)] _ ?_) ⟨rfl, rfl, trivial⟩
  refine wc_seq (fun K0_1' hK_1' => ?_)
  refine wc_seq (fun K0_2' hK_2' => ?_)
  refine wc_region ?_
  refine WL.call (A := []) tf_ent_9 rfl (speaks_does) rfl trivial rfl rfl ?_
  refine WL.val (OV.not rfl) rfl rfl rfl ?_
  refine WL.nil ?_
  refine KX.go (hK_2' [(0, st s), (1, st t), (14, Value.bool false)] _ ?_) ⟨rfl, rfl, rfl, trivial⟩
  refine wc_condF rfl ?_
  refine wc_skip ?_
  refine KX.go (hK_1' [(0, st s), (1, st t)] _ ?_) ⟨rfl, rfl, trivial⟩
  refine wc_seq (fun K0_3' hK_3' => ?_)
  refine wc_region ?_
  refine WL.val (OV.move rfl) rfl rfl rfl ?_
  refine WL.callS tf_ent_11 rfl (scan_does s) rfl trivial rfl rfl (fun r H' hS => ?_) (fun c H' hS => ?_)
  · obtain ⟨w, ho⟩ := hS
    cases ho
    refine WL.val (OV.move rfl) rfl rfl rfl ?_
    refine WL.val (OV.extract 0 rfl rfl) rfl rfl rfl ?_
    refine WL.val (OV.extract 1 rfl rfl) rfl rfl rfl ?_
    refine WL.make (MV.alloc tf_zero_29) rfl rfl rfl (fun b => ?_)
    refine WL.val (OV.assign rfl) rfl rfl rfl ?_
    refine WL.storeW (vs := [Value.int .i64 ((scanR s).2.1), Value.int .i64 ((scanR s).2.2), st []]) 0 rfl rfl rfl rfl rfl tf_size_29 rfl rfl rfl ?_
    refine WL.nil ?_
    refine KX.go (hK_3' [(0, st s), (1, st t), (5, w), (6, Value.pointer (some ⟨b, 0, none⟩))] _ ?_) ⟨rfl, rfl, rfl, rfl, trivial⟩
    refine wc_seq (fun K0_4' hK_4' => ?_)
    refine wc_region ?_
    refine WL.val (OV.move rfl) rfl rfl rfl ?_
    refine WL.callS tf_ent_11 rfl (scan_does t) rfl trivial rfl rfl (fun r H' hS => ?_) (fun c H' hS => ?_)
    · obtain ⟨w_1', ho⟩ := hS
      cases ho
      refine WL.val (OV.move rfl) rfl rfl rfl ?_
      refine WL.val (OV.extract 0 rfl rfl) rfl rfl rfl ?_
      refine WL.val (OV.extract 1 rfl rfl) rfl rfl rfl ?_
      refine WL.make (MV.alloc tf_zero_29) rfl rfl rfl (fun b_1' => ?_)
      refine WL.val (OV.assign rfl) rfl rfl rfl ?_
      refine WL.storeW (vs := [Value.int .i64 ((scanR t).2.1), Value.int .i64 ((scanR t).2.2), st []]) 0 rfl rfl rfl rfl rfl tf_size_29 rfl rfl rfl ?_
      refine WL.nil ?_
      refine KX.go (hK_4' [(0, st s), (1, st t), (5, w), (6, Value.pointer (some ⟨b, 0, none⟩)), (7, w_1'), (8, Value.pointer (some ⟨b_1', 0, none⟩))] _ ?_) ⟨rfl, rfl, rfl, rfl, rfl, rfl, trivial⟩
      refine wc_seq (fun K0_5' hK_5' => ?_)
      refine wc_seq (fun K0_6' hK_6' => ?_)
      refine wc_region ?_
      refine WL.val (OV.loadR rfl (At.own 2 rfl) tf_row_29) rfl rfl rfl ?_
      refine WL.val (OV.build rfl (cs := [Value.int .i64 0, Value.int .i64 0, st []]) rfl) rfl rfl rfl ?_
      refine WL.val (OV.neqF (rs := [decide ((scanR s).2.1 = 0), decide ((scanR s).2.2 = 0), decide (([] : List UInt8) = [])]) rfl rfl Try.underlying29 tf_stood_29 tf_eqg_29 ⟨rfl, tf_scal_27, ⟨_, _, rfl, rfl, ScalEq.int Try.underlying27⟩, ⟨rfl, tf_scal_3, ⟨_, _, rfl, rfl, ScalEq.int Try.underlying3⟩, ⟨rfl, tf_scal_9, ⟨_, _, rfl, rfl, ScalEq.str Try.underlying9⟩, trivial⟩⟩⟩) rfl rfl rfl ?_
      refine WL.val (OV.move rfl) rfl rfl rfl ?_
      refine WL.cut 4 [(0, st s), (1, st t), (5, w), (7, w_1'), (32, Value.bool ((!andAll [decide ((scanR s).2.1 = 0), decide ((scanR s).2.2 = 0), decide (([] : List UInt8) = [])]) || (!andAll [decide ((scanR t).2.1 = 0), decide ((scanR t).2.2 = 0), decide (([] : List UInt8) = [])])))] ?_ (fun K0_7' hK_7' => ?_)
      rotate_left
      · refine WL.split (!andAll [decide ((scanR s).2.1 = 0), decide ((scanR s).2.2 = 0), decide (([] : List UInt8) = [])]) (fun hb => ?_) (fun hb => ?_)
        · refine WL.set 28 rfl (congrArg Value.bool hb) ?_
          refine WL.skip rfl rfl rfl ?_
          refine WL.skip rfl rfl rfl ?_
          refine WL.skip rfl rfl rfl ?_
          refine WL.val (OV.pickT rfl rfl) rfl rfl rfl ?_
          refine WL.set 32 rfl (oT (v := !andAll [decide ((scanR t).2.1 = 0), decide ((scanR t).2.2 = 0), decide (([] : List UInt8) = [])]) hb) ?_
          exact WL.end_ (KX.go hK_7' ⟨rfl, rfl, rfl, rfl, rfl, trivial⟩)
        · refine WL.set 28 rfl (congrArg Value.bool hb) ?_
          refine WL.val (OV.loadR rfl (At.own 0 rfl) tf_row_29) rfl rfl rfl ?_
          refine WL.val (OV.build rfl (cs := [Value.int .i64 0, Value.int .i64 0, st []]) rfl) rfl rfl rfl ?_
          refine WL.val (OV.neqF (rs := [decide ((scanR t).2.1 = 0), decide ((scanR t).2.2 = 0), decide (([] : List UInt8) = [])]) rfl rfl Try.underlying29 tf_stood_29 tf_eqg_29 ⟨rfl, tf_scal_27, ⟨_, _, rfl, rfl, ScalEq.int Try.underlying27⟩, ⟨rfl, tf_scal_3, ⟨_, _, rfl, rfl, ScalEq.int Try.underlying3⟩, ⟨rfl, tf_scal_9, ⟨_, _, rfl, rfl, ScalEq.str Try.underlying9⟩, trivial⟩⟩⟩) rfl rfl rfl ?_
          refine WL.val (OV.pickF rfl rfl) rfl rfl rfl ?_
          refine WL.set 32 rfl (oF (v := !andAll [decide ((scanR t).2.1 = 0), decide ((scanR t).2.2 = 0), decide (([] : List UInt8) = [])]) hb) ?_
          exact WL.end_ (KX.go hK_7' ⟨rfl, rfl, rfl, rfl, rfl, trivial⟩)
      refine WL.val (OV.move rfl) rfl rfl rfl ?_
      obtain ⟨o_2', h⟩ := h
      refine WL.cut 7 [(0, st s), (1, st t), (5, w), (7, w_1'), (40, Value.bool (((!andAll [decide ((scanR s).2.1 = 0), decide ((scanR s).2.2 = 0), decide (([] : List UInt8) = [])]) || (!andAll [decide ((scanR t).2.1 = 0), decide ((scanR t).2.2 = 0), decide (([] : List UInt8) = [])])) || (decide (4096 ≤ (s.length : Int) + (t.length : Int)))))] ?_ (fun K0_8' hK_8' => ?_)
      rotate_left
      · refine WL.split ((!andAll [decide ((scanR s).2.1 = 0), decide ((scanR s).2.2 = 0), decide (([] : List UInt8) = [])]) || (!andAll [decide ((scanR t).2.1 = 0), decide ((scanR t).2.2 = 0), decide (([] : List UInt8) = [])])) (fun hb => ?_) (fun hb => ?_)
        · refine WL.set 33 rfl (congrArg Value.bool hb) ?_
          refine WL.skip rfl rfl rfl ?_
          refine WL.skip rfl rfl rfl ?_
          refine WL.skip rfl rfl rfl ?_
          refine WL.skip rfl rfl rfl ?_
          refine WL.skip rfl rfl rfl ?_
          refine WL.skip rfl rfl rfl ?_
          refine WL.val (OV.pickT rfl rfl) rfl rfl rfl ?_
          refine WL.set 40 rfl (oT (v := decide (4096 ≤ (s.length : Int) + (t.length : Int))) hb) ?_
          exact WL.end_ (KX.go hK_8' ⟨rfl, rfl, rfl, rfl, rfl, trivial⟩)
        · have o_1' := o_2' hb
          refine WL.set 33 rfl (congrArg Value.bool hb) ?_
          refine WL.val (OV.move rfl) rfl rfl rfl ?_
          refine WL.val (OV.len rfl tf_str_9) rfl rfl rfl ?_
          refine WL.val (OV.move rfl) rfl rfl rfl ?_
          refine WL.val (OV.len rfl tf_str_9) rfl rfl rfl ?_
          refine WL.val (OV.add rfl rfl o_1') rfl rfl rfl ?_
          refine WL.val (OV.geq rfl rfl) rfl rfl rfl ?_
          refine WL.val (OV.pickF rfl rfl) rfl rfl rfl ?_
          refine WL.set 40 rfl (oF (v := decide (4096 ≤ (s.length : Int) + (t.length : Int))) hb) ?_
          exact WL.end_ (KX.go hK_8' ⟨rfl, rfl, rfl, rfl, rfl, trivial⟩)
      refine WL.nil ?_
      refine KX.go (hK_6' [(0, st s), (1, st t), (5, w), (7, w_1'), (40, Value.bool (((!andAll [decide ((scanR s).2.1 = 0), decide ((scanR s).2.2 = 0), decide (([] : List UInt8) = [])]) || (!andAll [decide ((scanR t).2.1 = 0), decide ((scanR t).2.2 = 0), decide (([] : List UInt8) = [])])) || (decide (4096 ≤ (s.length : Int) + (t.length : Int)))))] _ ?_) ⟨rfl, rfl, rfl, rfl, rfl, trivial⟩
      refine wc_cond (b := ((!andAll [decide ((scanR s).2.1 = 0), decide ((scanR s).2.2 = 0), decide (([] : List UInt8) = [])]) || (!andAll [decide ((scanR t).2.1 = 0), decide ((scanR t).2.2 = 0), decide (([] : List UInt8) = [])])) || (decide (4096 ≤ (s.length : Int) + (t.length : Int)))) rfl (fun hb => ?_) (fun hb => ?_)
      · replace h := if_T h hb
        refine wc_seq (fun K0_9' hK_9' => ?_)
        refine wc_region ?_
        refine WL.val (OV.assign rfl) rfl rfl rfl ?_
        refine WL.nil ?_
        refine KX.go (hK_9' [(4, Value.bool true)] _ ?_) ⟨rfl, trivial⟩
        refine wc_ret ?_
        exact hE.ret [] rfl rfl (.inl ⟨_, h, rfl⟩) (ResV.of1 rfl (RV.tmp rfl))
      · replace h := if_F h hb
        refine wc_skip ?_
        refine KX.go (hK_5' [(0, st s), (1, st t), (5, w), (7, w_1')] _ ?_) ⟨rfl, rfl, rfl, rfl, trivial⟩
        refine wc_seq (fun K0_10' hK_10' => ?_)
        refine wc_region ?_
        refine WL.val (OV.move rfl) rfl rfl rfl ?_
        obtain ⟨o_3', h⟩ := h
        refine WL.val (OV.cat rfl rfl o_3') rfl rfl rfl ?_
        refine WL.val (OV.move rfl) rfl rfl rfl ?_
        obtain ⟨o_4', h⟩ := h
        refine WL.val (OV.cat rfl rfl o_4') rfl rfl rfl ?_
        refine WL.callS tf_ent_11 rfl (scan_does ((s ++ ([10] : List UInt8)) ++ t)) rfl trivial rfl rfl (fun r H' hS => ?_) (fun c H' hS => ?_)
        · obtain ⟨w_2', ho⟩ := hS
          cases ho
          refine WL.val (OV.move rfl) rfl rfl rfl ?_
          refine WL.val (OV.extract 0 rfl rfl) rfl rfl rfl ?_
          refine WL.val (OV.extract 1 rfl rfl) rfl rfl rfl ?_
          refine WL.make (MV.alloc tf_zero_29) rfl rfl rfl (fun b_2' => ?_)
          refine WL.val (OV.assign rfl) rfl rfl rfl ?_
          refine WL.storeW (vs := [Value.int .i64 ((scanR ((s ++ ([10] : List UInt8)) ++ t)).2.1), Value.int .i64 ((scanR ((s ++ ([10] : List UInt8)) ++ t)).2.2), st []]) 0 rfl rfl rfl rfl rfl tf_size_29 rfl rfl rfl ?_
          refine WL.nil ?_
          refine KX.go (hK_10' [(0, st s), (5, w), (7, w_1'), (9, w_2'), (10, Value.pointer (some ⟨b_2', 0, none⟩))] _ ?_) ⟨rfl, rfl, rfl, rfl, rfl, trivial⟩
          refine wc_seq (fun K0_11' hK_11' => ?_)
          refine wc_seq (fun K0_12' hK_12' => ?_)
          refine wc_region ?_
          refine WL.val (OV.loadR rfl (At.own 0 rfl) tf_row_29) rfl rfl rfl ?_
          refine WL.val (OV.build rfl (cs := [Value.int .i64 0, Value.int .i64 0, st []]) rfl) rfl rfl rfl ?_
          refine WL.val (OV.neqF (rs := [decide ((scanR ((s ++ ([10] : List UInt8)) ++ t)).2.1 = 0), decide ((scanR ((s ++ ([10] : List UInt8)) ++ t)).2.2 = 0), decide (([] : List UInt8) = [])]) rfl rfl Try.underlying29 tf_stood_29 tf_eqg_29 ⟨rfl, tf_scal_27, ⟨_, _, rfl, rfl, ScalEq.int Try.underlying27⟩, ⟨rfl, tf_scal_3, ⟨_, _, rfl, rfl, ScalEq.int Try.underlying3⟩, ⟨rfl, tf_scal_9, ⟨_, _, rfl, rfl, ScalEq.str Try.underlying9⟩, trivial⟩⟩⟩) rfl rfl rfl ?_
          refine WL.val (OV.move rfl) rfl rfl rfl ?_
          obtain ⟨o_7', h⟩ := h
          refine WL.cut 10 [(0, st s), (5, w), (7, w_1'), (9, w_2'), (62, Value.bool ((!andAll [decide ((scanR ((s ++ ([10] : List UInt8)) ++ t)).2.1 = 0), decide ((scanR ((s ++ ([10] : List UInt8)) ++ t)).2.2 = 0), decide (([] : List UInt8) = [])]) || (!decide ((((scanR ((s ++ ([10] : List UInt8)) ++ t)).1).length : Int) = ((((scanR s).1).length : Int) + (((scanR t).1).length : Int)) - 1))))] ?_ (fun K0_13' hK_13' => ?_)
          rotate_left
          · refine WL.split (!andAll [decide ((scanR ((s ++ ([10] : List UInt8)) ++ t)).2.1 = 0), decide ((scanR ((s ++ ([10] : List UInt8)) ++ t)).2.2 = 0), decide (([] : List UInt8) = [])]) (fun hb => ?_) (fun hb => ?_)
            · refine WL.set 52 rfl (congrArg Value.bool hb) ?_
              refine WL.skip rfl rfl rfl ?_
              refine WL.skip rfl rfl rfl ?_
              refine WL.skip rfl rfl rfl ?_
              refine WL.skip rfl rfl rfl ?_
              refine WL.skip rfl rfl rfl ?_
              refine WL.skip rfl rfl rfl ?_
              refine WL.skip rfl rfl rfl ?_
              refine WL.skip rfl rfl rfl ?_
              refine WL.skip rfl rfl rfl ?_
              refine WL.val (OV.pickT rfl rfl) rfl rfl rfl ?_
              refine WL.set 62 rfl (oT (v := !decide ((((scanR ((s ++ ([10] : List UInt8)) ++ t)).1).length : Int) = ((((scanR s).1).length : Int) + (((scanR t).1).length : Int)) - 1)) hb) ?_
              exact WL.end_ (KX.go hK_13' ⟨rfl, rfl, rfl, rfl, rfl, trivial⟩)
            · obtain ⟨o_5', o_6'⟩ := o_7' hb
              refine WL.set 52 rfl (congrArg Value.bool hb) ?_
              refine WL.val (OV.move rfl) rfl rfl rfl ?_
              refine WL.val (OV.lenRow 1 rfl rfl tf_sl_26) rfl rfl rfl ?_
              refine WL.val (OV.move rfl) rfl rfl rfl ?_
              refine WL.val (OV.lenRow 5 rfl rfl tf_sl_26) rfl rfl rfl ?_
              refine WL.val (OV.move rfl) rfl rfl rfl ?_
              refine WL.val (OV.lenRow 3 rfl rfl tf_sl_26) rfl rfl rfl ?_
              refine WL.val (OV.add rfl rfl o_5') rfl rfl rfl ?_
              refine WL.val (OV.sub rfl rfl o_6') rfl rfl rfl ?_
              refine WL.val (OV.neq rfl rfl) rfl rfl rfl ?_
              refine WL.val (OV.pickF rfl rfl) rfl rfl rfl ?_
              refine WL.set 62 rfl (oF (v := !decide ((((scanR ((s ++ ([10] : List UInt8)) ++ t)).1).length : Int) = ((((scanR s).1).length : Int) + (((scanR t).1).length : Int)) - 1)) hb) ?_
              exact WL.end_ (KX.go hK_13' ⟨rfl, rfl, rfl, rfl, rfl, trivial⟩)
          refine WL.nil ?_
          refine KX.go (hK_12' [(0, st s), (5, w), (7, w_1'), (9, w_2'), (62, Value.bool ((!andAll [decide ((scanR ((s ++ ([10] : List UInt8)) ++ t)).2.1 = 0), decide ((scanR ((s ++ ([10] : List UInt8)) ++ t)).2.2 = 0), decide (([] : List UInt8) = [])]) || (!decide ((((scanR ((s ++ ([10] : List UInt8)) ++ t)).1).length : Int) = ((((scanR s).1).length : Int) + (((scanR t).1).length : Int)) - 1))))] _ ?_) ⟨rfl, rfl, rfl, rfl, rfl, trivial⟩
          refine wc_cond (b := (!andAll [decide ((scanR ((s ++ ([10] : List UInt8)) ++ t)).2.1 = 0), decide ((scanR ((s ++ ([10] : List UInt8)) ++ t)).2.2 = 0), decide (([] : List UInt8) = [])]) || (!decide ((((scanR ((s ++ ([10] : List UInt8)) ++ t)).1).length : Int) = ((((scanR s).1).length : Int) + (((scanR t).1).length : Int)) - 1))) rfl (fun hb => ?_) (fun hb => ?_)
          · replace h := if_T h hb
            refine wc_seq (fun K0_14' hK_14' => ?_)
            refine wc_region ?_
            refine WL.val (OV.assign rfl) rfl rfl rfl ?_
            refine WL.nil ?_
            refine KX.go (hK_14' [(4, Value.bool false)] _ ?_) ⟨rfl, trivial⟩
            refine wc_ret ?_
            exact hE.ret [] rfl rfl (.inl ⟨_, h, rfl⟩) (ResV.of1 rfl (RV.tmp rfl))
          · replace h := if_F h hb
            refine wc_skip ?_
            refine KX.go (hK_11' [(0, st s), (5, w), (7, w_1'), (9, w_2')] _ ?_) ⟨rfl, rfl, rfl, rfl, trivial⟩
            refine wc_seq (fun K0_15' hK_15' => ?_)
            refine wc_seq (fun K0_16' hK_16' => ?_)
            refine wc_region ?_
            refine WL.val (OV.assign rfl) rfl rfl rfl ?_
            refine WL.nil ?_
            refine KX.go (hK_16' [(0, st s), (5, w), (7, w_1'), (9, w_2'), (11, Value.int .i64 0)] _ ?_) ⟨rfl, rfl, rfl, rfl, rfl, trivial⟩
            refine wc_block ?_
            refine WC.pick (H' := [HA.row w_2' 34 3 ((scanR ((s ++ ([10] : List UInt8)) ++ t)).1).length (((scanR ((s ++ ([10] : List UInt8)) ++ t)).1).flatMap tokC), HA.row w_1' 34 3 ((scanR t).1).length (((scanR t).1).flatMap tokC), HA.row w 34 3 ((scanR s).1).length (((scanR s).1).flatMap tokC)]) [1, 3, 5] rfl rfl ?_
            obtain ⟨Inv, mu, h0, hr⟩ := h
            refine wc_loop (S := Int) (fun σ => Inv σ) (fun σ => mu σ) (fun σ => [(0, st s), (5, w), (7, w_1'), (9, w_2'), (11, Value.int .i64 σ)]) (fun σ => [HA.row w_2' 34 3 ((scanR ((s ++ ([10] : List UInt8)) ++ t)).1).length (((scanR ((s ++ ([10] : List UInt8)) ++ t)).1).flatMap tokC), HA.row w_1' 34 3 ((scanR t).1).length (((scanR t).1).flatMap tokC), HA.row w 34 3 ((scanR s).1).length (((scanR s).1).flatMap tokC)]) 0 h0 ⟨rfl, rfl, rfl, rfl, rfl, trivial⟩ rfl ?_
            rintro i_1' hi K0_39' hK_39'
            have h := hr i_1' hi
            show WC _ _ _ _ [(0, st s), (5, w), (7, w_1'), (9, w_2'), (11, Value.int .i64 i_1')] [HA.row w_2' 34 3 ((scanR ((s ++ ([10] : List UInt8)) ++ t)).1).length (((scanR ((s ++ ([10] : List UInt8)) ++ t)).1).flatMap tokC), HA.row w_1' 34 3 ((scanR t).1).length (((scanR t).1).flatMap tokC), HA.row w 34 3 ((scanR s).1).length (((scanR s).1).flatMap tokC)]
            refine wc_seq (fun K0_40' hK_40' => ?_)
            refine wc_seq (fun K0_41' hK_41' => ?_)
            refine wc_region ?_
            refine WL.val (OV.move rfl) rfl rfl rfl ?_
            refine WL.val (OV.move rfl) rfl rfl rfl ?_
            refine WL.val (OV.lenRow 0 rfl rfl tf_sl_26) rfl rfl rfl ?_
            refine WL.val (OV.lss rfl rfl) rfl rfl rfl ?_
            refine WL.nil ?_
            refine KX.go (hK_41' [(0, st s), (5, w), (7, w_1'), (9, w_2'), (11, Value.int .i64 i_1'), (66, Value.bool (decide (i_1' < (((scanR ((s ++ ([10] : List UInt8)) ++ t)).1).length : Int))))] _ ?_) ⟨rfl, rfl, rfl, rfl, rfl, rfl, trivial⟩
            refine wc_cond (b := decide (i_1' < (((scanR ((s ++ ([10] : List UInt8)) ++ t)).1).length : Int))) rfl (fun hb => ?_) (fun hb => ?_)
            · replace h := if_T h hb
              refine wc_skip ?_
              refine KX.go (hK_40' [(0, st s), (5, w), (7, w_1'), (9, w_2'), (11, Value.int .i64 i_1')] _ ?_) ⟨rfl, rfl, rfl, rfl, rfl, trivial⟩
              refine wc_seq (fun K0_42' hK_42' => ?_)
              refine wc_block ?_
              refine wc_seq (fun K0_43' hK_43' => ?_)
              refine wc_region ?_
              refine WL.val (OV.build rfl (cs := [Value.int .i64 0, Value.int .i64 0, st []]) rfl) rfl rfl rfl ?_
              refine WL.make (MV.alloc tf_zero_34) rfl rfl rfl (fun b_5' => ?_)
              refine WL.storeW (vs := [Value.int .i64 0, Value.int .i64 0, st []]) 0 rfl rfl rfl rfl rfl tf_size_34 rfl rfl rfl ?_
              refine WL.nil ?_
              refine KX.go (hK_43' [(0, st s), (5, w), (7, w_1'), (9, w_2'), (11, Value.int .i64 i_1'), (12, Value.pointer (some ⟨b_5', 0, none⟩))] _ ?_) ⟨rfl, rfl, rfl, rfl, rfl, rfl, trivial⟩
              obtain ⟨J0_2', hJ_2', h⟩ := h
              refine wc_seqJ (X := Int × Int × (List UInt8)) (fun σ => J0_2' σ.1 σ.2.1 σ.2.2) (fun σ => [(0, st s), (5, w), (7, w_1'), (9, w_2'), (11, Value.int .i64 i_1'), (12, Value.pointer (some ⟨b_5', 0, none⟩))]) (fun σ => [HA.blk b_5' (.cells [Value.int .i64 σ.1, Value.int .i64 σ.2.1, st σ.2.2].toArray 34 (0, 0)), HA.row w_2' 34 3 ((scanR ((s ++ ([10] : List UInt8)) ++ t)).1).length (((scanR ((s ++ ([10] : List UInt8)) ++ t)).1).flatMap tokC), HA.row w_1' 34 3 ((scanR t).1).length (((scanR t).1).flatMap tokC), HA.row w 34 3 ((scanR s).1).length (((scanR s).1).flatMap tokC)]) ?_ (fun K0_46' hK_46' => ?_)
              · rintro ⟨want_0_2', want_1_2', want_2_2'⟩ hj
                replace h := hJ_2' want_0_2' want_1_2' want_2_2' hj
                show WC _ _ _ _ [(0, st s), (5, w), (7, w_1'), (9, w_2'), (11, Value.int .i64 i_1'), (12, Value.pointer (some ⟨b_5', 0, none⟩))] [HA.blk b_5' (.cells [Value.int .i64 want_0_2', Value.int .i64 want_1_2', st want_2_2'].toArray 34 (0, 0)), HA.row w_2' 34 3 ((scanR ((s ++ ([10] : List UInt8)) ++ t)).1).length (((scanR ((s ++ ([10] : List UInt8)) ++ t)).1).flatMap tokC), HA.row w_1' 34 3 ((scanR t).1).length (((scanR t).1).flatMap tokC), HA.row w 34 3 ((scanR s).1).length (((scanR s).1).flatMap tokC)]
                refine wc_seq (fun K0_47' hK_47' => ?_)
                refine wc_draw 5 [] tf_mixed (by kernel_rfl) rfl (fun T_2' hT_2' => ?_)
                refine FL.val (fun _ => OV.move rfl) rfl (fun _ => rfl) rfl rfl ?_
                refine FL.val (fun _ => OV.move rfl) rfl (fun _ => rfl) rfl rfl ?_
                obtain ⟨o_46', h⟩ := h
                refine FL.val (fun _ => OV.indexRow 1 rfl rfl rfl tf_sl_26 o_46') rfl (fun _ => rfl) rfl rfl ?_
                refine FL.val (fun _ => OV.loadE (f := tokC) 1 rfl rfl tokC_len (by decide) (by omega) tf_row_34) rfl (fun _ => rfl) rfl rfl ?_
                refine FL.val (fun _ => OV.loadR rfl (At.own 0 rfl) tf_row_34) rfl (fun _ => rfl) rfl rfl ?_
                refine FL.weak (L' := fun γ => [(0, st s), (5, w), (7, w_1'), (9, w_2'), (11, Value.int .i64 i_1'), (97, Value.agg [Value.int .i64 ((((scanR ((s ++ ([10] : List UInt8)) ++ t)).1).getD (i_1').toNat default).1), Value.int .i64 ((((scanR ((s ++ ([10] : List UInt8)) ++ t)).1).getD (i_1').toNat default).2.1), st ((((scanR ((s ++ ([10] : List UInt8)) ++ t)).1).getD (i_1').toNat default).2.2)].toArray), (98, Value.agg [Value.int .i64 want_0_2', Value.int .i64 want_1_2', st want_2_2'].toArray)]) (fun γ => ⟨rfl, rfl, rfl, rfl, rfl, rfl, rfl, trivial⟩) (FL.nil (hT_2' (fun γ => [(0, st s), (5, w), (7, w_1'), (9, w_2'), (11, Value.int .i64 i_1'), (97, Value.agg [Value.int .i64 ((((scanR ((s ++ ([10] : List UInt8)) ++ t)).1).getD (i_1').toNat default).1), Value.int .i64 ((((scanR ((s ++ ([10] : List UInt8)) ++ t)).1).getD (i_1').toNat default).2.1), st ((((scanR ((s ++ ([10] : List UInt8)) ++ t)).1).getD (i_1').toNat default).2.2)].toArray), (98, Value.agg [Value.int .i64 want_0_2', Value.int .i64 want_1_2', st want_2_2'].toArray)]) (fun γ => ?_)))
                refine WL.val (OV.neqF (rs := [decide ((((scanR ((s ++ ([10] : List UInt8)) ++ t)).1).getD (i_1').toNat default).1 = want_0_2'), decide ((((scanR ((s ++ ([10] : List UInt8)) ++ t)).1).getD (i_1').toNat default).2.1 = want_1_2'), decide ((((scanR ((s ++ ([10] : List UInt8)) ++ t)).1).getD (i_1').toNat default).2.2 = want_2_2')]) rfl rfl Try.underlying34 tf_stood_34 tf_eqg_34 ⟨rfl, tf_scal_3, ⟨_, _, rfl, rfl, ScalEq.int Try.underlying3⟩, ⟨rfl, tf_scal_3, ⟨_, _, rfl, rfl, ScalEq.int Try.underlying3⟩, ⟨rfl, tf_scal_9, ⟨_, _, rfl, rfl, ScalEq.str Try.underlying9⟩, trivial⟩⟩⟩) rfl rfl rfl ?_
                refine WL.nil ?_
                refine KX.go (hK_47' [(0, st s), (5, w), (7, w_1'), (9, w_2'), (11, Value.int .i64 i_1'), (99, Value.bool (!andAll [decide ((((scanR ((s ++ ([10] : List UInt8)) ++ t)).1).getD (i_1').toNat default).1 = want_0_2'), decide ((((scanR ((s ++ ([10] : List UInt8)) ++ t)).1).getD (i_1').toNat default).2.1 = want_1_2'), decide ((((scanR ((s ++ ([10] : List UInt8)) ++ t)).1).getD (i_1').toNat default).2.2 = want_2_2')]))] _ ?_) ⟨rfl, rfl, rfl, rfl, rfl, rfl, trivial⟩
                refine wc_cond (b := !andAll [decide ((((scanR ((s ++ ([10] : List UInt8)) ++ t)).1).getD (i_1').toNat default).1 = want_0_2'), decide ((((scanR ((s ++ ([10] : List UInt8)) ++ t)).1).getD (i_1').toNat default).2.1 = want_1_2'), decide ((((scanR ((s ++ ([10] : List UInt8)) ++ t)).1).getD (i_1').toNat default).2.2 = want_2_2')]) rfl (fun hb => ?_) (fun hb => ?_)
                · replace h := if_T h hb
                  refine wc_seq (fun K0_48' hK_48' => ?_)
                  refine wc_region ?_
                  refine WL.val (OV.assign rfl) rfl rfl rfl ?_
                  refine WL.nil ?_
                  refine KX.go (hK_48' [(4, Value.bool false)] _ ?_) ⟨rfl, trivial⟩
                  refine wc_ret ?_
                  exact hE.ret [] rfl rfl (.inl ⟨_, h, rfl⟩) (ResV.of1 rfl (RV.tmp rfl))
                · replace h := if_F h hb
                  refine wc_skip ?_
                  refine KX.go (hK_42' [(0, st s), (5, w), (7, w_1'), (9, w_2'), (11, Value.int .i64 i_1')] _ ?_) ⟨rfl, rfl, rfl, rfl, rfl, trivial⟩
                  refine wc_region ?_
                  refine WL.val (OV.move rfl) rfl rfl rfl ?_
                  obtain ⟨o_47', h⟩ := h
                  refine WL.val (OV.add rfl rfl o_47') rfl rfl rfl ?_
                  refine WL.val (OV.assign rfl) rfl rfl rfl ?_
                  refine WL.nil ?_
                  exact KX.goH (hK_39' (i_1' + 1) h.1 h.2) ⟨rfl, rfl, rfl, rfl, rfl, trivial⟩ [1, 2, 3] rfl rfl
              · skip
                refine wc_seq (fun K0_49' hK_49' => ?_)
                refine wc_region ?_
                refine WL.val (OV.move rfl) rfl rfl rfl ?_
                refine WL.val (OV.move rfl) rfl rfl rfl ?_
                refine WL.val (OV.lenRow 3 rfl rfl tf_sl_26) rfl rfl rfl ?_
                obtain ⟨o_48', h⟩ := h
                refine WL.val (OV.sub rfl rfl o_48') rfl rfl rfl ?_
                refine WL.val (OV.lss rfl rfl) rfl rfl rfl ?_
                refine WL.nil ?_
                refine KX.go (hK_49' [(0, st s), (5, w), (7, w_1'), (9, w_2'), (11, Value.int .i64 i_1'), (12, Value.pointer (some ⟨b_5', 0, none⟩)), (74, Value.bool (decide (i_1' < (((scanR s).1).length : Int) - 1)))] _ ?_) ⟨rfl, rfl, rfl, rfl, rfl, rfl, rfl, trivial⟩
                refine wc_cond (b := decide (i_1' < (((scanR s).1).length : Int) - 1)) rfl (fun hb => ?_) (fun hb => ?_)
                · replace h := if_T h hb
                  refine wc_region ?_
                  refine WL.val (OV.move rfl) rfl rfl rfl ?_
                  refine WL.val (OV.move rfl) rfl rfl rfl ?_
                  obtain ⟨o_49', h⟩ := h
                  refine WL.val (OV.indexRow 3 rfl rfl rfl tf_sl_26 o_49') rfl rfl rfl ?_
                  refine WL.val (OV.loadE (f := tokC) 3 rfl rfl tokC_len (by decide) (by omega) tf_row_34) rfl rfl rfl ?_
                  refine WL.storeW (vs := [Value.int .i64 ((((scanR s).1).getD (i_1').toNat default).1), Value.int .i64 ((((scanR s).1).getD (i_1').toNat default).2.1), st ((((scanR s).1).getD (i_1').toNat default).2.2)]) 0 rfl rfl rfl rfl rfl tf_size_34 rfl rfl rfl ?_
                  refine WL.nil ?_
                  exact KX.goH (hK_46' ((((scanR s).1).getD (i_1').toNat default).1, (((scanR s).1).getD (i_1').toNat default).2.1, (((scanR s).1).getD (i_1').toNat default).2.2) h) ⟨rfl, rfl, rfl, rfl, rfl, rfl, trivial⟩ [0, 1, 2, 3] rfl rfl
                · replace h := if_F h hb
                  refine wc_seq (fun K0_50' hK_50' => ?_)
                  refine wc_region ?_
                  refine WL.val (OV.move rfl) rfl rfl rfl ?_
                  refine WL.val (OV.move rfl) rfl rfl rfl ?_
                  refine WL.val (OV.move rfl) rfl rfl rfl ?_
                  refine WL.val (OV.lenRow 3 rfl rfl tf_sl_26) rfl rfl rfl ?_
                  obtain ⟨o_50', h⟩ := h
                  refine WL.val (OV.sub rfl rfl o_50') rfl rfl rfl ?_
                  obtain ⟨o_51', h⟩ := h
                  refine WL.val (OV.add rfl rfl o_51') rfl rfl rfl ?_
                  obtain ⟨o_52', h⟩ := h
                  refine WL.val (OV.indexRow 2 rfl rfl rfl tf_sl_26 o_52') rfl rfl rfl ?_
                  refine WL.val (OV.loadE (f := tokC) 2 rfl rfl tokC_len (by decide) (by omega) tf_row_34) rfl rfl rfl ?_
                  refine WL.storeW (vs := [Value.int .i64 ((((scanR t).1).getD (((i_1' - (((scanR s).1).length : Int)) + 1)).toNat default).1), Value.int .i64 ((((scanR t).1).getD (((i_1' - (((scanR s).1).length : Int)) + 1)).toNat default).2.1), st ((((scanR t).1).getD (((i_1' - (((scanR s).1).length : Int)) + 1)).toNat default).2.2)]) 0 rfl rfl rfl rfl rfl tf_size_34 rfl rfl rfl ?_
                  refine WL.nil ?_
                  refine KX.go (hK_50' [(0, st s), (5, w), (7, w_1'), (9, w_2'), (11, Value.int .i64 i_1'), (12, Value.pointer (some ⟨b_5', 0, none⟩))] _ ?_) ⟨rfl, rfl, rfl, rfl, rfl, rfl, trivial⟩
                  refine wc_region ?_
                  refine WL.val (OV.fieldAddr0 rfl tf_field_34_1) rfl rfl rfl ?_
                  refine WL.val (OV.load rfl (At.own 0 rfl) rfl tf_scal_3) rfl rfl rfl ?_
                  refine WL.val (OV.move rfl) rfl rfl rfl ?_
                  refine WL.val (OV.len rfl tf_str_9) rfl rfl rfl ?_
                  obtain ⟨o_53', h⟩ := h
                  refine WL.val (OV.add rfl rfl o_53') rfl rfl rfl ?_
                  obtain ⟨o_54', h⟩ := h
                  refine WL.val (OV.add rfl rfl o_54') rfl rfl rfl ?_
                  refine WL.val (OV.fieldAddr0 rfl tf_field_34_1) rfl rfl rfl ?_
                  refine WL.store (vs := [Value.int .i64 (((((scanR t).1).getD (((i_1' - (((scanR s).1).length : Int)) + 1)).toNat default).2.1) + ((s.length : Int) + 1))]) (cs' := [Value.int .i64 ((((scanR t).1).getD (((i_1' - (((scanR s).1).length : Int)) + 1)).toNat default).1), Value.int .i64 (((((scanR t).1).getD (((i_1' - (((scanR s).1).length : Int)) + 1)).toNat default).2.1) + ((s.length : Int) + 1)), st ((((scanR t).1).getD (((i_1' - (((scanR s).1).length : Int)) + 1)).toNat default).2.2)]) 0 rfl rfl rfl rfl tf_size_3 (Nat.le_of_ble_eq_true rfl) rfl rfl rfl ?_
                  refine WL.nil ?_
                  exact KX.goH (hK_46' ((((scanR t).1).getD (((i_1' - (((scanR s).1).length : Int)) + 1)).toNat default).1, ((((scanR t).1).getD (((i_1' - (((scanR s).1).length : Int)) + 1)).toNat default).2.1) + ((s.length : Int) + 1), (((scanR t).1).getD (((i_1' - (((scanR s).1).length : Int)) + 1)).toNat default).2.2) h) ⟨rfl, rfl, rfl, rfl, rfl, rfl, trivial⟩ [0, 1, 2, 3] rfl rfl
            · replace h := if_F h hb
              refine wc_exit ?_
              refine KX.go (hK_15' [] _ ?_) trivial
              refine wc_seq (fun K0_51' hK_51' => ?_)
              refine wc_region ?_
              refine WL.val (OV.assign rfl) rfl rfl rfl ?_
              refine WL.nil ?_
              refine KX.go (hK_51' [(4, Value.bool true)] _ ?_) ⟨rfl, trivial⟩
              refine wc_ret ?_
              exact hE.ret [] rfl rfl (.inl ⟨_, h, rfl⟩) (ResV.of1 rfl (RV.tmp rfl))
        · obtain ⟨w_2', ho⟩ := hS
          cases ho
    · obtain ⟨w_1', ho⟩ := hS
      cases ho
  · obtain ⟨w, ho⟩ := hS
    cases ho

theorem tokenJoined_does (s t : List UInt8) (hs : s.length ≤ 140737488351232) (ht : t.length ≤ 140737488351232) : Does Try.prog 4 [st s, st t] [] [] (Ret (.bool true) []) := by
  refine (ljoined_wp s t (fun r => r = true) ?_).weak (by rintro o (⟨v, rfl, rfl⟩ | h) <;> first | rfl | exact h.elim)
  unfold ljoined_vc
  refine ⟨fun _ => ⟨by omega, by omega⟩, ?_⟩
  by_cases hok : (scanR s).2.1 = 0 ∧ (scanR s).2.2 = 0 ∧ (scanR t).2.1 = 0 ∧ (scanR t).2.2 = 0 ∧ s.length + t.length < 4096
  · obtain ⟨a1, a2, a3, a4, a5⟩ := hok
    obtain ⟨init, e1, e2⟩ := scan_join a1 a3 a5
    have l1 := scanR_len s
    have l2 := scanR_len t
    have hne : 0 < (scanR t).1.length := scanR_pos a3 (by omega)
    have hlen1 : (scanR s).1.length = init.length + 1 := by rw [e1]; simp
    rw [if_neg (by simp [andAll, a1, a2, a3, a4]; omega)]
    refine ⟨by simp; omega, by simp; omega, ?_⟩
    simp only [e2]
    refine ⟨fun _ => ⟨⟨by omega, by omega⟩, ⟨by omega, by omega⟩⟩, ?_⟩
    rw [if_neg (by simp [andAll]; omega)]
    refine ⟨fun i => 0 ≤ i, fun i => ((init.length + (scanR t).1.length : Nat) - i).toNat, Int.le_refl _, fun i h0 => ?_⟩
    by_cases hi : i < ((init ++ (scanR t).1.map (shT (s.length + 1))).length : Int)
    · rw [if_pos (by simpa using hi)]
      have hi2 : i < init.length + (scanR t).1.length := by simpa using hi
      have hg : ∀ j, j < (scanR t).1.length → ((scanR t).1.getD j default).2.1 ≤ 4096 ∧ 0 ≤ ((scanR t).1.getD j default).2.1 := fun j hj => scanR_at a3 (by omega) hj
      refine ⟨fun a b c => (init ++ (scanR t).1.map (shT (s.length + 1))).getD i.toNat default = (a, b, c), fun a b c hJ => ?_, ⟨by omega, by omega⟩, ?_⟩
      · refine ⟨⟨h0, hi⟩, ?_⟩
        rw [hJ, if_neg (by simp [andAll])]
        refine ⟨⟨by omega, by omega⟩, by omega, ?_⟩
        show ((init.length + (scanR t).1.length : Nat) - (i + 1)).toNat < ((init.length + (scanR t).1.length : Nat) - i).toNat
        omega
      · by_cases hin : i < ((scanR s).1.length : Int) - 1
        · rw [if_pos (by simpa using hin)]
          refine ⟨⟨h0, by omega⟩, ?_⟩
          have : (init ++ (scanR t).1.map (shT (s.length + 1))).getD i.toNat default = (scanR s).1.getD i.toNat default := by
            rw [e1, List.getD_eq_getElem?_getD, List.getD_eq_getElem?_getD, List.getElem?_append_left (by omega), List.getElem?_append_left (by omega)]
          rw [this]
        · rw [if_neg (by simpa using hin)]
          have hj : (i - ((scanR s).1.length : Int) + 1).toNat < (scanR t).1.length := by omega
          have b1 := hg _ hj
          refine ⟨⟨by omega, by omega⟩, ⟨by omega, by omega⟩, ⟨by omega, by omega⟩, ⟨by omega, by omega⟩, ⟨by omega, by omega⟩, ?_⟩
          have : (init ++ (scanR t).1.map (shT (s.length + 1))).getD i.toNat default = shT (s.length + 1) ((scanR t).1.getD (i - ((scanR s).1.length : Int) + 1).toNat default) := by
            rw [List.getD_eq_getElem?_getD, List.getD_eq_getElem?_getD, List.getElem?_append_right (by omega), List.getElem?_map, show i.toNat - init.length = (i - ((scanR s).1.length : Int) + 1).toNat by omega, List.getElem?_eq_getElem hj]; rfl
          rw [this]; rfl
    · rw [if_neg (by simpa using hi)]; trivial
  · rw [if_pos (by
      simp only [andAll, Bool.or_eq_true, Bool.not_eq_true', Bool.and_eq_false_iff, decide_eq_false_iff_not, decide_eq_true_eq, not_true_eq_false, or_false]
      by_cases c1 : (scanR s).2.1 = 0
      · by_cases c2 : (scanR s).2.2 = 0
        · by_cases c3 : (scanR t).2.1 = 0
          · by_cases c4 : (scanR t).2.2 = 0
            · exact .inr (by
                have : ¬ s.length + t.length < 4096 := fun x => hok ⟨c1, c2, c3, c4, x⟩
                omega)
            · exact .inl (.inr (.inr c4))
          · exact .inl (.inr (.inl c3))
        · exact .inl (.inl (.inr c2))
      · exact .inl (.inl (.inl c1)))]
theorem tokenJoined_walk (s t : ByteArray) (hs : s.data.toList.length ≤ reachBytes) (ht : t.data.toList.length ≤ reachBytes) : Pure Try.prog 4 #[.string s, .string t] (.bool true) := Does.pure (tokenJoined_does s.data.toList t.data.toList hs ht)

end Go.Proofs.Ytiaafdjdppganaa
