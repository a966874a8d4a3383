/-
  TokenScans.
-/
import Derived.Test.YtiaafdjdppganaaTkF
import Derived.Test.YtiaafdjdppganaaGwe
namespace Go.Proofs.Ytiaafdjdppganaa
open Go Go.RowKit

theorem tf_field_34_0 : fieldOff Try.prog 34 0 = some 0 := by kernel_rfl
theorem tf_field_34_1 : fieldOff Try.prog 34 1 = some 1 := by kernel_rfl
theorem tf_field_40_1 : fieldOff Try.prog 40 1 = some 1 := by kernel_rfl
theorem tf_field_34_2 : fieldOff Try.prog 34 2 = some 2 := by kernel_rfl
theorem tf_ent_11 : entB Try.prog 11 = true := by kernel_rfl
theorem tf_scal_27 : scalB Try.prog 27 = true := by kernel_rfl
theorem tf_stood_29 : Program.stoodInHeld Try.prog 29 = false := by kernel_rfl
theorem tf_eqg_29 : Program.eqGuardType Try.prog Try.prog.depth 29 = false := by kernel_rfl
theorem tf_row_34 : RowT Try.prog 34 3 := ⟨by kernel_rfl, by kernel_rfl⟩
theorem tf_stood_34 : Program.stoodInHeld Try.prog 34 = false := by kernel_rfl
theorem tf_eqg_34 : Program.eqGuardType Try.prog Try.prog.depth 34 = false := by kernel_rfl
theorem tf_ent_9 : entB Try.prog 9 = true := by kernel_rfl
theorem tf_ent_10 : entB Try.prog 10 = true := by kernel_rfl
theorem tf_ent_12 : entB Try.prog 12 = true := by kernel_rfl
theorem tf_size_34 : sizeB Try.prog 34 3 = true := by kernel_rfl

def same_vc (l : List Tok) (want : List Tok) (K : Bool → (List Tok) → (List Tok) → Prop) : Prop :=
  (if (!decide ((l.length : Int) = (want.length : Int))) = true then
    K false l want
  else
    ∃ (Inv : Int → Prop) (mu : Int → Nat),
      Inv 0 ∧ ∀ (i_1' : Int), Inv i_1' →
        (if (decide (i_1' < (l.length : Int))) = true then
          (0 ≤ i_1' ∧ i_1' < (l.length : Int)) ∧
          (0 ≤ i_1' ∧ i_1' < (want.length : Int)) ∧
          ((!decide ((l.getD (i_1').toNat default).1 = (want.getD (i_1').toNat default).1)) = false → (0 ≤ i_1' ∧ i_1' < (l.length : Int)) ∧ (0 ≤ i_1' ∧ i_1' < (want.length : Int))) ∧
          (((!decide ((l.getD (i_1').toNat default).1 = (want.getD (i_1').toNat default).1)) || (!decide ((l.getD (i_1').toNat default).2.1 = (want.getD (i_1').toNat default).2.1))) = false → (0 ≤ i_1' ∧ i_1' < (l.length : Int)) ∧ (0 ≤ i_1' ∧ i_1' < (want.length : Int))) ∧
          (if (((!decide ((l.getD (i_1').toNat default).1 = (want.getD (i_1').toNat default).1)) || (!decide ((l.getD (i_1').toNat default).2.1 = (want.getD (i_1').toNat default).2.1))) || (!decide ((l.getD (i_1').toNat default).2.2 = (want.getD (i_1').toNat default).2.2))) = true then
            K false l want
          else
            (I64 (i_1' + 1)) ∧
            Inv (i_1' + 1) ∧ mu (i_1' + 1) < mu i_1')
        else
          K true l want))
set_option maxRecDepth 100000 in
theorem same_wp (w : Value) (w_1' : Value) (l : List Tok) (want : List Tok) (K : Bool → (List Tok) → (List Tok) → Prop) (h : same_vc l want K) :
    Does Try.prog 12 [w, w_1'] [] [HA.row w 34 3 l.length (l.flatMap tokC), HA.row w_1' 40 3 want.length (want.flatMap tokC)] (fun o => (∃ (v : Bool) (d : List Tok) (d_1' : List Tok), K v d d_1' ∧ o = .ret (Value.bool v) [HA.row w 34 3 d.length (d.flatMap tokC), HA.row w_1' 40 3 d_1'.length (d_1'.flatMap tokC)]) ∨ (False)) := by
  unfold same_vc at h
  refine does_of_wc (n := 54) (L0 := [(0, w), (1, w_1')]) Try.func12 rfl rfl rfl rfl (fun w0 M Q hE => ?_)
  refine wc_seq (fun K0 hK => ?_)
  refine wc_region ?_
  refine WL.val (OV.assign rfl) rfl rfl rfl ?_
  refine WL.nil ?_
  refine KX.go (hK [(0, w), (1, w_1')] _ ?_) ⟨rfl, rfl, trivial⟩
  refine wc_seq (fun K0_1' hK_1' => ?_)
  refine wc_seq (fun K0_2' hK_2' => ?_)
  refine wc_region ?_
  refine WL.val (OV.move rfl) rfl rfl rfl ?_
  refine WL.val (OV.lenRow 0 rfl rfl tf_sl_26) rfl rfl rfl ?_
  refine WL.val (OV.move rfl) rfl rfl rfl ?_
  refine WL.val (OV.lenRow 1 rfl rfl tf_sl_23) rfl rfl rfl ?_
  refine WL.val (OV.neq rfl rfl) rfl rfl rfl ?_
  refine WL.nil ?_
  refine KX.go (hK_2' [(0, w), (1, w_1'), (10, Value.bool (!decide ((l.length : Int) = (want.length : Int))))] _ ?_) ⟨rfl, rfl, rfl, trivial⟩
  refine wc_cond (b := !decide ((l.length : Int) = (want.length : Int))) rfl (fun hb => ?_) (fun hb => ?_)
  · replace h := if_T h hb
    refine wc_seq (fun K0_3' hK_3' => ?_)
    refine wc_region ?_
    refine WL.val (OV.assign rfl) rfl rfl rfl ?_
    refine WL.nil ?_
    refine KX.go (hK_3' [(4, Value.bool false)] _ ?_) ⟨rfl, trivial⟩
    refine wc_ret ?_
    exact hE.ret [0, 1] rfl rfl (.inl ⟨_, _, _, h, rfl⟩) (ResV.of1 rfl (RV.tmp rfl))
  · replace h := if_F h hb
    refine wc_skip ?_
    refine KX.go (hK_1' [(0, w), (1, w_1')] _ ?_) ⟨rfl, rfl, trivial⟩
    refine wc_seq (fun K0_4' hK_4' => ?_)
    refine wc_seq (fun K0_5' hK_5' => ?_)
    refine wc_region ?_
    refine WL.val (OV.assign rfl) rfl rfl rfl ?_
    refine WL.nil ?_
    refine KX.go (hK_5' [(0, w), (1, w_1'), (5, Value.int .i64 0)] _ ?_) ⟨rfl, rfl, rfl, trivial⟩
    refine wc_block ?_
    obtain ⟨Inv, mu, h0, hr⟩ := h
    refine wc_loop (S := Int) (fun σ => Inv σ) (fun σ => mu σ) (fun σ => [(0, w), (1, w_1'), (5, Value.int .i64 σ)]) (fun σ => [HA.row w 34 3 l.length (l.flatMap tokC), HA.row w_1' 40 3 want.length (want.flatMap tokC)]) 0 h0 ⟨rfl, rfl, rfl, trivial⟩ rfl ?_
    rintro i_1' hi K0_20' hK_20'
    have h := hr i_1' hi
    show WC _ _ _ _ [(0, w), (1, w_1'), (5, Value.int .i64 i_1')] [HA.row w 34 3 l.length (l.flatMap tokC), HA.row w_1' 40 3 want.length (want.flatMap tokC)]
    refine wc_seq (fun K0_21' hK_21' => ?_)
    refine wc_seq (fun K0_22' hK_22' => ?_)
    refine wc_region ?_
    refine WL.val (OV.move rfl) rfl rfl rfl ?_
    refine WL.val (OV.move rfl) rfl rfl rfl ?_
    refine WL.val (OV.lenRow 0 rfl rfl tf_sl_26) rfl rfl rfl ?_
    refine WL.val (OV.lss rfl rfl) rfl rfl rfl ?_
    refine WL.nil ?_
    refine KX.go (hK_22' [(0, w), (1, w_1'), (5, Value.int .i64 i_1'), (14, Value.bool (decide (i_1' < (l.length : Int))))] _ ?_) ⟨rfl, rfl, rfl, rfl, trivial⟩
    refine wc_cond (b := decide (i_1' < (l.length : Int))) rfl (fun hb => ?_) (fun hb => ?_)
    · replace h := if_T h hb
      refine wc_skip ?_
      refine KX.go (hK_21' [(0, w), (1, w_1'), (5, Value.int .i64 i_1')] _ ?_) ⟨rfl, rfl, rfl, trivial⟩
      refine wc_seq (fun K0_23' hK_23' => ?_)
      refine wc_block ?_
      refine wc_seq (fun K0_24' hK_24' => ?_)
      refine wc_draw_all [] tf_mixed (by kernel_rfl) rfl (fun T_2' hT_2' => ?_)
      refine FL.val (fun _ => OV.move rfl) rfl (fun _ => rfl) rfl rfl ?_
      refine FL.val (fun _ => OV.move rfl) rfl (fun _ => rfl) rfl rfl ?_
      obtain ⟨o_17', h⟩ := h
      refine FL.val (fun _ => OV.indexRow 0 rfl rfl rfl tf_sl_26 o_17') rfl (fun _ => rfl) rfl rfl ?_
      refine FL.val (fun _ => OV.fieldAddr rfl tf_field_34_0) rfl (fun _ => rfl) rfl rfl ?_
      refine FL.val (fun _ => OV.loadEF (f := tokC) (o := 0) 0 rfl rfl tokC_len (by omega) rfl tf_scal_3) rfl (fun _ => rfl) rfl rfl ?_
      refine FL.val (fun _ => OV.move rfl) rfl (fun _ => rfl) rfl rfl ?_
      refine FL.val (fun _ => OV.move rfl) rfl (fun _ => rfl) rfl rfl ?_
      obtain ⟨o_18', h⟩ := h
      refine FL.val (fun _ => OV.indexRow 1 rfl rfl rfl tf_sl_23 o_18') rfl (fun _ => rfl) rfl rfl ?_
      refine FL.val (fun _ => OV.fieldAddr rfl tf_field_40_0) rfl (fun _ => rfl) rfl rfl ?_
      refine FL.val (fun _ => OV.loadEF (f := tokC) (o := 0) 1 rfl rfl tokC_len (by omega) rfl tf_scal_3) rfl (fun _ => rfl) rfl rfl ?_
      refine FL.val (fun _ => OV.neq rfl rfl) rfl (fun _ => rfl) rfl rfl ?_
      refine FL.val (fun _ => OV.move rfl) rfl (fun _ => rfl) rfl rfl ?_
      obtain ⟨o_21', h⟩ := h
      refine FL.cut 12 rfl (fun _ => [(0, w), (1, w_1'), (5, Value.int .i64 i_1'), (40, Value.bool ((!decide ((l.getD (i_1').toNat default).1 = (want.getD (i_1').toNat default).1)) || (!decide ((l.getD (i_1').toNat default).2.1 = (want.getD (i_1').toNat default).2.1))))]) ?_ (fun K0_25' hK_25' => ?_)
      rotate_left
      · refine FL.split (!decide ((l.getD (i_1').toNat default).1 = (want.getD (i_1').toNat default).1)) (fun hb => ?_) (fun hb => ?_)
        · refine FL.set 28 (fun _ => rfl) (congrArg Value.bool hb) ?_
          refine FL.skip rfl (fun _ => rfl) rfl rfl ?_
          refine FL.skip rfl (fun _ => rfl) rfl rfl ?_
          refine FL.skip rfl (fun _ => rfl) rfl rfl ?_
          refine FL.skip rfl (fun _ => rfl) rfl rfl ?_
          refine FL.skip rfl (fun _ => rfl) rfl rfl ?_
          refine FL.skip rfl (fun _ => rfl) rfl rfl ?_
          refine FL.skip rfl (fun _ => rfl) rfl rfl ?_
          refine FL.skip rfl (fun _ => rfl) rfl rfl ?_
          refine FL.skip rfl (fun _ => rfl) rfl rfl ?_
          refine FL.skip rfl (fun _ => rfl) rfl rfl ?_
          refine FL.skip rfl (fun _ => rfl) rfl rfl ?_
          refine FL.val (fun _ => OV.pickT rfl rfl) rfl (fun _ => rfl) rfl rfl ?_
          refine FL.set 40 (fun _ => rfl) (oT (v := !decide ((l.getD (i_1').toNat default).2.1 = (want.getD (i_1').toNat default).2.1)) hb) ?_
          exact FL.weak (L' := fun _ => [(0, w), (1, w_1'), (5, Value.int .i64 i_1'), (40, Value.bool ((!decide ((l.getD (i_1').toNat default).1 = (want.getD (i_1').toNat default).1)) || (!decide ((l.getD (i_1').toNat default).2.1 = (want.getD (i_1').toNat default).2.1))))]) (fun _ => ⟨rfl, rfl, rfl, rfl, trivial⟩) (FL.nil hK_25')
        · obtain ⟨o_19', o_20'⟩ := o_21' hb
          refine FL.set 28 (fun _ => rfl) (congrArg Value.bool hb) ?_
          refine FL.val (fun _ => OV.move rfl) rfl (fun _ => rfl) rfl rfl ?_
          refine FL.val (fun _ => OV.move rfl) rfl (fun _ => rfl) rfl rfl ?_
          refine FL.val (fun _ => OV.indexRow 0 rfl rfl rfl tf_sl_26 o_19') rfl (fun _ => rfl) rfl rfl ?_
          refine FL.val (fun _ => OV.fieldAddr rfl tf_field_34_1) rfl (fun _ => rfl) rfl rfl ?_
          refine FL.val (fun _ => OV.loadEF (f := tokC) (o := 1) 0 rfl rfl tokC_len (by omega) rfl tf_scal_3) rfl (fun _ => rfl) rfl rfl ?_
          refine FL.val (fun _ => OV.move rfl) rfl (fun _ => rfl) rfl rfl ?_
          refine FL.val (fun _ => OV.move rfl) rfl (fun _ => rfl) rfl rfl ?_
          refine FL.val (fun _ => OV.indexRow 1 rfl rfl rfl tf_sl_23 o_20') rfl (fun _ => rfl) rfl rfl ?_
          refine FL.val (fun _ => OV.fieldAddr rfl tf_field_40_1) rfl (fun _ => rfl) rfl rfl ?_
          refine FL.val (fun _ => OV.loadEF (f := tokC) (o := 1) 1 rfl rfl tokC_len (by omega) rfl tf_scal_3) rfl (fun _ => rfl) rfl rfl ?_
          refine FL.val (fun _ => OV.neq rfl rfl) rfl (fun _ => rfl) rfl rfl ?_
          refine FL.val (fun _ => OV.pickF rfl rfl) rfl (fun _ => rfl) rfl rfl ?_
          refine FL.set 40 (fun _ => rfl) (oF (v := !decide ((l.getD (i_1').toNat default).2.1 = (want.getD (i_1').toNat default).2.1)) hb) ?_
          exact FL.weak (L' := fun _ => [(0, w), (1, w_1'), (5, Value.int .i64 i_1'), (40, Value.bool ((!decide ((l.getD (i_1').toNat default).1 = (want.getD (i_1').toNat default).1)) || (!decide ((l.getD (i_1').toNat default).2.1 = (want.getD (i_1').toNat default).2.1))))]) (fun _ => ⟨rfl, rfl, rfl, rfl, trivial⟩) (FL.nil hK_25')
      refine FL.val (fun _ => OV.move rfl) rfl (fun _ => rfl) rfl rfl ?_
      obtain ⟨o_24', h⟩ := h
      refine FL.cut 12 rfl (fun _ => [(0, w), (1, w_1'), (5, Value.int .i64 i_1'), (53, Value.bool (((!decide ((l.getD (i_1').toNat default).1 = (want.getD (i_1').toNat default).1)) || (!decide ((l.getD (i_1').toNat default).2.1 = (want.getD (i_1').toNat default).2.1))) || (!decide ((l.getD (i_1').toNat default).2.2 = (want.getD (i_1').toNat default).2.2))))]) ?_ (fun K0_26' hK_26' => ?_)
      rotate_left
      · refine FL.split ((!decide ((l.getD (i_1').toNat default).1 = (want.getD (i_1').toNat default).1)) || (!decide ((l.getD (i_1').toNat default).2.1 = (want.getD (i_1').toNat default).2.1))) (fun hb => ?_) (fun hb => ?_)
        · refine FL.set 41 (fun _ => rfl) (congrArg Value.bool hb) ?_
          refine FL.skip rfl (fun _ => rfl) rfl rfl ?_
          refine FL.skip rfl (fun _ => rfl) rfl rfl ?_
          refine FL.skip rfl (fun _ => rfl) rfl rfl ?_
          refine FL.skip rfl (fun _ => rfl) rfl rfl ?_
          refine FL.skip rfl (fun _ => rfl) rfl rfl ?_
          refine FL.skip rfl (fun _ => rfl) rfl rfl ?_
          refine FL.skip rfl (fun _ => rfl) rfl rfl ?_
          refine FL.skip rfl (fun _ => rfl) rfl rfl ?_
          refine FL.skip rfl (fun _ => rfl) rfl rfl ?_
          refine FL.skip rfl (fun _ => rfl) rfl rfl ?_
          refine FL.skip rfl (fun _ => rfl) rfl rfl ?_
          refine FL.val (fun _ => OV.pickT rfl rfl) rfl (fun _ => rfl) rfl rfl ?_
          refine FL.set 53 (fun _ => rfl) (oT (v := !decide ((l.getD (i_1').toNat default).2.2 = (want.getD (i_1').toNat default).2.2)) hb) ?_
          exact FL.weak (L' := fun _ => [(0, w), (1, w_1'), (5, Value.int .i64 i_1'), (53, Value.bool (((!decide ((l.getD (i_1').toNat default).1 = (want.getD (i_1').toNat default).1)) || (!decide ((l.getD (i_1').toNat default).2.1 = (want.getD (i_1').toNat default).2.1))) || (!decide ((l.getD (i_1').toNat default).2.2 = (want.getD (i_1').toNat default).2.2))))]) (fun _ => ⟨rfl, rfl, rfl, rfl, trivial⟩) (FL.nil hK_26')
        · obtain ⟨o_22', o_23'⟩ := o_24' hb
          refine FL.set 41 (fun _ => rfl) (congrArg Value.bool hb) ?_
          refine FL.val (fun _ => OV.move rfl) rfl (fun _ => rfl) rfl rfl ?_
          refine FL.val (fun _ => OV.move rfl) rfl (fun _ => rfl) rfl rfl ?_
          refine FL.val (fun _ => OV.indexRow 0 rfl rfl rfl tf_sl_26 o_22') rfl (fun _ => rfl) rfl rfl ?_
          refine FL.val (fun _ => OV.fieldAddr rfl tf_field_34_2) rfl (fun _ => rfl) rfl rfl ?_
          refine FL.val (fun _ => OV.loadEF (f := tokC) (o := 2) 0 rfl rfl tokC_len (by omega) rfl tf_scal_9) rfl (fun _ => rfl) rfl rfl ?_
          refine FL.val (fun _ => OV.move rfl) rfl (fun _ => rfl) rfl rfl ?_
          refine FL.val (fun _ => OV.move rfl) rfl (fun _ => rfl) rfl rfl ?_
          refine FL.val (fun _ => OV.indexRow 1 rfl rfl rfl tf_sl_23 o_23') rfl (fun _ => rfl) rfl rfl ?_
          refine FL.val (fun _ => OV.fieldAddr rfl tf_field_40_2) rfl (fun _ => rfl) rfl rfl ?_
          refine FL.val (fun _ => OV.loadEF (f := tokC) (o := 2) 1 rfl rfl tokC_len (by omega) rfl tf_scal_9) rfl (fun _ => rfl) rfl rfl ?_
          refine FL.val (fun _ => OV.neqS rfl rfl) rfl (fun _ => rfl) rfl rfl ?_
          refine FL.val (fun _ => OV.pickF rfl rfl) rfl (fun _ => rfl) rfl rfl ?_
          refine FL.set 53 (fun _ => rfl) (oF (v := !decide ((l.getD (i_1').toNat default).2.2 = (want.getD (i_1').toNat default).2.2)) hb) ?_
          exact FL.weak (L' := fun _ => [(0, w), (1, w_1'), (5, Value.int .i64 i_1'), (53, Value.bool (((!decide ((l.getD (i_1').toNat default).1 = (want.getD (i_1').toNat default).1)) || (!decide ((l.getD (i_1').toNat default).2.1 = (want.getD (i_1').toNat default).2.1))) || (!decide ((l.getD (i_1').toNat default).2.2 = (want.getD (i_1').toNat default).2.2))))]) (fun _ => ⟨rfl, rfl, rfl, rfl, trivial⟩) (FL.nil hK_26')
      refine FL.weak (L' := fun _ => [(0, w), (1, w_1'), (5, Value.int .i64 i_1'), (53, Value.bool (((!decide ((l.getD (i_1').toNat default).1 = (want.getD (i_1').toNat default).1)) || (!decide ((l.getD (i_1').toNat default).2.1 = (want.getD (i_1').toNat default).2.1))) || (!decide ((l.getD (i_1').toNat default).2.2 = (want.getD (i_1').toNat default).2.2))))]) (fun _ => ⟨rfl, rfl, rfl, rfl, trivial⟩) (FL.nil (hT_2' (fun _ => [(0, w), (1, w_1'), (5, Value.int .i64 i_1'), (53, Value.bool (((!decide ((l.getD (i_1').toNat default).1 = (want.getD (i_1').toNat default).1)) || (!decide ((l.getD (i_1').toNat default).2.1 = (want.getD (i_1').toNat default).2.1))) || (!decide ((l.getD (i_1').toNat default).2.2 = (want.getD (i_1').toNat default).2.2))))]) (fun _ => ?_)))
      refine KX.go (hK_24' [(0, w), (1, w_1'), (5, Value.int .i64 i_1'), (53, Value.bool (((!decide ((l.getD (i_1').toNat default).1 = (want.getD (i_1').toNat default).1)) || (!decide ((l.getD (i_1').toNat default).2.1 = (want.getD (i_1').toNat default).2.1))) || (!decide ((l.getD (i_1').toNat default).2.2 = (want.getD (i_1').toNat default).2.2))))] _ ?_) ⟨rfl, rfl, rfl, rfl, trivial⟩
      refine wc_cond (b := ((!decide ((l.getD (i_1').toNat default).1 = (want.getD (i_1').toNat default).1)) || (!decide ((l.getD (i_1').toNat default).2.1 = (want.getD (i_1').toNat default).2.1))) || (!decide ((l.getD (i_1').toNat default).2.2 = (want.getD (i_1').toNat default).2.2))) rfl (fun hb => ?_) (fun hb => ?_)
      · replace h := if_T h hb
        refine wc_seq (fun K0_27' hK_27' => ?_)
        refine wc_region ?_
        refine WL.val (OV.assign rfl) rfl rfl rfl ?_
        refine WL.nil ?_
        refine KX.go (hK_27' [(4, Value.bool false)] _ ?_) ⟨rfl, trivial⟩
        refine wc_ret ?_
        exact hE.ret [0, 1] rfl rfl (.inl ⟨_, _, _, h, rfl⟩) (ResV.of1 rfl (RV.tmp rfl))
      · replace h := if_F h hb
        refine wc_skip ?_
        refine KX.go (hK_23' [(0, w), (1, w_1'), (5, Value.int .i64 i_1')] _ ?_) ⟨rfl, rfl, rfl, trivial⟩
        refine wc_region ?_
        refine WL.val (OV.move rfl) rfl rfl rfl ?_
        obtain ⟨o_25', h⟩ := h
        refine WL.val (OV.add rfl rfl o_25') rfl rfl rfl ?_
        refine WL.val (OV.assign rfl) rfl rfl rfl ?_
        refine WL.nil ?_
        exact KX.goH (hK_20' (i_1' + 1) h.1 h.2) ⟨rfl, rfl, rfl, trivial⟩ [0, 1] rfl rfl
    · replace h := if_F h hb
      refine wc_exit ?_
      refine KX.go (hK_4' [] _ ?_) trivial
      refine wc_seq (fun K0_28' hK_28' => ?_)
      refine wc_region ?_
      refine WL.val (OV.assign rfl) rfl rfl rfl ?_
      refine WL.nil ?_
      refine KX.go (hK_28' [(4, Value.bool true)] _ ?_) ⟨rfl, trivial⟩
      refine wc_ret ?_
      exact hE.ret [0, 1] rfl rfl (.inl ⟨_, _, _, h, rfl⟩) (ResV.of1 rfl (RV.tmp rfl))

def speaks_vc  (K : Bool → Prop) : Prop :=
  (
    (((andAll [decide ((scanR ([97, 46, 98] : List UInt8)).2.1 = 0), decide ((scanR ([97, 46, 98] : List UInt8)).2.2 = 0), decide (([] : List UInt8) = [])]) && (decide ((((scanR ([97, 46, 98] : List UInt8)).1).length : Int) = 4))) = true → (0 ≤ (1 : Int) ∧ (1 : Int) < (((scanR ([97, 46, 98] : List UInt8)).1).length : Int))) ∧
    K (((andAll [decide ((scanR ([97, 46, 98] : List UInt8)).2.1 = 0), decide ((scanR ([97, 46, 98] : List UInt8)).2.2 = 0), decide (([] : List UInt8) = [])]) && (decide ((((scanR ([97, 46, 98] : List UInt8)).1).length : Int) = 4))) && (andAll [decide ((((scanR ([97, 46, 98] : List UInt8)).1).getD ((1 : Int)).toNat default).1 = 4), decide ((((scanR ([97, 46, 98] : List UInt8)).1).getD ((1 : Int)).toNat default).2.1 = 1), decide ((((scanR ([97, 46, 98] : List UInt8)).1).getD ((1 : Int)).toNat default).2.2 = ([46] : List UInt8))])))
set_option maxRecDepth 100000 in
theorem speaks_wp   (K : Bool → Prop) (h : speaks_vc  K) :
    Does Try.prog 9 [] [] [] (fun o => (∃ (v : Bool), K v ∧ o = .ret (Value.bool v) []) ∨ (False)) := by
  unfold speaks_vc at h
  refine does_of_wc (n := 22) (L0 := []) Try.func9 rfl rfl rfl rfl (fun w0 M Q hE => ?_)
  refine wc_seq (fun K0 hK => ?_)
  refine wc_region ?_
  refine WL.val (OV.assign rfl) rfl rfl rfl ?_
  refine WL.nil ?_
  refine KX.go (hK [] _ ?_) trivial
  refine wc_seq (fun K0_1' hK_1' => ?_)
  refine wc_region ?_
  refine WL.callS tf_ent_11 rfl (scan_does ([97, 46, 98] : List UInt8)) rfl trivial rfl rfl (fun r H' hS => ?_) (fun c H' hS => ?_)
  · obtain ⟨w, ho⟩ := hS
    cases ho
    refine WL.val (OV.move rfl) rfl rfl rfl ?_
    refine WL.val (OV.extract 0 rfl rfl) rfl rfl rfl ?_
    refine WL.val (OV.extract 1 rfl rfl) rfl rfl rfl ?_
    refine WL.make (MV.alloc tf_zero_29) rfl rfl rfl (fun b => ?_)
    refine WL.val (OV.assign rfl) rfl rfl rfl ?_
    refine WL.storeW (vs := [Value.int .i64 ((scanR ([97, 46, 98] : List UInt8)).2.1), Value.int .i64 ((scanR ([97, 46, 98] : List UInt8)).2.2), st []]) 0 rfl rfl rfl rfl rfl tf_size_29 rfl rfl rfl ?_
    refine WL.nil ?_
    refine KX.go (hK_1' [(1, w), (2, Value.pointer (some ⟨b, 0, none⟩))] _ ?_) ⟨rfl, rfl, trivial⟩
    refine wc_seq (fun K0_2' hK_2' => ?_)
    refine wc_region ?_
    refine WL.val (OV.loadR rfl (At.own 0 rfl) tf_row_29) rfl rfl rfl ?_
    refine WL.val (OV.build rfl (cs := [Value.int .i64 0, Value.int .i64 0, st []]) rfl) rfl rfl rfl ?_
    refine WL.val (OV.eqlF (rs := [decide ((scanR ([97, 46, 98] : List UInt8)).2.1 = 0), decide ((scanR ([97, 46, 98] : List UInt8)).2.2 = 0), decide (([] : List UInt8) = [])]) rfl rfl Try.underlying29 tf_stood_29 tf_eqg_29 ⟨rfl, tf_scal_27, ⟨_, _, rfl, rfl, ScalEq.int Try.underlying27⟩, ⟨rfl, tf_scal_3, ⟨_, _, rfl, rfl, ScalEq.int Try.underlying3⟩, ⟨rfl, tf_scal_9, ⟨_, _, rfl, rfl, ScalEq.str Try.underlying9⟩, trivial⟩⟩⟩) rfl rfl rfl ?_
    refine WL.val (OV.move rfl) rfl rfl rfl ?_
    refine WL.cut 4 [(1, w), (14, Value.bool ((andAll [decide ((scanR ([97, 46, 98] : List UInt8)).2.1 = 0), decide ((scanR ([97, 46, 98] : List UInt8)).2.2 = 0), decide (([] : List UInt8) = [])]) && (decide ((((scanR ([97, 46, 98] : List UInt8)).1).length : Int) = 4))))] ?_ (fun K0_3' hK_3' => ?_)
    rotate_left
    · refine WL.split (andAll [decide ((scanR ([97, 46, 98] : List UInt8)).2.1 = 0), decide ((scanR ([97, 46, 98] : List UInt8)).2.2 = 0), decide (([] : List UInt8) = [])]) (fun hb => ?_) (fun hb => ?_)
      · refine WL.set 10 rfl (congrArg Value.bool hb) ?_
        refine WL.val (OV.move rfl) rfl rfl rfl ?_
        refine WL.val (OV.lenRow 1 rfl rfl tf_sl_26) rfl rfl rfl ?_
        refine WL.val (OV.eql rfl rfl) rfl rfl rfl ?_
        refine WL.val (OV.pickT rfl rfl) rfl rfl rfl ?_
        refine WL.set 14 rfl (bT (v := decide ((((scanR ([97, 46, 98] : List UInt8)).1).length : Int) = 4)) hb) ?_
        exact WL.end_ (KX.go hK_3' ⟨rfl, rfl, trivial⟩)
      · refine WL.set 10 rfl (congrArg Value.bool hb) ?_
        refine WL.skip rfl rfl rfl ?_
        refine WL.skip rfl rfl rfl ?_
        refine WL.skip rfl rfl rfl ?_
        refine WL.val (OV.pickF rfl rfl) rfl rfl rfl ?_
        refine WL.set 14 rfl (bF (v := decide ((((scanR ([97, 46, 98] : List UInt8)).1).length : Int) = 4)) hb) ?_
        exact WL.end_ (KX.go hK_3' ⟨rfl, rfl, trivial⟩)
    refine WL.val (OV.move rfl) rfl rfl rfl ?_
    obtain ⟨o_2', h⟩ := h
    refine WL.cut 6 [(21, Value.bool (((andAll [decide ((scanR ([97, 46, 98] : List UInt8)).2.1 = 0), decide ((scanR ([97, 46, 98] : List UInt8)).2.2 = 0), decide (([] : List UInt8) = [])]) && (decide ((((scanR ([97, 46, 98] : List UInt8)).1).length : Int) = 4))) && (andAll [decide ((((scanR ([97, 46, 98] : List UInt8)).1).getD ((1 : Int)).toNat default).1 = 4), decide ((((scanR ([97, 46, 98] : List UInt8)).1).getD ((1 : Int)).toNat default).2.1 = 1), decide ((((scanR ([97, 46, 98] : List UInt8)).1).getD ((1 : Int)).toNat default).2.2 = ([46] : List UInt8))])))] ?_ (fun K0_4' hK_4' => ?_)
    rotate_left
    · refine WL.split ((andAll [decide ((scanR ([97, 46, 98] : List UInt8)).2.1 = 0), decide ((scanR ([97, 46, 98] : List UInt8)).2.2 = 0), decide (([] : List UInt8) = [])]) && (decide ((((scanR ([97, 46, 98] : List UInt8)).1).length : Int) = 4))) (fun hb => ?_) (fun hb => ?_)
      · have o_1' := o_2' hb
        refine WL.set 15 rfl (congrArg Value.bool hb) ?_
        refine WL.val (OV.move rfl) rfl rfl rfl ?_
        refine WL.val (OV.indexRow 1 rfl rfl rfl tf_sl_26 o_1') rfl rfl rfl ?_
        refine WL.val (OV.loadE (f := tokC) 1 rfl rfl tokC_len (by decide) (by omega) tf_row_34) rfl rfl rfl ?_
        refine WL.val (OV.build rfl (cs := [Value.int .i64 4, Value.int .i64 1, st ([46] : List UInt8)]) rfl) rfl rfl rfl ?_
        refine WL.val (OV.eqlF (rs := [decide ((((scanR ([97, 46, 98] : List UInt8)).1).getD ((1 : Int)).toNat default).1 = 4), decide ((((scanR ([97, 46, 98] : List UInt8)).1).getD ((1 : Int)).toNat default).2.1 = 1), decide ((((scanR ([97, 46, 98] : List UInt8)).1).getD ((1 : Int)).toNat default).2.2 = ([46] : List UInt8))]) rfl rfl Try.underlying34 tf_stood_34 tf_eqg_34 ⟨rfl, tf_scal_3, ⟨_, _, rfl, rfl, ScalEq.int Try.underlying3⟩, ⟨rfl, tf_scal_3, ⟨_, _, rfl, rfl, ScalEq.int Try.underlying3⟩, ⟨rfl, tf_scal_9, ⟨_, _, rfl, rfl, ScalEq.str Try.underlying9⟩, trivial⟩⟩⟩) rfl rfl rfl ?_
        refine WL.val (OV.pickT rfl rfl) rfl rfl rfl ?_
        refine WL.set 21 rfl (bT (v := andAll [decide ((((scanR ([97, 46, 98] : List UInt8)).1).getD ((1 : Int)).toNat default).1 = 4), decide ((((scanR ([97, 46, 98] : List UInt8)).1).getD ((1 : Int)).toNat default).2.1 = 1), decide ((((scanR ([97, 46, 98] : List UInt8)).1).getD ((1 : Int)).toNat default).2.2 = ([46] : List UInt8))]) hb) ?_
        exact WL.end_ (KX.go hK_4' ⟨rfl, trivial⟩)
      · refine WL.set 15 rfl (congrArg Value.bool hb) ?_
        refine WL.skip rfl rfl rfl ?_
        refine WL.skip rfl rfl rfl ?_
        refine WL.skip rfl rfl rfl ?_
        refine WL.skip rfl rfl rfl ?_
        refine WL.skip rfl rfl rfl ?_
        refine WL.val (OV.pickF rfl rfl) rfl rfl rfl ?_
        refine WL.set 21 rfl (bF (v := andAll [decide ((((scanR ([97, 46, 98] : List UInt8)).1).getD ((1 : Int)).toNat default).1 = 4), decide ((((scanR ([97, 46, 98] : List UInt8)).1).getD ((1 : Int)).toNat default).2.1 = 1), decide ((((scanR ([97, 46, 98] : List UInt8)).1).getD ((1 : Int)).toNat default).2.2 = ([46] : List UInt8))]) hb) ?_
        exact WL.end_ (KX.go hK_4' ⟨rfl, trivial⟩)
    refine WL.val (OV.assign rfl) rfl rfl rfl ?_
    refine WL.nil ?_
    refine KX.go (hK_2' [(0, Value.bool (((andAll [decide ((scanR ([97, 46, 98] : List UInt8)).2.1 = 0), decide ((scanR ([97, 46, 98] : List UInt8)).2.2 = 0), decide (([] : List UInt8) = [])]) && (decide ((((scanR ([97, 46, 98] : List UInt8)).1).length : Int) = 4))) && (andAll [decide ((((scanR ([97, 46, 98] : List UInt8)).1).getD ((1 : Int)).toNat default).1 = 4), decide ((((scanR ([97, 46, 98] : List UInt8)).1).getD ((1 : Int)).toNat default).2.1 = 1), decide ((((scanR ([97, 46, 98] : List UInt8)).1).getD ((1 : Int)).toNat default).2.2 = ([46] : List UInt8))])))] _ ?_) ⟨rfl, trivial⟩
    refine wc_ret ?_
    exact hE.ret [] rfl rfl (.inl ⟨_, h, rfl⟩) (ResV.of1 rfl (RV.tmp rfl))
  · obtain ⟨w, ho⟩ := hS
    cases ho

theorem same_does (w1 w2 : Value) (l want : List Tok) (hmax : l.length ≤ 9223372036854775807) : Does Try.prog 12 [w1, w2] [] [tokRow w1 l, HA.row w2 40 3 want.length (want.flatMap tokC)] (Ret (.bool (decide (l = want))) [tokRow w1 l, HA.row w2 40 3 want.length (want.flatMap tokC)]) := by
  refine (same_wp w1 w2 l want (fun r l' w' => r = decide (l = want) ∧ l' = l ∧ w' = want) ?_).weak ?_
  · unfold same_vc
    by_cases hlen : l.length = want.length
    · rw [if_neg (by simp [hlen])]
      refine ⟨fun i => 0 ≤ i ∧ i ≤ l.length ∧ ∀ j, j < i.toNat → l.getD j default = want.getD j default, fun i => (l.length - i).toNat, ⟨by omega, by omega, fun j hj => by simp at hj⟩, ?_⟩
      rintro i ⟨h0, h1, hi⟩
      by_cases hl : i < l.length
      · rw [if_pos (by simpa using hl)]
        have b1 : 0 ≤ i ∧ i < (l.length : Int) := ⟨h0, hl⟩
        have b2 : 0 ≤ i ∧ i < (want.length : Int) := ⟨h0, by omega⟩
        refine ⟨b1, b2, fun _ => ⟨b1, b2⟩, fun _ => ⟨b1, b2⟩, ?_⟩
        by_cases he : l.getD i.toNat default = want.getD i.toNat default
        · rw [if_neg (by rw [he]; simp)]
          refine ⟨⟨by omega, by omega⟩, ⟨by omega, by omega, fun j hj => ?_⟩, by show (l.length - (i + 1)).toNat < (l.length - i).toNat; omega⟩
          by_cases e : j = i.toNat
          · subst e; exact he
          · exact hi j (by omega)
        · have hne : ((!decide ((l.getD i.toNat default).1 = (want.getD i.toNat default).1)) || (!decide ((l.getD i.toNat default).2.1 = (want.getD i.toNat default).2.1)) || (!decide ((l.getD i.toNat default).2.2 = (want.getD i.toNat default).2.2))) = true := by
            refine (Bool.eq_false_or_eq_true _).resolve_right fun hf => ?_
            simp only [Bool.or_eq_false_iff, Bool.not_eq_false', decide_eq_true_eq] at hf
            exact he (Prod.ext hf.1.1 (Prod.ext hf.1.2 hf.2))
          rw [if_pos hne]
          refine ⟨?_, rfl, rfl⟩
          symm
          rw [decide_eq_false_iff_not]
          rintro rfl; exact he rfl
      · rw [if_neg (by simpa using hl)]
        refine ⟨?_, rfl, rfl⟩
        symm
        rw [decide_eq_true_eq]
        refine List.ext_getElem hlen fun j j1 j2 => ?_
        have := hi j (by omega)
        rwa [List.getD_eq_getElem?_getD, List.getD_eq_getElem?_getD, List.getElem?_eq_getElem j1, List.getElem?_eq_getElem j2] at this
    · rw [if_pos (by simp; omega)]
      refine ⟨?_, rfl, rfl⟩
      symm
      rw [decide_eq_false_iff_not]
      rintro rfl; exact hlen rfl
  · rintro o (⟨r, l', w', ⟨rfl, rfl, rfl⟩, rfl⟩ | h)
    · rfl
    · exact h.elim
theorem scan_ab : scanR [97, 46, 98] = ([(1, 0, [97]), (4, 1, [46]), (1, 2, [98]), (0, 3, [])], 0, 0) := by kernel_rfl
theorem speaks_does : Does Try.prog 9 [] [] [] (Ret (.bool true) []) := by
  refine (speaks_wp (fun r => r = true) ?_).weak (by rintro o (⟨v, rfl, rfl⟩ | h) <;> first | rfl | exact h.elim)
  unfold speaks_vc
  simp only [scan_ab]
  exact ⟨fun _ => ⟨by decide, by decide⟩, by decide⟩
theorem scanF_len {t : List UInt8} : ∀ {n : Nat} {l l' : List Tok} {a : Int}, 0 ≤ a → l.length ≤ a → a ≤ t.length → scanF t n l a = .ok l' → l'.length ≤ t.length + 1
  | 0, _, _, _, _, _, _, h => by cases h
  | n + 1, l, l', a, h0, h1, h2, h => by
    rw [scanF] at h
    split at h
    · rename_i ha
      split at h
      · rename_i k q ho
        have hq := oneM_ok ⟨h0, ha⟩ ho
        have hg := gapM_bd (t := t) (a := q) ⟨by omega, hq.2⟩
        exact scanF_len (by omega) (by simp; omega) hg.2 h
      · cases h
    · simp only [Except.ok.injEq] at h
      subst h
      simp; omega
theorem scanR_len (t : List UInt8) : (scanR t).1.length ≤ 4097 := by
  unfold scanR
  split
  · simp
  · rename_i h
    have hg0 := gapM_bd (t := t) (a := 0) ⟨by omega, by omega⟩
    split
    · rename_i l hl
      have := scanF_len (t := t) hg0.1 (by simp; exact hg0.1) hg0.2 hl
      show l.length ≤ _
      omega
    · simp

def lscans_vc (text : List UInt8) (K : Bool → Prop) : Prop :=
  (
    (
      (
        (((!andAll [decide ((scanR text).2.1 = (scanR text).2.1), decide ((scanR text).2.2 = (scanR text).2.2), decide (([] : List UInt8) = [])]) || (!andAll [decide ((scanR text).2.1 = (scanR text).2.1), decide ((scanR text).2.2 = (scanR text).2.2), decide (([] : List UInt8) = [])])) = false → (((scanR text).1).length ≤ 9223372036854775807)) ∧
        ((((!andAll [decide ((scanR text).2.1 = (scanR text).2.1), decide ((scanR text).2.2 = (scanR text).2.2), decide (([] : List UInt8) = [])]) || (!andAll [decide ((scanR text).2.1 = (scanR text).2.1), decide ((scanR text).2.2 = (scanR text).2.2), decide (([] : List UInt8) = [])])) || (!(decide (((scanR text).1) = ((scanR text).1))))) = false → (((scanR text).1).length ≤ 9223372036854775807)) ∧
        (if ((((!andAll [decide ((scanR text).2.1 = (scanR text).2.1), decide ((scanR text).2.2 = (scanR text).2.2), decide (([] : List UInt8) = [])]) || (!andAll [decide ((scanR text).2.1 = (scanR text).2.1), decide ((scanR text).2.2 = (scanR text).2.2), decide (([] : List UInt8) = [])])) || (!(decide (((scanR text).1) = ((scanR text).1))))) || (!(decide (((scanR text).1) = ((scanR text).1))))) = true then
          K false
        else
          ∃ (Inv : Int → (List Tok) → Prop) (mu : Int → (List Tok) → Nat),
            Inv 0 ((scanR text).1) ∧ ∀ (i_1' : Int) (l_1' : List Tok), Inv i_1' l_1' →
              (if (decide (i_1' < (l_1'.length : Int))) = true then
                (IntKind.wrap .i64 (-i_1') = -i_1') ∧
                (0 ≤ i_1' ∧ i_1' < (l_1'.length : Int)) ∧
                (I64 (i_1' + 1)) ∧
                Inv (i_1' + 1) (l_1'.set ((i_1').toNat) (9, -i_1', ([115, 112, 111, 105, 108, 116] : List UInt8))) ∧ mu (i_1' + 1) (l_1'.set ((i_1').toNat) (9, -i_1', ([115, 112, 111, 105, 108, 116] : List UInt8))) < mu i_1' l_1'
              else
                (
                  (((scanR text).1).length ≤ 9223372036854775807) ∧
                  ((decide (((scanR text).1) = ((scanR text).1))) = true → (((scanR text).1).length ≤ 9223372036854775807)) ∧
                  K ((decide (((scanR text).1) = ((scanR text).1))) && (decide (((scanR text).1) = ((scanR text).1))))))))))
set_option maxRecDepth 100000 in
theorem lscans_wp  (text : List UInt8) (K : Bool → Prop) (h : lscans_vc text K) :
    Does Try.prog 3 [st text] [] [] (fun o => (∃ (v : Bool), K v ∧ o = .ret (Value.bool v) []) ∨ (False)) := by
  unfold lscans_vc at h
  refine does_of_wc (n := 78) (L0 := [(0, st text)]) Try.func3 rfl rfl rfl rfl (fun w0 M Q hE => ?_)
  refine wc_seq (fun K0 hK => ?_)
  refine wc_region ?_
  refine WL.val (OV.assign rfl) rfl rfl rfl ?_
  refine WL.nil ?_
  refine KX.go (hK [(0, st text)] _ ?_) ⟨rfl, trivial⟩
  refine wc_seq (fun K0_1' hK_1' => ?_)
  refine wc_seq (fun K0_2' hK_2' => ?_)
  refine wc_region ?_
  refine WL.call (A := []) tf_ent_9 rfl (speaks_does) rfl trivial rfl rfl ?_
  refine WL.val (OV.not rfl) rfl rfl rfl ?_
  refine WL.nil ?_
  refine KX.go (hK_2' [(0, st text), (14, Value.bool false)] _ ?_) ⟨rfl, rfl, trivial⟩
  refine wc_condF rfl ?_
  refine wc_skip ?_
  refine KX.go (hK_1' [(0, st text)] _ ?_) ⟨rfl, trivial⟩
  refine wc_seq (fun K0_3' hK_3' => ?_)
  refine wc_region ?_
  refine WL.val (OV.move rfl) rfl rfl rfl ?_
  refine WL.callS tf_ent_10 rfl (refscan_does text) rfl trivial rfl rfl (fun r H' hS => ?_) (fun c H' hS => ?_)
  · obtain ⟨w, ho⟩ := hS
    cases ho
    refine WL.val (OV.move rfl) rfl rfl rfl ?_
    refine WL.val (OV.extract 0 rfl rfl) rfl rfl rfl ?_
    refine WL.val (OV.extract 1 rfl rfl) rfl rfl rfl ?_
    refine WL.val (OV.extract 2 rfl rfl) rfl rfl rfl ?_
    refine WL.val (OV.assign rfl) rfl rfl rfl ?_
    refine WL.val (OV.assign rfl) rfl rfl rfl ?_
    refine WL.val (OV.assign rfl) rfl rfl rfl ?_
    refine WL.nil ?_
    refine KX.go (hK_3' [(0, st text), (3, w), (4, Value.int .i64 ((scanR text).2.1)), (5, Value.int .i64 ((scanR text).2.2))] _ ?_) ⟨rfl, rfl, rfl, rfl, trivial⟩
    refine wc_seq (fun K0_4' hK_4' => ?_)
    refine wc_region ?_
    refine WL.val (OV.move rfl) rfl rfl rfl ?_
    refine WL.callS tf_ent_11 rfl (scan_does text) rfl trivial rfl rfl (fun r H' hS => ?_) (fun c H' hS => ?_)
    · obtain ⟨w_1', ho⟩ := hS
      cases ho
      refine WL.val (OV.move rfl) rfl rfl rfl ?_
      refine WL.val (OV.extract 0 rfl rfl) rfl rfl rfl ?_
      refine WL.val (OV.extract 1 rfl rfl) rfl rfl rfl ?_
      refine WL.make (MV.alloc tf_zero_29) rfl rfl rfl (fun b => ?_)
      refine WL.val (OV.assign rfl) rfl rfl rfl ?_
      refine WL.storeW (vs := [Value.int .i64 ((scanR text).2.1), Value.int .i64 ((scanR text).2.2), st []]) 0 rfl rfl rfl rfl rfl tf_size_29 rfl rfl rfl ?_
      refine WL.nil ?_
      refine KX.go (hK_4' [(0, st text), (3, w), (4, Value.int .i64 ((scanR text).2.1)), (5, Value.int .i64 ((scanR text).2.2)), (6, w_1'), (7, Value.pointer (some ⟨b, 0, none⟩))] _ ?_) ⟨rfl, rfl, rfl, rfl, rfl, rfl, trivial⟩
      refine wc_seq (fun K0_5' hK_5' => ?_)
      refine wc_region ?_
      refine WL.val (OV.move rfl) rfl rfl rfl ?_
      refine WL.callS tf_ent_11 rfl (scan_does text) rfl trivial rfl rfl (fun r H' hS => ?_) (fun c H' hS => ?_)
      · obtain ⟨w_2', ho⟩ := hS
        cases ho
        refine WL.val (OV.move rfl) rfl rfl rfl ?_
        refine WL.val (OV.extract 0 rfl rfl) rfl rfl rfl ?_
        refine WL.val (OV.extract 1 rfl rfl) rfl rfl rfl ?_
        refine WL.make (MV.alloc tf_zero_29) rfl rfl rfl (fun b_1' => ?_)
        refine WL.val (OV.assign rfl) rfl rfl rfl ?_
        refine WL.storeW (vs := [Value.int .i64 ((scanR text).2.1), Value.int .i64 ((scanR text).2.2), st []]) 0 rfl rfl rfl rfl rfl tf_size_29 rfl rfl rfl ?_
        refine WL.nil ?_
        refine KX.go (hK_5' [(0, st text), (3, w), (4, Value.int .i64 ((scanR text).2.1)), (5, Value.int .i64 ((scanR text).2.2)), (6, w_1'), (7, Value.pointer (some ⟨b, 0, none⟩)), (8, w_2'), (9, Value.pointer (some ⟨b_1', 0, none⟩))] _ ?_) ⟨rfl, rfl, rfl, rfl, rfl, rfl, rfl, rfl, trivial⟩
        refine wc_seq (fun K0_6' hK_6' => ?_)
        refine wc_seq (fun K0_7' hK_7' => ?_)
        refine wc_region ?_
        refine WL.val (OV.loadR rfl (At.own 2 rfl) tf_row_29) rfl rfl rfl ?_
        refine WL.val (OV.move rfl) rfl rfl rfl ?_
        refine WL.val (OV.move rfl) rfl rfl rfl ?_
        refine WL.val (OV.build rfl (cs := [Value.int .i64 ((scanR text).2.1), Value.int .i64 ((scanR text).2.2), st []]) rfl) rfl rfl rfl ?_
        refine WL.val (OV.neqF (rs := [decide ((scanR text).2.1 = (scanR text).2.1), decide ((scanR text).2.2 = (scanR text).2.2), decide (([] : List UInt8) = [])]) rfl rfl Try.underlying29 tf_stood_29 tf_eqg_29 ⟨rfl, tf_scal_27, ⟨_, _, rfl, rfl, ScalEq.int Try.underlying27⟩, ⟨rfl, tf_scal_3, ⟨_, _, rfl, rfl, ScalEq.int Try.underlying3⟩, ⟨rfl, tf_scal_9, ⟨_, _, rfl, rfl, ScalEq.str Try.underlying9⟩, trivial⟩⟩⟩) rfl rfl rfl ?_
        refine WL.val (OV.move rfl) rfl rfl rfl ?_
        refine WL.cut 4 [(0, st text), (3, w), (6, w_1'), (8, w_2'), (40, Value.bool ((!andAll [decide ((scanR text).2.1 = (scanR text).2.1), decide ((scanR text).2.2 = (scanR text).2.2), decide (([] : List UInt8) = [])]) || (!andAll [decide ((scanR text).2.1 = (scanR text).2.1), decide ((scanR text).2.2 = (scanR text).2.2), decide (([] : List UInt8) = [])])))] ?_ (fun K0_8' hK_8' => ?_)
        rotate_left
        · refine WL.split (!andAll [decide ((scanR text).2.1 = (scanR text).2.1), decide ((scanR text).2.2 = (scanR text).2.2), decide (([] : List UInt8) = [])]) (fun hb => ?_) (fun hb => ?_)
          · refine WL.set 36 rfl (congrArg Value.bool hb) ?_
            refine WL.skip rfl rfl rfl ?_
            refine WL.skip rfl rfl rfl ?_
            refine WL.skip rfl rfl rfl ?_
            refine WL.val (OV.pickT rfl rfl) rfl rfl rfl ?_
            refine WL.set 40 rfl (oT (v := !andAll [decide ((scanR text).2.1 = (scanR text).2.1), decide ((scanR text).2.2 = (scanR text).2.2), decide (([] : List UInt8) = [])]) hb) ?_
            exact WL.end_ (KX.go hK_8' ⟨rfl, rfl, rfl, rfl, rfl, trivial⟩)
          · refine WL.set 36 rfl (congrArg Value.bool hb) ?_
            refine WL.val (OV.loadR rfl (At.own 2 rfl) tf_row_29) rfl rfl rfl ?_
            refine WL.val (OV.loadR rfl (At.own 0 rfl) tf_row_29) rfl rfl rfl ?_
            refine WL.val (OV.neqF (rs := [decide ((scanR text).2.1 = (scanR text).2.1), decide ((scanR text).2.2 = (scanR text).2.2), decide (([] : List UInt8) = [])]) rfl rfl Try.underlying29 tf_stood_29 tf_eqg_29 ⟨rfl, tf_scal_27, ⟨_, _, rfl, rfl, ScalEq.int Try.underlying27⟩, ⟨rfl, tf_scal_3, ⟨_, _, rfl, rfl, ScalEq.int Try.underlying3⟩, ⟨rfl, tf_scal_9, ⟨_, _, rfl, rfl, ScalEq.str Try.underlying9⟩, trivial⟩⟩⟩) rfl rfl rfl ?_
            refine WL.val (OV.pickF rfl rfl) rfl rfl rfl ?_
            refine WL.set 40 rfl (oF (v := !andAll [decide ((scanR text).2.1 = (scanR text).2.1), decide ((scanR text).2.2 = (scanR text).2.2), decide (([] : List UInt8) = [])]) hb) ?_
            exact WL.end_ (KX.go hK_8' ⟨rfl, rfl, rfl, rfl, rfl, trivial⟩)
        refine WL.val (OV.move rfl) rfl rfl rfl ?_
        obtain ⟨o_2', h⟩ := h
        refine WL.cut 5 [(0, st text), (3, w), (6, w_1'), (8, w_2'), (46, Value.bool (((!andAll [decide ((scanR text).2.1 = (scanR text).2.1), decide ((scanR text).2.2 = (scanR text).2.2), decide (([] : List UInt8) = [])]) || (!andAll [decide ((scanR text).2.1 = (scanR text).2.1), decide ((scanR text).2.2 = (scanR text).2.2), decide (([] : List UInt8) = [])])) || (!(decide (((scanR text).1) = ((scanR text).1))))))] ?_ (fun K0_9' hK_9' => ?_)
        rotate_left
        · refine WL.split ((!andAll [decide ((scanR text).2.1 = (scanR text).2.1), decide ((scanR text).2.2 = (scanR text).2.2), decide (([] : List UInt8) = [])]) || (!andAll [decide ((scanR text).2.1 = (scanR text).2.1), decide ((scanR text).2.2 = (scanR text).2.2), decide (([] : List UInt8) = [])])) (fun hb => ?_) (fun hb => ?_)
          · refine WL.set 41 rfl (congrArg Value.bool hb) ?_
            refine WL.skip rfl rfl rfl ?_
            refine WL.skip rfl rfl rfl ?_
            refine WL.skip rfl rfl rfl ?_
            refine WL.skip rfl rfl rfl ?_
            refine WL.val (OV.pickT rfl rfl) rfl rfl rfl ?_
            refine WL.set 46 rfl (oT (v := !(decide (((scanR text).1) = ((scanR text).1)))) hb) ?_
            exact WL.end_ (KX.go hK_9' ⟨rfl, rfl, rfl, rfl, rfl, trivial⟩)
          · have o_1' := o_2' hb
            refine WL.set 41 rfl (congrArg Value.bool hb) ?_
            refine WL.val (OV.move rfl) rfl rfl rfl ?_
            refine WL.val (OV.move rfl) rfl rfl rfl ?_
            refine WL.pick (H' := [HA.row w_1' 34 3 ((scanR text).1).length (((scanR text).1).flatMap tokC), HA.row w 40 3 ((scanR text).1).length (((scanR text).1).flatMap tokC), HA.blk b_1' (.cells [Value.int .i64 ((scanR text).2.1), Value.int .i64 ((scanR text).2.2), st []].toArray 29 (0, 0)), HA.row w_2' 34 3 ((scanR text).1).length (((scanR text).1).flatMap tokC), HA.blk b (.cells [Value.int .i64 ((scanR text).2.1), Value.int .i64 ((scanR text).2.2), st []].toArray 29 (0, 0))]) [3, 4, 0, 1, 2] rfl rfl ?_
            refine WL.call tf_ent_12 rfl (same_does w_1' w ((scanR text).1) ((scanR text).1) o_1') rfl trivial rfl rfl ?_
            refine WL.val (OV.not rfl) rfl rfl rfl ?_
            refine WL.val (OV.pickF rfl rfl) rfl rfl rfl ?_
            refine WL.set 46 rfl (oF (v := !(decide (((scanR text).1) = ((scanR text).1)))) hb) ?_
            exact WL.end_ (KX.goH hK_9' ⟨rfl, rfl, rfl, rfl, rfl, trivial⟩ [2, 3, 4, 0, 1] rfl rfl)
        refine WL.val (OV.move rfl) rfl rfl rfl ?_
        obtain ⟨o_4', h⟩ := h
        refine WL.cut 5 [(0, st text), (3, w), (6, w_1'), (8, w_2'), (52, Value.bool ((((!andAll [decide ((scanR text).2.1 = (scanR text).2.1), decide ((scanR text).2.2 = (scanR text).2.2), decide (([] : List UInt8) = [])]) || (!andAll [decide ((scanR text).2.1 = (scanR text).2.1), decide ((scanR text).2.2 = (scanR text).2.2), decide (([] : List UInt8) = [])])) || (!(decide (((scanR text).1) = ((scanR text).1))))) || (!(decide (((scanR text).1) = ((scanR text).1))))))] ?_ (fun K0_10' hK_10' => ?_)
        rotate_left
        · refine WL.split (((!andAll [decide ((scanR text).2.1 = (scanR text).2.1), decide ((scanR text).2.2 = (scanR text).2.2), decide (([] : List UInt8) = [])]) || (!andAll [decide ((scanR text).2.1 = (scanR text).2.1), decide ((scanR text).2.2 = (scanR text).2.2), decide (([] : List UInt8) = [])])) || (!(decide (((scanR text).1) = ((scanR text).1))))) (fun hb => ?_) (fun hb => ?_)
          · refine WL.set 47 rfl (congrArg Value.bool hb) ?_
            refine WL.skip rfl rfl rfl ?_
            refine WL.skip rfl rfl rfl ?_
            refine WL.skip rfl rfl rfl ?_
            refine WL.skip rfl rfl rfl ?_
            refine WL.val (OV.pickT rfl rfl) rfl rfl rfl ?_
            refine WL.set 52 rfl (oT (v := !(decide (((scanR text).1) = ((scanR text).1)))) hb) ?_
            exact WL.end_ (KX.go hK_10' ⟨rfl, rfl, rfl, rfl, rfl, trivial⟩)
          · have o_3' := o_4' hb
            refine WL.set 47 rfl (congrArg Value.bool hb) ?_
            refine WL.val (OV.move rfl) rfl rfl rfl ?_
            refine WL.val (OV.move rfl) rfl rfl rfl ?_
            refine WL.pick (H' := [HA.row w_2' 34 3 ((scanR text).1).length (((scanR text).1).flatMap tokC), HA.row w 40 3 ((scanR text).1).length (((scanR text).1).flatMap tokC), HA.blk b_1' (.cells [Value.int .i64 ((scanR text).2.1), Value.int .i64 ((scanR text).2.2), st []].toArray 29 (0, 0)), HA.blk b (.cells [Value.int .i64 ((scanR text).2.1), Value.int .i64 ((scanR text).2.2), st []].toArray 29 (0, 0)), HA.row w_1' 34 3 ((scanR text).1).length (((scanR text).1).flatMap tokC)]) [1, 4, 0, 2, 3] rfl rfl ?_
            refine WL.call tf_ent_12 rfl (same_does w_2' w ((scanR text).1) ((scanR text).1) o_3') rfl trivial rfl rfl ?_
            refine WL.val (OV.not rfl) rfl rfl rfl ?_
            refine WL.val (OV.pickF rfl rfl) rfl rfl rfl ?_
            refine WL.set 52 rfl (oF (v := !(decide (((scanR text).1) = ((scanR text).1)))) hb) ?_
            exact WL.end_ (KX.goH hK_10' ⟨rfl, rfl, rfl, rfl, rfl, trivial⟩ [2, 0, 3, 4, 1] rfl rfl)
        refine WL.nil ?_
        refine KX.go (hK_7' [(0, st text), (3, w), (6, w_1'), (8, w_2'), (52, Value.bool ((((!andAll [decide ((scanR text).2.1 = (scanR text).2.1), decide ((scanR text).2.2 = (scanR text).2.2), decide (([] : List UInt8) = [])]) || (!andAll [decide ((scanR text).2.1 = (scanR text).2.1), decide ((scanR text).2.2 = (scanR text).2.2), decide (([] : List UInt8) = [])])) || (!(decide (((scanR text).1) = ((scanR text).1))))) || (!(decide (((scanR text).1) = ((scanR text).1))))))] _ ?_) ⟨rfl, rfl, rfl, rfl, rfl, trivial⟩
        refine wc_cond (b := (((!andAll [decide ((scanR text).2.1 = (scanR text).2.1), decide ((scanR text).2.2 = (scanR text).2.2), decide (([] : List UInt8) = [])]) || (!andAll [decide ((scanR text).2.1 = (scanR text).2.1), decide ((scanR text).2.2 = (scanR text).2.2), decide (([] : List UInt8) = [])])) || (!(decide (((scanR text).1) = ((scanR text).1))))) || (!(decide (((scanR text).1) = ((scanR text).1))))) rfl (fun hb => ?_) (fun hb => ?_)
        · replace h := if_T h hb
          refine wc_seq (fun K0_11' hK_11' => ?_)
          refine wc_region ?_
          refine WL.val (OV.assign rfl) rfl rfl rfl ?_
          refine WL.nil ?_
          refine KX.go (hK_11' [(2, Value.bool false)] _ ?_) ⟨rfl, trivial⟩
          refine wc_ret ?_
          exact hE.ret [] rfl rfl (.inl ⟨_, h, rfl⟩) (ResV.of1 rfl (RV.tmp rfl))
        · replace h := if_F h hb
          refine wc_skip ?_
          refine KX.go (hK_6' [(0, st text), (3, w), (6, w_1'), (8, w_2')] _ ?_) ⟨rfl, rfl, rfl, rfl, trivial⟩
          refine wc_seq (fun K0_12' hK_12' => ?_)
          refine wc_seq (fun K0_13' hK_13' => ?_)
          refine wc_region ?_
          refine WL.val (OV.assign rfl) rfl rfl rfl ?_
          refine WL.nil ?_
          refine KX.go (hK_13' [(0, st text), (3, w), (6, w_1'), (8, w_2'), (10, Value.int .i64 0)] _ ?_) ⟨rfl, rfl, rfl, rfl, rfl, trivial⟩
          refine wc_block ?_
          refine WC.pick (H' := [HA.row w_2' 34 3 ((scanR text).1).length (((scanR text).1).flatMap tokC), HA.row w_1' 34 3 ((scanR text).1).length (((scanR text).1).flatMap tokC), HA.row w 40 3 ((scanR text).1).length (((scanR text).1).flatMap tokC)]) [1, 3, 4] rfl rfl ?_
          obtain ⟨Inv, mu, h0, hr⟩ := h
          refine wc_loop (S := Int × (List Tok)) (fun σ => Inv σ.1 σ.2) (fun σ => mu σ.1 σ.2) (fun σ => [(0, st text), (3, w), (6, w_1'), (8, w_2'), (10, Value.int .i64 σ.1)]) (fun σ => [HA.row w_2' 34 3 ((scanR text).1).length (((scanR text).1).flatMap tokC), HA.row w_1' 34 3 σ.2.length (σ.2.flatMap tokC), HA.row w 40 3 ((scanR text).1).length (((scanR text).1).flatMap tokC)]) (0, (scanR text).1) h0 ⟨rfl, rfl, rfl, rfl, rfl, trivial⟩ rfl ?_
          rintro ⟨i_1', l_1'⟩ hi K0_20' hK_20'
          have h := hr i_1' l_1' hi
          show WC _ _ _ _ [(0, st text), (3, w), (6, w_1'), (8, w_2'), (10, Value.int .i64 i_1')] [HA.row w_2' 34 3 ((scanR text).1).length (((scanR text).1).flatMap tokC), HA.row w_1' 34 3 l_1'.length (l_1'.flatMap tokC), HA.row w 40 3 ((scanR text).1).length (((scanR text).1).flatMap tokC)]
          refine wc_seq (fun K0_21' hK_21' => ?_)
          refine wc_seq (fun K0_22' hK_22' => ?_)
          refine wc_region ?_
          refine WL.val (OV.move rfl) rfl rfl rfl ?_
          refine WL.val (OV.move rfl) rfl rfl rfl ?_
          refine WL.val (OV.lenRow 1 rfl rfl tf_sl_26) rfl rfl rfl ?_
          refine WL.val (OV.lss rfl rfl) rfl rfl rfl ?_
          refine WL.nil ?_
          refine KX.go (hK_22' [(0, st text), (3, w), (6, w_1'), (8, w_2'), (10, Value.int .i64 i_1'), (56, Value.bool (decide (i_1' < (l_1'.length : Int))))] _ ?_) ⟨rfl, rfl, rfl, rfl, rfl, rfl, trivial⟩
          refine wc_cond (b := decide (i_1' < (l_1'.length : Int))) rfl (fun hb => ?_) (fun hb => ?_)
          · replace h := if_T h hb
            refine wc_skip ?_
            refine KX.go (hK_21' [(0, st text), (3, w), (6, w_1'), (8, w_2'), (10, Value.int .i64 i_1')] _ ?_) ⟨rfl, rfl, rfl, rfl, rfl, trivial⟩
            refine wc_seq (fun K0_23' hK_23' => ?_)
            refine wc_block ?_
            refine wc_region ?_
            refine WL.val (OV.move rfl) rfl rfl rfl ?_
            refine WL.val (OV.move rfl) rfl rfl rfl ?_
            refine WL.val (OV.move rfl) rfl rfl rfl ?_
            obtain ⟨o_10', h⟩ := h
            refine WL.val (OV.neg rfl o_10') rfl rfl rfl ?_
            refine WL.val (OV.build rfl (cs := [Value.int .i64 9, Value.int .i64 (-i_1'), st ([115, 112, 111, 105, 108, 116] : List UInt8)]) rfl) rfl rfl rfl ?_
            obtain ⟨o_11', h⟩ := h
            refine WL.val (OV.indexRow 1 rfl rfl rfl tf_sl_26 o_11') rfl rfl rfl ?_
            refine WL.storeE (f := tokC) (z := (9, -i_1', ([115, 112, 111, 105, 108, 116] : List UInt8))) 1 rfl rfl rfl tokC_len (by decide) (by omega) rfl tf_size_34 rfl rfl ?_
            refine WL.nil ?_
            refine KX.go (hK_23' [(0, st text), (3, w), (6, w_1'), (8, w_2'), (10, Value.int .i64 i_1')] _ ?_) ⟨rfl, rfl, rfl, rfl, rfl, trivial⟩
            refine wc_region ?_
            refine WL.val (OV.move rfl) rfl rfl rfl ?_
            obtain ⟨o_12', h⟩ := h
            refine WL.val (OV.add rfl rfl o_12') rfl rfl rfl ?_
            refine WL.val (OV.assign rfl) rfl rfl rfl ?_
            refine WL.nil ?_
            exact KX.goH (hK_20' (i_1' + 1, l_1'.set ((i_1').toNat) (9, -i_1', ([115, 112, 111, 105, 108, 116] : List UInt8))) h.1 h.2) ⟨rfl, rfl, rfl, rfl, rfl, trivial⟩ [0, 1, 2] rfl rfl
          · replace h := if_F h hb
            refine wc_exit ?_
            refine KX.go (hK_12' [(0, st text), (3, w), (8, w_2')] _ ?_) ⟨rfl, rfl, rfl, trivial⟩
            refine wc_seq (fun K0_24' hK_24' => ?_)
            refine wc_region ?_
            refine WL.val (OV.move rfl) rfl rfl rfl ?_
            refine WL.callS tf_ent_11 rfl (scan_does text) rfl trivial rfl rfl (fun r H' hS => ?_) (fun c H' hS => ?_)
            · obtain ⟨w_3', ho⟩ := hS
              cases ho
              refine WL.val (OV.move rfl) rfl rfl rfl ?_
              refine WL.val (OV.extract 0 rfl rfl) rfl rfl rfl ?_
              refine WL.val (OV.extract 1 rfl rfl) rfl rfl rfl ?_
              refine WL.make (MV.alloc tf_zero_29) rfl rfl rfl (fun b_2' => ?_)
              refine WL.val (OV.assign rfl) rfl rfl rfl ?_
              refine WL.storeW (vs := [Value.int .i64 ((scanR text).2.1), Value.int .i64 ((scanR text).2.2), st []]) 0 rfl rfl rfl rfl rfl tf_size_29 rfl rfl rfl ?_
              refine WL.nil ?_
              refine KX.go (hK_24' [(3, w), (8, w_2'), (11, w_3')] _ ?_) ⟨rfl, rfl, rfl, trivial⟩
              refine wc_seq (fun K0_25' hK_25' => ?_)
              refine wc_region ?_
              refine WL.val (OV.move rfl) rfl rfl rfl ?_
              refine WL.val (OV.move rfl) rfl rfl rfl ?_
              obtain ⟨o_13', h⟩ := h
              refine WL.pick (H' := [HA.row w_2' 34 3 ((scanR text).1).length (((scanR text).1).flatMap tokC), HA.row w 40 3 ((scanR text).1).length (((scanR text).1).flatMap tokC), HA.blk b_2' (.cells [Value.int .i64 ((scanR text).2.1), Value.int .i64 ((scanR text).2.2), st []].toArray 29 (0, 0)), HA.row w_3' 34 3 ((scanR text).1).length (((scanR text).1).flatMap tokC), HA.row w_1' 34 3 l_1'.length (l_1'.flatMap tokC)]) [2, 4, 0, 1, 3] rfl rfl ?_
              refine WL.call tf_ent_12 rfl (same_does w_2' w ((scanR text).1) ((scanR text).1) o_13') rfl trivial rfl rfl ?_
              refine WL.val (OV.move rfl) rfl rfl rfl ?_
              obtain ⟨o_15', h⟩ := h
              refine WL.cut 4 [(77, Value.bool ((decide (((scanR text).1) = ((scanR text).1))) && (decide (((scanR text).1) = ((scanR text).1)))))] ?_ (fun K0_26' hK_26' => ?_)
              rotate_left
              · refine WL.split (decide (((scanR text).1) = ((scanR text).1))) (fun hb => ?_) (fun hb => ?_)
                · have o_14' := o_15' hb
                  refine WL.set 73 rfl (congrArg Value.bool hb) ?_
                  refine WL.val (OV.move rfl) rfl rfl rfl ?_
                  refine WL.val (OV.move rfl) rfl rfl rfl ?_
                  refine WL.pick (H' := [HA.row w_3' 34 3 ((scanR text).1).length (((scanR text).1).flatMap tokC), HA.row w 40 3 ((scanR text).1).length (((scanR text).1).flatMap tokC), HA.row w_2' 34 3 ((scanR text).1).length (((scanR text).1).flatMap tokC), HA.blk b_2' (.cells [Value.int .i64 ((scanR text).2.1), Value.int .i64 ((scanR text).2.2), st []].toArray 29 (0, 0)), HA.row w_1' 34 3 l_1'.length (l_1'.flatMap tokC)]) [3, 1, 0, 2, 4] rfl rfl ?_
                  refine WL.call tf_ent_12 rfl (same_does w_3' w ((scanR text).1) ((scanR text).1) o_14') rfl trivial rfl rfl ?_
                  refine WL.val (OV.pickT rfl rfl) rfl rfl rfl ?_
                  refine WL.set 77 rfl (bT (v := decide (((scanR text).1) = ((scanR text).1))) hb) ?_
                  exact WL.end_ (KX.goH hK_26' ⟨rfl, trivial⟩ [2, 1, 3, 0, 4] rfl rfl)
                · refine WL.set 73 rfl (congrArg Value.bool hb) ?_
                  refine WL.skip rfl rfl rfl ?_
                  refine WL.skip rfl rfl rfl ?_
                  refine WL.skip rfl rfl rfl ?_
                  refine WL.val (OV.pickF rfl rfl) rfl rfl rfl ?_
                  refine WL.set 77 rfl (bF (v := decide (((scanR text).1) = ((scanR text).1))) hb) ?_
                  exact WL.end_ (KX.go hK_26' ⟨rfl, trivial⟩)
              refine WL.val (OV.assign rfl) rfl rfl rfl ?_
              refine WL.nil ?_
              refine KX.go (hK_25' [(2, Value.bool ((decide (((scanR text).1) = ((scanR text).1))) && (decide (((scanR text).1) = ((scanR text).1)))))] _ ?_) ⟨rfl, trivial⟩
              refine wc_ret ?_
              exact hE.ret [] rfl rfl (.inl ⟨_, h, rfl⟩) (ResV.of1 rfl (RV.tmp rfl))
            · obtain ⟨w_3', ho⟩ := hS
              cases ho
      · obtain ⟨w_2', ho⟩ := hS
        cases ho
    · obtain ⟨w_1', ho⟩ := hS
      cases ho
  · obtain ⟨w, ho⟩ := hS
    cases ho

theorem neg64 {i : Int} (h0 : 0 ≤ i) (h1 : i ≤ 9223372036854775807) : IntKind.wrap .i64 (-i) = -i := IntWalk.i64_in _ ⟨by omega, by omega⟩
theorem tokenScans_does (t : List UInt8) : Does Try.prog 3 [st t] [] [] (Ret (.bool true) []) := by
  refine (lscans_wp t (fun r => r = true) ?_).weak (by rintro o (⟨v, rfl, rfl⟩ | h) <;> first | rfl | exact h.elim)
  unfold lscans_vc
  have hl := scanR_len t
  have hm : (scanR t).1.length ≤ 9223372036854775807 := by omega
  refine ⟨fun _ => hm, fun _ => hm, ?_⟩
  rw [if_neg (by simp [andAll])]
  refine ⟨fun i l => 0 ≤ i ∧ l.length ≤ 4097, fun i l => (l.length - i).toNat, ⟨Int.le_refl _, hl⟩, fun i l h0 => ?_⟩
  by_cases hi : i < l.length
  · rw [if_pos (by simpa using hi)]
    refine ⟨neg64 h0.1 (by omega), ⟨h0.1, hi⟩, ⟨by omega, by omega⟩, ⟨by omega, by simpa using h0.2⟩, ?_⟩
    show ((l.set _ _).length - (i + 1)).toNat < (l.length - i).toNat
    rw [List.length_set]; omega
  · rw [if_neg (by simpa using hi)]
    exact ⟨hm, fun _ => hm, by simp⟩
theorem tokenScans_walk (t : ByteArray) : Pure Try.prog 3 #[.string t] (.bool true) := Does.pure (tokenScans_does t.data.toList)

end Go.Proofs.Ytiaafdjdppganaa
