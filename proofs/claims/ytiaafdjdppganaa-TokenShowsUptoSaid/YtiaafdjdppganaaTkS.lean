/-
  Blanks and comments, marks, digits.
-/
import Derived.Test.YtiaafdjdppganaaTkV
namespace Go.Proofs.Ytiaafdjdppganaa
open Go Go.RowKit

theorem tf_ent_24 : entB Try.prog 24 = true := by kernel_rfl
theorem tf_size_3 : sizeB Try.prog 3 1 = true := by kernel_rfl
theorem tf_ent_19 : entB Try.prog 19 = true := by kernel_rfl
theorem tf_some_5 : (Try.prog.underlying 5).isSome = true := by kernel_rfl

def skip_vc (s_0 : List UInt8) (s_1 : Int) (s_2 : Value) (s_3 : Int) (s_4 : Int) (s_5 : List UInt8) (K : (List UInt8) → Int → Value → Int → Int → (List UInt8) → Prop) : Prop :=
  ∃ (Inv_2' : Int → Prop) (mu_2' : Int → Nat),
    Inv_2' s_1 ∧ ∀ (s_1_6' : Int), Inv_2' s_1_6' →
      (if (!(decide (s_0.length ≤ s_1_6'))) = true then
        (0 ≤ s_1_6' ∧ s_1_6' < s_0.length) ∧
        (if (decide (((s_0.getD s_1_6'.toNat 0).toNat : Int) = 35)) = true then
          ∃ (Inv_3' : Int → Prop) (mu_3' : Int → Nat),
            Inv_3' s_1_6' ∧ ∀ (s_1_8' : Int), Inv_3' s_1_8' →
              ((!(decide (s_0.length ≤ s_1_8'))) = true → (0 ≤ s_1_8' ∧ s_1_8' < s_0.length)) ∧
              (if ((!(decide (s_0.length ≤ s_1_8'))) && (!decide (((s_0.getD s_1_8'.toNat 0).toNat : Int) = 10))) = true then
                (I64 (s_1_8' + 1)) ∧
                Inv_3' (s_1_8' + 1) ∧ mu_3' (s_1_8' + 1) < mu_3' s_1_8'
              else
                Inv_2' s_1_8' ∧ mu_2' s_1_8' < mu_2' s_1_6')
        else
          ∃ (J0_2' : Bool → Prop),
            (∀ (t38_2' : Bool), J0_2' t38_2' →
              (if t38_2' = true then
                (I64 (s_1_6' + 1)) ∧
                Inv_2' (s_1_6' + 1) ∧ mu_2' (s_1_6' + 1) < mu_2' s_1_6'
              else
                K s_0 s_1_6' s_2 s_3 s_4 s_5)) ∧
            (if (decide (((s_0.getD s_1_6'.toNat 0).toNat : Int) = 32)) = true then
              J0_2' (decide (((s_0.getD s_1_6'.toNat 0).toNat : Int) = 32))
            else
              (if (decide (((s_0.getD s_1_6'.toNat 0).toNat : Int) = 9)) = true then
                J0_2' (decide (((s_0.getD s_1_6'.toNat 0).toNat : Int) = 9))
              else
                (if (decide (((s_0.getD s_1_6'.toNat 0).toNat : Int) = 10)) = true then
                  J0_2' (decide (((s_0.getD s_1_6'.toNat 0).toNat : Int) = 10))
                else
                  J0_2' (decide (((s_0.getD s_1_6'.toNat 0).toNat : Int) = 13))))))
      else
        K s_0 s_1_6' s_2 s_3 s_4 s_5)
set_option maxRecDepth 100000 in
theorem skip_wp (b : Nat) (s_0 : List UInt8) (s_1 : Int) (s_2 : Value) (s_3 : Int) (s_4 : Int) (s_5 : List UInt8) (K : (List UInt8) → Int → Value → Int → Int → (List UInt8) → Prop) (h : skip_vc s_0 s_1 s_2 s_3 s_4 s_5 K) :
    Does Try.prog 23 [Value.pointer (some ⟨b, 0, none⟩)] [] [HA.blk b (.cells [st s_0, Value.int .i64 s_1, s_2, Value.int .i64 s_3, Value.int .i64 s_4, st s_5].toArray 50 (0, 0))] (fun o => (∃ (d_0 : List UInt8) (d_1 : Int) (d_2 : Value) (d_3 : Int) (d_4 : Int) (d_5 : List UInt8), K d_0 d_1 d_2 d_3 d_4 d_5 ∧ o = .ret (Value.tuple #[]) [HA.blk b (.cells [st d_0, Value.int .i64 d_1, d_2, Value.int .i64 d_3, Value.int .i64 d_4, st d_5].toArray 50 (0, 0))]) ∨ (False)) := by
  unfold skip_vc at h
  refine does_of_wc (n := 50) (L0 := [(0, Value.pointer (some ⟨b, 0, none⟩))]) Try.func23 rfl rfl rfl rfl (fun w0 M Q hE => ?_)
  refine wc_block ?_
  obtain ⟨Inv_2', mu_2', h0_2', hr_2'⟩ := h
  refine wc_loop (S := Int) (fun σ => Inv_2' σ) (fun σ => mu_2' σ) (fun σ => [(0, Value.pointer (some ⟨b, 0, none⟩))]) (fun σ => [HA.blk b (.cells [st s_0, Value.int .i64 σ, s_2, Value.int .i64 s_3, Value.int .i64 s_4, st s_5].toArray 50 (0, 0))]) s_1 h0_2' ⟨rfl, trivial⟩ rfl ?_
  rintro s_1_6' hi K0_42' hK_42'
  have h := hr_2' s_1_6' hi
  show WC _ _ _ _ [(0, Value.pointer (some ⟨b, 0, none⟩))] [HA.blk b (.cells [st s_0, Value.int .i64 s_1_6', s_2, Value.int .i64 s_3, Value.int .i64 s_4, st s_5].toArray 50 (0, 0))]
  refine wc_seq (fun K0_43' hK_43' => ?_)
  refine wc_seq (fun K0_44' hK_44' => ?_)
  refine wc_region ?_
  refine WL.val (OV.move rfl) rfl rfl rfl ?_
  refine WL.call (A := []) tf_ent_24 rfl (ended_does b s_0 s_1_6' s_2 s_3 s_4 s_5) rfl ⟨.inl ⟨0, rfl⟩, trivial⟩ rfl rfl ?_
  refine WL.val (OV.not rfl) rfl rfl rfl ?_
  refine WL.nil ?_
  refine KX.go (hK_44' [(0, Value.pointer (some ⟨b, 0, none⟩)), (4, Value.bool (!(decide (s_0.length ≤ s_1_6'))))] _ ?_) ⟨rfl, rfl, trivial⟩
  refine wc_cond (b := !(decide (s_0.length ≤ s_1_6'))) rfl (fun hb => ?_) (fun hb => ?_)
  · replace h := if_T h hb
    refine wc_skip ?_
    refine KX.go (hK_43' [(0, Value.pointer (some ⟨b, 0, none⟩))] _ ?_) ⟨rfl, trivial⟩
    refine wc_block ?_
    refine wc_seq (fun K0_45' hK_45' => ?_)
    refine wc_draw 8 [] tf_mixed (by kernel_rfl) rfl (fun T_8' hT_8' => ?_)
    refine FL.val (fun _ => OV.move rfl) rfl (fun _ => rfl) rfl rfl ?_
    refine FL.val (fun _ => OV.nilCheck rfl) rfl (fun _ => rfl) rfl rfl ?_
    refine FL.val (fun _ => OV.fieldAddr0 rfl tf_field_50_0) rfl (fun _ => rfl) rfl rfl ?_
    refine FL.val (fun _ => OV.load rfl (At.own 0 rfl) rfl tf_scal_9) rfl (fun _ => rfl) rfl rfl ?_
    refine FL.val (fun _ => OV.move rfl) rfl (fun _ => rfl) rfl rfl ?_
    refine FL.val (fun _ => OV.nilCheck rfl) rfl (fun _ => rfl) rfl rfl ?_
    refine FL.val (fun _ => OV.fieldAddr0 rfl tf_field_50_1) rfl (fun _ => rfl) rfl rfl ?_
    refine FL.val (fun _ => OV.load rfl (At.own 0 rfl) rfl tf_scal_3) rfl (fun _ => rfl) rfl rfl ?_
    refine FL.weak (L' := fun γ => [(0, Value.pointer (some ⟨b, 0, none⟩)), (8, st s_0), (12, Value.int .i64 s_1_6')]) (fun γ => ⟨rfl, rfl, rfl, trivial⟩) (FL.nil (hT_8' (fun γ => [(0, Value.pointer (some ⟨b, 0, none⟩)), (8, st s_0), (12, Value.int .i64 s_1_6')]) (fun γ => ?_)))
    obtain ⟨o_22', h⟩ := h
    refine WL.val (OV.index rfl rfl tf_str_9 o_22') rfl rfl rfl ?_
    refine WL.nil ?_
    refine KX.go (hK_45' [(0, Value.pointer (some ⟨b, 0, none⟩)), (13, Value.int .u8 ((s_0.getD s_1_6'.toNat 0).toNat : Int))] _ ?_) ⟨rfl, rfl, trivial⟩
    refine wc_block ?_
    refine wc_seq (fun K0_46' hK_46' => ?_)
    refine wc_region ?_
    refine WL.val (OV.eql rfl rfl) rfl rfl rfl ?_
    refine WL.val (OV.assign rfl) rfl rfl rfl ?_
    refine WL.nil ?_
    refine KX.go (hK_46' [(0, Value.pointer (some ⟨b, 0, none⟩)), (13, Value.int .u8 ((s_0.getD s_1_6'.toNat 0).toNat : Int)), (14, Value.bool (decide (((s_0.getD s_1_6'.toNat 0).toNat : Int) = 35)))] _ ?_) ⟨rfl, rfl, rfl, trivial⟩
    refine wc_cond (b := decide (((s_0.getD s_1_6'.toNat 0).toNat : Int) = 35)) rfl (fun hb => ?_) (fun hb => ?_)
    · replace h := if_T h hb
      refine wc_block ?_
      obtain ⟨Inv_3', mu_3', h0_3', hr_3'⟩ := h
      refine wc_loop (S := Int) (fun σ => Inv_3' σ) (fun σ => mu_3' σ) (fun σ => [(0, Value.pointer (some ⟨b, 0, none⟩))]) (fun σ => [HA.blk b (.cells [st s_0, Value.int .i64 σ, s_2, Value.int .i64 s_3, Value.int .i64 s_4, st s_5].toArray 50 (0, 0))]) s_1_6' h0_3' ⟨rfl, trivial⟩ rfl ?_
      rintro s_1_8' hi K0_53' hK_53'
      have h := hr_3' s_1_8' hi
      show WC _ _ _ _ [(0, Value.pointer (some ⟨b, 0, none⟩))] [HA.blk b (.cells [st s_0, Value.int .i64 s_1_8', s_2, Value.int .i64 s_3, Value.int .i64 s_4, st s_5].toArray 50 (0, 0))]
      refine wc_seq (fun K0_54' hK_54' => ?_)
      refine wc_seq (fun K0_55' hK_55' => ?_)
      refine wc_draw_all [] tf_mixed (by kernel_rfl) rfl (fun T_11' hT_11' => ?_)
      refine FL.val (fun _ => OV.move rfl) rfl (fun _ => rfl) rfl rfl ?_
      refine FL.call tf_ent_24 (fun _ => rfl) (ended_does b s_0 s_1_8' s_2 s_3 s_4 s_5) ⟨.inl ⟨0, rfl⟩, trivial⟩ rfl (fun _ => rfl) rfl ?_
      refine FL.val (fun _ => OV.not rfl) rfl (fun _ => rfl) rfl rfl ?_
      refine FL.val (fun _ => OV.move rfl) rfl (fun _ => rfl) rfl rfl ?_
      obtain ⟨o_30', h⟩ := h
      refine FL.cut 11 rfl (fun _ => [(0, Value.pointer (some ⟨b, 0, none⟩)), (30, Value.bool ((!(decide (s_0.length ≤ s_1_8'))) && (!decide (((s_0.getD s_1_8'.toNat 0).toNat : Int) = 10))))]) ?_ (fun K0_56' hK_56' => ?_)
      rotate_left
      · refine FL.split (!(decide (s_0.length ≤ s_1_8'))) (fun hb => ?_) (fun hb => ?_)
        · have o_29' := o_30' hb
          refine FL.set 19 (fun _ => rfl) (congrArg Value.bool hb) ?_
          refine FL.val (fun _ => OV.move rfl) rfl (fun _ => rfl) rfl rfl ?_
          refine FL.val (fun _ => OV.nilCheck rfl) rfl (fun _ => rfl) rfl rfl ?_
          refine FL.val (fun _ => OV.fieldAddr0 rfl tf_field_50_0) rfl (fun _ => rfl) rfl rfl ?_
          refine FL.val (fun _ => OV.load rfl (At.own 0 rfl) rfl tf_scal_9) rfl (fun _ => rfl) rfl rfl ?_
          refine FL.val (fun _ => OV.move rfl) rfl (fun _ => rfl) rfl rfl ?_
          refine FL.val (fun _ => OV.nilCheck rfl) rfl (fun _ => rfl) rfl rfl ?_
          refine FL.val (fun _ => OV.fieldAddr0 rfl tf_field_50_1) rfl (fun _ => rfl) rfl rfl ?_
          refine FL.val (fun _ => OV.load rfl (At.own 0 rfl) rfl tf_scal_3) rfl (fun _ => rfl) rfl rfl ?_
          refine FL.val (fun _ => OV.index rfl rfl tf_str_9 o_29') rfl (fun _ => rfl) rfl rfl ?_
          refine FL.val (fun _ => OV.neq rfl rfl) rfl (fun _ => rfl) rfl rfl ?_
          refine FL.val (fun _ => OV.pickT rfl rfl) rfl (fun _ => rfl) rfl rfl ?_
          refine FL.set 30 (fun _ => rfl) (bT (v := !decide (((s_0.getD s_1_8'.toNat 0).toNat : Int) = 10)) hb) ?_
          exact FL.weak (L' := fun _ => [(0, Value.pointer (some ⟨b, 0, none⟩)), (30, Value.bool ((!(decide (s_0.length ≤ s_1_8'))) && (!decide (((s_0.getD s_1_8'.toNat 0).toNat : Int) = 10))))]) (fun _ => ⟨rfl, rfl, trivial⟩) (FL.nil hK_56')
        · refine FL.set 19 (fun _ => rfl) (congrArg Value.bool hb) ?_
          refine FL.skip rfl (fun _ => rfl) rfl rfl ?_
          refine FL.skip rfl (fun _ => rfl) rfl rfl ?_
          refine FL.skip rfl (fun _ => rfl) rfl rfl ?_
          refine FL.skip rfl (fun _ => rfl) rfl rfl ?_
          refine FL.skip rfl (fun _ => rfl) rfl rfl ?_
          refine FL.skip rfl (fun _ => rfl) rfl rfl ?_
          refine FL.skip rfl (fun _ => rfl) rfl rfl ?_
          refine FL.skip rfl (fun _ => rfl) rfl rfl ?_
          refine FL.skip rfl (fun _ => rfl) rfl rfl ?_
          refine FL.skip rfl (fun _ => rfl) rfl rfl ?_
          refine FL.val (fun _ => OV.pickF rfl rfl) rfl (fun _ => rfl) rfl rfl ?_
          refine FL.set 30 (fun _ => rfl) (bF (v := !decide (((s_0.getD s_1_8'.toNat 0).toNat : Int) = 10)) hb) ?_
          exact FL.weak (L' := fun _ => [(0, Value.pointer (some ⟨b, 0, none⟩)), (30, Value.bool ((!(decide (s_0.length ≤ s_1_8'))) && (!decide (((s_0.getD s_1_8'.toNat 0).toNat : Int) = 10))))]) (fun _ => ⟨rfl, rfl, trivial⟩) (FL.nil hK_56')
      refine FL.weak (L' := fun _ => [(0, Value.pointer (some ⟨b, 0, none⟩)), (30, Value.bool ((!(decide (s_0.length ≤ s_1_8'))) && (!decide (((s_0.getD s_1_8'.toNat 0).toNat : Int) = 10))))]) (fun _ => ⟨rfl, rfl, trivial⟩) (FL.nil (hT_11' (fun _ => [(0, Value.pointer (some ⟨b, 0, none⟩)), (30, Value.bool ((!(decide (s_0.length ≤ s_1_8'))) && (!decide (((s_0.getD s_1_8'.toNat 0).toNat : Int) = 10))))]) (fun _ => ?_)))
      refine KX.go (hK_55' [(0, Value.pointer (some ⟨b, 0, none⟩)), (30, Value.bool ((!(decide (s_0.length ≤ s_1_8'))) && (!decide (((s_0.getD s_1_8'.toNat 0).toNat : Int) = 10))))] _ ?_) ⟨rfl, rfl, trivial⟩
      refine wc_cond (b := (!(decide (s_0.length ≤ s_1_8'))) && (!decide (((s_0.getD s_1_8'.toNat 0).toNat : Int) = 10))) rfl (fun hb => ?_) (fun hb => ?_)
      · replace h := if_T h hb
        refine wc_skip ?_
        refine KX.go (hK_54' [(0, Value.pointer (some ⟨b, 0, none⟩))] _ ?_) ⟨rfl, trivial⟩
        refine wc_block ?_
        refine wc_region ?_
        refine WL.val (OV.move rfl) rfl rfl rfl ?_
        refine WL.val (OV.nilCheck rfl) rfl rfl rfl ?_
        refine WL.val (OV.fieldAddr0 rfl tf_field_50_1) rfl rfl rfl ?_
        refine WL.val (OV.load rfl (At.own 0 rfl) rfl tf_scal_3) rfl rfl rfl ?_
        obtain ⟨o_31', h⟩ := h
        refine WL.val (OV.add rfl rfl o_31') rfl rfl rfl ?_
        refine WL.val (OV.nilCheck rfl) rfl rfl rfl ?_
        refine WL.val (OV.fieldAddr0 rfl tf_field_50_1) rfl rfl rfl ?_
        refine WL.store (vs := [Value.int .i64 (s_1_8' + 1)]) (cs' := [st s_0, Value.int .i64 (s_1_8' + 1), s_2, Value.int .i64 s_3, Value.int .i64 s_4, st s_5]) 0 rfl rfl rfl rfl tf_size_3 (Nat.le_of_ble_eq_true rfl) rfl rfl rfl ?_
        refine WL.nil ?_
        exact KX.goH (hK_53' (s_1_8' + 1) h.1 h.2) ⟨rfl, trivial⟩ [0] rfl rfl
      · replace h := if_F h hb
        refine wc_exit ?_
        exact KX.goH (hK_42' s_1_8' h.1 h.2) ⟨rfl, trivial⟩ [0] rfl rfl
    · replace h := if_F h hb
      obtain ⟨J0_2', hJ_2', h⟩ := h
      refine wc_seqJ (X := Bool) (fun σ => J0_2' σ) (fun σ => [(0, Value.pointer (some ⟨b, 0, none⟩)), (38, Value.bool σ)]) (fun σ => [HA.blk b (.cells [st s_0, Value.int .i64 s_1_6', s_2, Value.int .i64 s_3, Value.int .i64 s_4, st s_5].toArray 50 (0, 0))]) ?_ (fun K0_60' hK_60' => ?_)
      · rintro t38_2' hj
        replace h := hJ_2' t38_2' hj
        show WC _ _ _ _ [(0, Value.pointer (some ⟨b, 0, none⟩)), (38, Value.bool t38_2')] [HA.blk b (.cells [st s_0, Value.int .i64 s_1_6', s_2, Value.int .i64 s_3, Value.int .i64 s_4, st s_5].toArray 50 (0, 0))]
        refine wc_cond (b := t38_2') rfl (fun hb => ?_) (fun hb => ?_)
        · replace h := if_T h hb
          refine wc_region ?_
          refine WL.val (OV.move rfl) rfl rfl rfl ?_
          refine WL.val (OV.nilCheck rfl) rfl rfl rfl ?_
          refine WL.val (OV.fieldAddr0 rfl tf_field_50_1) rfl rfl rfl ?_
          refine WL.val (OV.load rfl (At.own 0 rfl) rfl tf_scal_3) rfl rfl rfl ?_
          obtain ⟨o_32', h⟩ := h
          refine WL.val (OV.add rfl rfl o_32') rfl rfl rfl ?_
          refine WL.val (OV.nilCheck rfl) rfl rfl rfl ?_
          refine WL.val (OV.fieldAddr0 rfl tf_field_50_1) rfl rfl rfl ?_
          refine WL.store (vs := [Value.int .i64 (s_1_6' + 1)]) (cs' := [st s_0, Value.int .i64 (s_1_6' + 1), s_2, Value.int .i64 s_3, Value.int .i64 s_4, st s_5]) 0 rfl rfl rfl rfl tf_size_3 (Nat.le_of_ble_eq_true rfl) rfl rfl rfl ?_
          refine WL.nil ?_
          exact KX.goH (hK_42' (s_1_6' + 1) h.1 h.2) ⟨rfl, trivial⟩ [0] rfl rfl
        · replace h := if_F h hb
          refine wc_ret ?_
          exact hE.ret [0] rfl rfl (.inl ⟨_, _, _, _, _, _, h, rfl⟩) (ResV.none rfl)
      · skip
        refine wc_seq (fun K0_61' hK_61' => ?_)
        refine wc_region ?_
        refine WL.val (OV.eql rfl rfl) rfl rfl rfl ?_
        refine WL.val (OV.assign rfl) rfl rfl rfl ?_
        refine WL.nil ?_
        refine KX.go (hK_61' [(0, Value.pointer (some ⟨b, 0, none⟩)), (13, Value.int .u8 ((s_0.getD s_1_6'.toNat 0).toNat : Int)), (38, Value.bool (decide (((s_0.getD s_1_6'.toNat 0).toNat : Int) = 32)))] _ ?_) ⟨rfl, rfl, rfl, trivial⟩
        refine wc_cond (b := decide (((s_0.getD s_1_6'.toNat 0).toNat : Int) = 32)) rfl (fun hb => ?_) (fun hb => ?_)
        · replace h := if_T h hb
          refine wc_skip ?_
          exact KX.goH (hK_60' (decide (((s_0.getD s_1_6'.toNat 0).toNat : Int) = 32)) h) ⟨rfl, rfl, trivial⟩ [0] rfl rfl
        · replace h := if_F h hb
          refine wc_seq (fun K0_62' hK_62' => ?_)
          refine wc_region ?_
          refine WL.val (OV.eql rfl rfl) rfl rfl rfl ?_
          refine WL.val (OV.assign rfl) rfl rfl rfl ?_
          refine WL.nil ?_
          refine KX.go (hK_62' [(0, Value.pointer (some ⟨b, 0, none⟩)), (13, Value.int .u8 ((s_0.getD s_1_6'.toNat 0).toNat : Int)), (38, Value.bool (decide (((s_0.getD s_1_6'.toNat 0).toNat : Int) = 9)))] _ ?_) ⟨rfl, rfl, rfl, trivial⟩
          refine wc_cond (b := decide (((s_0.getD s_1_6'.toNat 0).toNat : Int) = 9)) rfl (fun hb => ?_) (fun hb => ?_)
          · replace h := if_T h hb
            refine wc_skip ?_
            exact KX.goH (hK_60' (decide (((s_0.getD s_1_6'.toNat 0).toNat : Int) = 9)) h) ⟨rfl, rfl, trivial⟩ [0] rfl rfl
          · replace h := if_F h hb
            refine wc_seq (fun K0_63' hK_63' => ?_)
            refine wc_region ?_
            refine WL.val (OV.eql rfl rfl) rfl rfl rfl ?_
            refine WL.val (OV.assign rfl) rfl rfl rfl ?_
            refine WL.nil ?_
            refine KX.go (hK_63' [(0, Value.pointer (some ⟨b, 0, none⟩)), (13, Value.int .u8 ((s_0.getD s_1_6'.toNat 0).toNat : Int)), (38, Value.bool (decide (((s_0.getD s_1_6'.toNat 0).toNat : Int) = 10)))] _ ?_) ⟨rfl, rfl, rfl, trivial⟩
            refine wc_cond (b := decide (((s_0.getD s_1_6'.toNat 0).toNat : Int) = 10)) rfl (fun hb => ?_) (fun hb => ?_)
            · replace h := if_T h hb
              refine wc_skip ?_
              exact KX.goH (hK_60' (decide (((s_0.getD s_1_6'.toNat 0).toNat : Int) = 10)) h) ⟨rfl, rfl, trivial⟩ [0] rfl rfl
            · replace h := if_F h hb
              refine wc_region ?_
              refine WL.val (OV.eql rfl rfl) rfl rfl rfl ?_
              refine WL.val (OV.assign rfl) rfl rfl rfl ?_
              refine WL.nil ?_
              exact KX.goH (hK_60' (decide (((s_0.getD s_1_6'.toNat 0).toNat : Int) = 13)) h) ⟨rfl, rfl, trivial⟩ [0] rfl rfl
  · replace h := if_F h hb
    refine wc_exit ?_
    exact hE.norm [0] rfl rfl (.inl ⟨_, _, _, _, _, _, h, rfl⟩) (ResV.none rfl)

def refgap_vc (s : List UInt8) (i : Int) (K : Int → Prop) : Prop :=
  ∃ (Inv : Int → Bool → Prop) (mu : Int → Bool → Nat),
    Inv i false ∧ ∀ (i_2' : Int) (comment_5' : Bool), Inv i_2' comment_5' →
      (if (decide (i_2' < (s.length : Int))) = true then
        (0 ≤ i_2' ∧ i_2' < s.length) ∧
        ∃ (J0_4' : Bool → Prop),
          (∀ (comment_6' : Bool), J0_4' comment_6' →
            ∃ (J0_5' : Bool → Prop),
              (∀ (comment_7' : Bool), J0_5' comment_7' →
                (if (((((!comment_7') && (!decide (((s.getD i_2'.toNat 0).toNat : Int) = 32))) && (!decide (((s.getD i_2'.toNat 0).toNat : Int) = 9))) && (!decide (((s.getD i_2'.toNat 0).toNat : Int) = 10))) && (!decide (((s.getD i_2'.toNat 0).toNat : Int) = 13))) = true then
                  K i_2'
                else
                  (I64 (i_2' + 1)) ∧
                  Inv (i_2' + 1) comment_7' ∧ mu (i_2' + 1) comment_7' < mu i_2' comment_5')) ∧
              (if (decide (((s.getD i_2'.toNat 0).toNat : Int) = 10)) = true then
                J0_5' false
              else
                J0_5' comment_6')) ∧
          (if (decide (((s.getD i_2'.toNat 0).toNat : Int) = 35)) = true then
            J0_4' true
          else
            J0_4' comment_5')
      else
        K i_2')
set_option maxRecDepth 100000 in
theorem refgap_wp  (s : List UInt8) (i : Int) (K : Int → Prop) (h : refgap_vc s i K) :
    Does Try.prog 17 [st s, Value.int .i64 i] [] [] (fun o => (∃ (v : Int), K v ∧ o = .ret (Value.int .i64 v) []) ∨ (False)) := by
  unfold refgap_vc at h
  refine does_of_wc (n := 40) (L0 := [(0, st s), (1, Value.int .i64 i)]) Try.func17 rfl rfl rfl rfl (fun w0 M Q hE => ?_)
  refine wc_seq (fun K0 hK => ?_)
  refine wc_region ?_
  refine WL.val (OV.assign rfl) rfl rfl rfl ?_
  refine WL.nil ?_
  refine KX.go (hK [(0, st s), (1, Value.int .i64 i)] _ ?_) ⟨rfl, rfl, trivial⟩
  refine wc_seq (fun K0_1' hK_1' => ?_)
  refine wc_region ?_
  refine WL.val (OV.assign rfl) rfl rfl rfl ?_
  refine WL.nil ?_
  refine KX.go (hK_1' [(0, st s), (1, Value.int .i64 i), (5, Value.bool false)] _ ?_) ⟨rfl, rfl, rfl, trivial⟩
  refine wc_seq (fun K0_2' hK_2' => ?_)
  refine wc_block ?_
  obtain ⟨Inv, mu, h0, hr⟩ := h
  refine wc_loop (S := Int × Bool) (fun σ => Inv σ.1 σ.2) (fun σ => mu σ.1 σ.2) (fun σ => [(0, st s), (1, Value.int .i64 σ.1), (5, Value.bool σ.2)]) (fun σ => []) (i, false) h0 ⟨rfl, rfl, rfl, trivial⟩ rfl ?_
  rintro ⟨i_2', comment_5'⟩ hi K0_35' hK_35'
  have h := hr i_2' comment_5' hi
  show WC _ _ _ _ [(0, st s), (1, Value.int .i64 i_2'), (5, Value.bool comment_5')] []
  refine wc_seq (fun K0_36' hK_36' => ?_)
  refine wc_seq (fun K0_37' hK_37' => ?_)
  refine wc_region ?_
  refine WL.val (OV.move rfl) rfl rfl rfl ?_
  refine WL.val (OV.move rfl) rfl rfl rfl ?_
  refine WL.val (OV.len rfl tf_str_9) rfl rfl rfl ?_
  refine WL.val (OV.lss rfl rfl) rfl rfl rfl ?_
  refine WL.nil ?_
  refine KX.go (hK_37' [(0, st s), (1, Value.int .i64 i_2'), (5, Value.bool comment_5'), (10, Value.bool (decide (i_2' < (s.length : Int))))] _ ?_) ⟨rfl, rfl, rfl, rfl, trivial⟩
  refine wc_cond (b := decide (i_2' < (s.length : Int))) rfl (fun hb => ?_) (fun hb => ?_)
  · replace h := if_T h hb
    refine wc_skip ?_
    refine KX.go (hK_36' [(0, st s), (1, Value.int .i64 i_2'), (5, Value.bool comment_5')] _ ?_) ⟨rfl, rfl, rfl, trivial⟩
    refine wc_block ?_
    refine wc_seq (fun K0_38' hK_38' => ?_)
    refine wc_region ?_
    refine WL.val (OV.move rfl) rfl rfl rfl ?_
    refine WL.val (OV.move rfl) rfl rfl rfl ?_
    obtain ⟨o_12', h⟩ := h
    refine WL.val (OV.index rfl rfl tf_str_9 o_12') rfl rfl rfl ?_
    refine WL.val (OV.assign rfl) rfl rfl rfl ?_
    refine WL.nil ?_
    refine KX.go (hK_38' [(0, st s), (1, Value.int .i64 i_2'), (5, Value.bool comment_5'), (6, Value.int .u8 ((s.getD i_2'.toNat 0).toNat : Int))] _ ?_) ⟨rfl, rfl, rfl, rfl, trivial⟩
    obtain ⟨J0_4', hJ_4', h⟩ := h
    refine wc_seqJ (X := Bool) (fun σ => J0_4' σ) (fun σ => [(0, st s), (1, Value.int .i64 i_2'), (5, Value.bool σ), (6, Value.int .u8 ((s.getD i_2'.toNat 0).toNat : Int))]) (fun σ => []) ?_ (fun K0_40' hK_40' => ?_)
    · rintro comment_6' hj
      replace h := hJ_4' comment_6' hj
      show WC _ _ _ _ [(0, st s), (1, Value.int .i64 i_2'), (5, Value.bool comment_6'), (6, Value.int .u8 ((s.getD i_2'.toNat 0).toNat : Int))] []
      obtain ⟨J0_5', hJ_5', h⟩ := h
      refine wc_seqJ (X := Bool) (fun σ => J0_5' σ) (fun σ => [(0, st s), (1, Value.int .i64 i_2'), (5, Value.bool σ), (6, Value.int .u8 ((s.getD i_2'.toNat 0).toNat : Int))]) (fun σ => []) ?_ (fun K0_42' hK_42' => ?_)
      · rintro comment_7' hj
        replace h := hJ_5' comment_7' hj
        show WC _ _ _ _ [(0, st s), (1, Value.int .i64 i_2'), (5, Value.bool comment_7'), (6, Value.int .u8 ((s.getD i_2'.toNat 0).toNat : Int))] []
        refine wc_seq (fun K0_43' hK_43' => ?_)
        refine wc_seq (fun K0_44' hK_44' => ?_)
        refine wc_region ?_
        refine WL.val (OV.move rfl) rfl rfl rfl ?_
        refine WL.val (OV.not rfl) rfl rfl rfl ?_
        refine WL.val (OV.move rfl) rfl rfl rfl ?_
        refine WL.cut 3 [(0, st s), (1, Value.int .i64 i_2'), (5, Value.bool comment_7'), (6, Value.int .u8 ((s.getD i_2'.toNat 0).toNat : Int)), (23, Value.bool ((!comment_7') && (!decide (((s.getD i_2'.toNat 0).toNat : Int) = 32))))] ?_ (fun K0_45' hK_45' => ?_)
        rotate_left
        · refine WL.split (!comment_7') (fun hb => ?_) (fun hb => ?_)
          · refine WL.set 20 rfl (congrArg Value.bool hb) ?_
            refine WL.val (OV.move rfl) rfl rfl rfl ?_
            refine WL.val (OV.neq rfl rfl) rfl rfl rfl ?_
            refine WL.val (OV.pickT rfl rfl) rfl rfl rfl ?_
            refine WL.set 23 rfl (bT (v := !decide (((s.getD i_2'.toNat 0).toNat : Int) = 32)) hb) ?_
            exact WL.end_ (KX.go hK_45' ⟨rfl, rfl, rfl, rfl, rfl, trivial⟩)
          · refine WL.set 20 rfl (congrArg Value.bool hb) ?_
            refine WL.skip rfl rfl rfl ?_
            refine WL.skip rfl rfl rfl ?_
            refine WL.val (OV.pickF rfl rfl) rfl rfl rfl ?_
            refine WL.set 23 rfl (bF (v := !decide (((s.getD i_2'.toNat 0).toNat : Int) = 32)) hb) ?_
            exact WL.end_ (KX.go hK_45' ⟨rfl, rfl, rfl, rfl, rfl, trivial⟩)
        refine WL.val (OV.move rfl) rfl rfl rfl ?_
        refine WL.cut 3 [(0, st s), (1, Value.int .i64 i_2'), (5, Value.bool comment_7'), (6, Value.int .u8 ((s.getD i_2'.toNat 0).toNat : Int)), (27, Value.bool (((!comment_7') && (!decide (((s.getD i_2'.toNat 0).toNat : Int) = 32))) && (!decide (((s.getD i_2'.toNat 0).toNat : Int) = 9))))] ?_ (fun K0_46' hK_46' => ?_)
        rotate_left
        · refine WL.split ((!comment_7') && (!decide (((s.getD i_2'.toNat 0).toNat : Int) = 32))) (fun hb => ?_) (fun hb => ?_)
          · refine WL.set 24 rfl (congrArg Value.bool hb) ?_
            refine WL.val (OV.move rfl) rfl rfl rfl ?_
            refine WL.val (OV.neq rfl rfl) rfl rfl rfl ?_
            refine WL.val (OV.pickT rfl rfl) rfl rfl rfl ?_
            refine WL.set 27 rfl (bT (v := !decide (((s.getD i_2'.toNat 0).toNat : Int) = 9)) hb) ?_
            exact WL.end_ (KX.go hK_46' ⟨rfl, rfl, rfl, rfl, rfl, trivial⟩)
          · refine WL.set 24 rfl (congrArg Value.bool hb) ?_
            refine WL.skip rfl rfl rfl ?_
            refine WL.skip rfl rfl rfl ?_
            refine WL.val (OV.pickF rfl rfl) rfl rfl rfl ?_
            refine WL.set 27 rfl (bF (v := !decide (((s.getD i_2'.toNat 0).toNat : Int) = 9)) hb) ?_
            exact WL.end_ (KX.go hK_46' ⟨rfl, rfl, rfl, rfl, rfl, trivial⟩)
        refine WL.val (OV.move rfl) rfl rfl rfl ?_
        refine WL.cut 3 [(0, st s), (1, Value.int .i64 i_2'), (5, Value.bool comment_7'), (6, Value.int .u8 ((s.getD i_2'.toNat 0).toNat : Int)), (31, Value.bool ((((!comment_7') && (!decide (((s.getD i_2'.toNat 0).toNat : Int) = 32))) && (!decide (((s.getD i_2'.toNat 0).toNat : Int) = 9))) && (!decide (((s.getD i_2'.toNat 0).toNat : Int) = 10))))] ?_ (fun K0_47' hK_47' => ?_)
        rotate_left
        · refine WL.split (((!comment_7') && (!decide (((s.getD i_2'.toNat 0).toNat : Int) = 32))) && (!decide (((s.getD i_2'.toNat 0).toNat : Int) = 9))) (fun hb => ?_) (fun hb => ?_)
          · refine WL.set 28 rfl (congrArg Value.bool hb) ?_
            refine WL.val (OV.move rfl) rfl rfl rfl ?_
            refine WL.val (OV.neq rfl rfl) rfl rfl rfl ?_
            refine WL.val (OV.pickT rfl rfl) rfl rfl rfl ?_
            refine WL.set 31 rfl (bT (v := !decide (((s.getD i_2'.toNat 0).toNat : Int) = 10)) hb) ?_
            exact WL.end_ (KX.go hK_47' ⟨rfl, rfl, rfl, rfl, rfl, trivial⟩)
          · refine WL.set 28 rfl (congrArg Value.bool hb) ?_
            refine WL.skip rfl rfl rfl ?_
            refine WL.skip rfl rfl rfl ?_
            refine WL.val (OV.pickF rfl rfl) rfl rfl rfl ?_
            refine WL.set 31 rfl (bF (v := !decide (((s.getD i_2'.toNat 0).toNat : Int) = 10)) hb) ?_
            exact WL.end_ (KX.go hK_47' ⟨rfl, rfl, rfl, rfl, rfl, trivial⟩)
        refine WL.val (OV.move rfl) rfl rfl rfl ?_
        refine WL.cut 3 [(0, st s), (1, Value.int .i64 i_2'), (5, Value.bool comment_7'), (35, Value.bool (((((!comment_7') && (!decide (((s.getD i_2'.toNat 0).toNat : Int) = 32))) && (!decide (((s.getD i_2'.toNat 0).toNat : Int) = 9))) && (!decide (((s.getD i_2'.toNat 0).toNat : Int) = 10))) && (!decide (((s.getD i_2'.toNat 0).toNat : Int) = 13))))] ?_ (fun K0_48' hK_48' => ?_)
        rotate_left
        · refine WL.split ((((!comment_7') && (!decide (((s.getD i_2'.toNat 0).toNat : Int) = 32))) && (!decide (((s.getD i_2'.toNat 0).toNat : Int) = 9))) && (!decide (((s.getD i_2'.toNat 0).toNat : Int) = 10))) (fun hb => ?_) (fun hb => ?_)
          · refine WL.set 32 rfl (congrArg Value.bool hb) ?_
            refine WL.val (OV.move rfl) rfl rfl rfl ?_
            refine WL.val (OV.neq rfl rfl) rfl rfl rfl ?_
            refine WL.val (OV.pickT rfl rfl) rfl rfl rfl ?_
            refine WL.set 35 rfl (bT (v := !decide (((s.getD i_2'.toNat 0).toNat : Int) = 13)) hb) ?_
            exact WL.end_ (KX.go hK_48' ⟨rfl, rfl, rfl, rfl, trivial⟩)
          · refine WL.set 32 rfl (congrArg Value.bool hb) ?_
            refine WL.skip rfl rfl rfl ?_
            refine WL.skip rfl rfl rfl ?_
            refine WL.val (OV.pickF rfl rfl) rfl rfl rfl ?_
            refine WL.set 35 rfl (bF (v := !decide (((s.getD i_2'.toNat 0).toNat : Int) = 13)) hb) ?_
            exact WL.end_ (KX.go hK_48' ⟨rfl, rfl, rfl, rfl, trivial⟩)
        refine WL.nil ?_
        refine KX.go (hK_44' [(0, st s), (1, Value.int .i64 i_2'), (5, Value.bool comment_7'), (35, Value.bool (((((!comment_7') && (!decide (((s.getD i_2'.toNat 0).toNat : Int) = 32))) && (!decide (((s.getD i_2'.toNat 0).toNat : Int) = 9))) && (!decide (((s.getD i_2'.toNat 0).toNat : Int) = 10))) && (!decide (((s.getD i_2'.toNat 0).toNat : Int) = 13))))] _ ?_) ⟨rfl, rfl, rfl, rfl, trivial⟩
        refine wc_cond (b := ((((!comment_7') && (!decide (((s.getD i_2'.toNat 0).toNat : Int) = 32))) && (!decide (((s.getD i_2'.toNat 0).toNat : Int) = 9))) && (!decide (((s.getD i_2'.toNat 0).toNat : Int) = 10))) && (!decide (((s.getD i_2'.toNat 0).toNat : Int) = 13))) rfl (fun hb => ?_) (fun hb => ?_)
        · replace h := if_T h hb
          refine wc_seq (fun K0_49' hK_49' => ?_)
          refine wc_region ?_
          refine WL.val (OV.move rfl) rfl rfl rfl ?_
          refine WL.val (OV.assign rfl) rfl rfl rfl ?_
          refine WL.nil ?_
          refine KX.go (hK_49' [(4, Value.int .i64 i_2')] _ ?_) ⟨rfl, trivial⟩
          refine wc_ret ?_
          exact hE.ret [] rfl rfl (.inl ⟨_, h, rfl⟩) (ResV.of1 rfl (RV.tmp rfl))
        · replace h := if_F h hb
          refine wc_skip ?_
          refine KX.go (hK_43' [(0, st s), (1, Value.int .i64 i_2'), (5, Value.bool comment_7')] _ ?_) ⟨rfl, rfl, rfl, trivial⟩
          refine wc_region ?_
          refine WL.val (OV.move rfl) rfl rfl rfl ?_
          obtain ⟨o_17', h⟩ := h
          refine WL.val (OV.add rfl rfl o_17') rfl rfl rfl ?_
          refine WL.val (OV.assign rfl) rfl rfl rfl ?_
          refine WL.nil ?_
          exact KX.goH (hK_35' (i_2' + 1, comment_7') h.1 h.2) ⟨rfl, rfl, rfl, trivial⟩ [] rfl rfl
      · skip
        refine wc_seq (fun K0_50' hK_50' => ?_)
        refine wc_region ?_
        refine WL.val (OV.move rfl) rfl rfl rfl ?_
        refine WL.val (OV.eql rfl rfl) rfl rfl rfl ?_
        refine WL.nil ?_
        refine KX.go (hK_50' [(0, st s), (1, Value.int .i64 i_2'), (5, Value.bool comment_6'), (6, Value.int .u8 ((s.getD i_2'.toNat 0).toNat : Int)), (17, Value.bool (decide (((s.getD i_2'.toNat 0).toNat : Int) = 10)))] _ ?_) ⟨rfl, rfl, rfl, rfl, rfl, trivial⟩
        refine wc_cond (b := decide (((s.getD i_2'.toNat 0).toNat : Int) = 10)) rfl (fun hb => ?_) (fun hb => ?_)
        · replace h := if_T h hb
          refine wc_region ?_
          refine WL.val (OV.assign rfl) rfl rfl rfl ?_
          refine WL.nil ?_
          exact KX.goH (hK_42' false h) ⟨rfl, rfl, rfl, rfl, trivial⟩ [] rfl rfl
        · replace h := if_F h hb
          refine wc_skip ?_
          exact KX.goH (hK_42' comment_6' h) ⟨rfl, rfl, rfl, rfl, trivial⟩ [] rfl rfl
    · skip
      refine wc_seq (fun K0_51' hK_51' => ?_)
      refine wc_region ?_
      refine WL.val (OV.move rfl) rfl rfl rfl ?_
      refine WL.val (OV.eql rfl rfl) rfl rfl rfl ?_
      refine WL.nil ?_
      refine KX.go (hK_51' [(0, st s), (1, Value.int .i64 i_2'), (5, Value.bool comment_5'), (6, Value.int .u8 ((s.getD i_2'.toNat 0).toNat : Int)), (15, Value.bool (decide (((s.getD i_2'.toNat 0).toNat : Int) = 35)))] _ ?_) ⟨rfl, rfl, rfl, rfl, rfl, trivial⟩
      refine wc_cond (b := decide (((s.getD i_2'.toNat 0).toNat : Int) = 35)) rfl (fun hb => ?_) (fun hb => ?_)
      · replace h := if_T h hb
        refine wc_region ?_
        refine WL.val (OV.assign rfl) rfl rfl rfl ?_
        refine WL.nil ?_
        exact KX.goH (hK_40' true h) ⟨rfl, rfl, rfl, rfl, trivial⟩ [] rfl rfl
      · replace h := if_F h hb
        refine wc_skip ?_
        exact KX.goH (hK_40' comment_5' h) ⟨rfl, rfl, rfl, rfl, trivial⟩ [] rfl rfl
  · replace h := if_F h hb
    refine wc_exit ?_
    refine KX.go (hK_2' [(1, Value.int .i64 i_2')] _ ?_) ⟨rfl, trivial⟩
    refine wc_seq (fun K0_52' hK_52' => ?_)
    refine wc_region ?_
    refine WL.val (OV.move rfl) rfl rfl rfl ?_
    refine WL.val (OV.assign rfl) rfl rfl rfl ?_
    refine WL.nil ?_
    refine KX.go (hK_52' [(4, Value.int .i64 i_2')] _ ?_) ⟨rfl, trivial⟩
    refine wc_ret ?_
    exact hE.ret [] rfl rfl (.inl ⟨_, h, rfl⟩) (ResV.of1 rfl (RV.tmp rfl))

def refhex_vc (c : Int) (K : Int → Prop) : Prop :=
  (if (digitB c) = true then
    (I64 (IntKind.wrap .u8 (c - 48))) ∧
    K (IntKind.wrap .u8 (c - 48))
  else
    (if ((decide (97 ≤ c)) && (decide (c ≤ 102))) = true then
      (I64 (IntKind.wrap .u8 (c - 97))) ∧
      (I64 ((IntKind.wrap .u8 (c - 97)) + 10)) ∧
      K ((IntKind.wrap .u8 (c - 97)) + 10)
    else
      K (-1)))
set_option maxRecDepth 100000 in
theorem refhex_wp  (c : Int) (K : Int → Prop) (h : refhex_vc c K) :
    Does Try.prog 31 [Value.int .u8 c] [] [] (fun o => (∃ (v : Int), K v ∧ o = .ret (Value.int .i64 v) []) ∨ (False)) := by
  unfold refhex_vc at h
  refine does_of_wc (n := 18) (L0 := [(0, Value.int .u8 c)]) Try.func31 rfl rfl rfl rfl (fun w0 M Q hE => ?_)
  refine wc_seq (fun K0 hK => ?_)
  refine wc_region ?_
  refine WL.val (OV.assign rfl) rfl rfl rfl ?_
  refine WL.nil ?_
  refine KX.go (hK [(0, Value.int .u8 c)] _ ?_) ⟨rfl, trivial⟩
  refine wc_seq (fun K0_1' hK_1' => ?_)
  refine wc_seq (fun K0_2' hK_2' => ?_)
  refine wc_region ?_
  refine WL.val (OV.move rfl) rfl rfl rfl ?_
  refine WL.call (A := []) tf_ent_19 rfl (refdigit_does c) rfl trivial rfl rfl ?_
  refine WL.nil ?_
  refine KX.go (hK_2' [(0, Value.int .u8 c), (4, Value.bool (digitB c))] _ ?_) ⟨rfl, rfl, trivial⟩
  refine wc_cond (b := digitB c) rfl (fun hb => ?_) (fun hb => ?_)
  · replace h := if_T h hb
    refine wc_seq (fun K0_3' hK_3' => ?_)
    refine wc_region ?_
    refine WL.val (OV.move rfl) rfl rfl rfl ?_
    refine WL.val (OV.subW rfl rfl) rfl rfl rfl ?_
    obtain ⟨o, h⟩ := h
    refine WL.val (OV.conv64 rfl tf_some_5 Try.underlying3 o) rfl rfl rfl ?_
    refine WL.val (OV.assign rfl) rfl rfl rfl ?_
    refine WL.nil ?_
    refine KX.go (hK_3' [(2, Value.int .i64 (IntKind.wrap .u8 (c - 48)))] _ ?_) ⟨rfl, trivial⟩
    refine wc_ret ?_
    exact hE.ret [] rfl rfl (.inl ⟨_, h, rfl⟩) (ResV.of1 rfl (RV.tmp rfl))
  · replace h := if_F h hb
    refine wc_skip ?_
    refine KX.go (hK_1' [(0, Value.int .u8 c)] _ ?_) ⟨rfl, trivial⟩
    refine wc_seq (fun K0_4' hK_4' => ?_)
    refine wc_seq (fun K0_5' hK_5' => ?_)
    refine wc_region ?_
    refine WL.val (OV.move rfl) rfl rfl rfl ?_
    refine WL.val (OV.geq rfl rfl) rfl rfl rfl ?_
    refine WL.val (OV.move rfl) rfl rfl rfl ?_
    refine WL.cut 3 [(0, Value.int .u8 c), (13, Value.bool ((decide (97 ≤ c)) && (decide (c ≤ 102))))] ?_ (fun K0_6' hK_6' => ?_)
    rotate_left
    · refine WL.split (decide (97 ≤ c)) (fun hb => ?_) (fun hb => ?_)
      · refine WL.set 10 rfl (congrArg Value.bool hb) ?_
        refine WL.val (OV.move rfl) rfl rfl rfl ?_
        refine WL.val (OV.leq rfl rfl) rfl rfl rfl ?_
        refine WL.val (OV.pickT rfl rfl) rfl rfl rfl ?_
        refine WL.set 13 rfl (bT (v := decide (c ≤ 102)) hb) ?_
        exact WL.end_ (KX.go hK_6' ⟨rfl, rfl, trivial⟩)
      · refine WL.set 10 rfl (congrArg Value.bool hb) ?_
        refine WL.skip rfl rfl rfl ?_
        refine WL.skip rfl rfl rfl ?_
        refine WL.val (OV.pickF rfl rfl) rfl rfl rfl ?_
        refine WL.set 13 rfl (bF (v := decide (c ≤ 102)) hb) ?_
        exact WL.end_ (KX.go hK_6' ⟨rfl, rfl, trivial⟩)
    refine WL.nil ?_
    refine KX.go (hK_5' [(0, Value.int .u8 c), (13, Value.bool ((decide (97 ≤ c)) && (decide (c ≤ 102))))] _ ?_) ⟨rfl, rfl, trivial⟩
    refine wc_cond (b := (decide (97 ≤ c)) && (decide (c ≤ 102))) rfl (fun hb => ?_) (fun hb => ?_)
    · replace h := if_T h hb
      refine wc_seq (fun K0_7' hK_7' => ?_)
      refine wc_region ?_
      refine WL.val (OV.move rfl) rfl rfl rfl ?_
      refine WL.val (OV.subW rfl rfl) rfl rfl rfl ?_
      obtain ⟨o_2', h⟩ := h
      refine WL.val (OV.conv64 rfl tf_some_5 Try.underlying3 o_2') rfl rfl rfl ?_
      obtain ⟨o_3', h⟩ := h
      refine WL.val (OV.add rfl rfl o_3') rfl rfl rfl ?_
      refine WL.val (OV.assign rfl) rfl rfl rfl ?_
      refine WL.nil ?_
      refine KX.go (hK_7' [(2, Value.int .i64 ((IntKind.wrap .u8 (c - 97)) + 10))] _ ?_) ⟨rfl, trivial⟩
      refine wc_ret ?_
      exact hE.ret [] rfl rfl (.inl ⟨_, h, rfl⟩) (ResV.of1 rfl (RV.tmp rfl))
    · replace h := if_F h hb
      refine wc_skip ?_
      refine KX.go (hK_4' [] _ ?_) trivial
      refine wc_seq (fun K0_8' hK_8' => ?_)
      refine wc_region ?_
      refine WL.val (OV.assign rfl) rfl rfl rfl ?_
      refine WL.nil ?_
      refine KX.go (hK_8' [(2, Value.int .i64 (-1))] _ ?_) ⟨rfl, trivial⟩
      refine wc_ret ?_
      exact hE.ret [] rfl rfl (.inl ⟨_, h, rfl⟩) (ResV.of1 rfl (RV.tmp rfl))

def refmark_vc (c : Int) (K : Bool → Prop) : Prop :=
  ∃ (Inv : Int → Prop) (mu : Int → Nat),
    Inv 0 ∧ ∀ (i_1' : Int), Inv i_1' →
      (if (decide (i_1' < (([61, 59, 40, 41, 123, 125, 44, 124, 38, 45, 46, 126, 42, 43, 63] : List UInt8).length : Int))) = true then
        (0 ≤ i_1' ∧ i_1' < ([61, 59, 40, 41, 123, 125, 44, 124, 38, 45, 46, 126, 42, 43, 63] : List UInt8).length) ∧
        (if (decide (((([61, 59, 40, 41, 123, 125, 44, 124, 38, 45, 46, 126, 42, 43, 63] : List UInt8).getD i_1'.toNat 0).toNat : Int) = c)) = true then
          K true
        else
          (I64 (i_1' + 1)) ∧
          Inv (i_1' + 1) ∧ mu (i_1' + 1) < mu i_1')
      else
        K false)
set_option maxRecDepth 100000 in
theorem refmark_wp  (c : Int) (K : Bool → Prop) (h : refmark_vc c K) :
    Does Try.prog 22 [Value.int .u8 c] [] [] (fun o => (∃ (v : Bool), K v ∧ o = .ret (Value.bool v) []) ∨ (False)) := by
  unfold refmark_vc at h
  refine does_of_wc (n := 16) (L0 := [(0, Value.int .u8 c)]) Try.func22 rfl rfl rfl rfl (fun w0 M Q hE => ?_)
  refine wc_seq (fun K0 hK => ?_)
  refine wc_region ?_
  refine WL.val (OV.assign rfl) rfl rfl rfl ?_
  refine WL.nil ?_
  refine KX.go (hK [(0, Value.int .u8 c)] _ ?_) ⟨rfl, trivial⟩
  refine wc_seq (fun K0_1' hK_1' => ?_)
  refine wc_region ?_
  refine WL.val (OV.assign rfl) rfl rfl rfl ?_
  refine WL.nil ?_
  refine KX.go (hK_1' [(0, Value.int .u8 c), (3, st ([61, 59, 40, 41, 123, 125, 44, 124, 38, 45, 46, 126, 42, 43, 63] : List UInt8))] _ ?_) ⟨rfl, rfl, trivial⟩
  refine wc_seq (fun K0_2' hK_2' => ?_)
  refine wc_seq (fun K0_3' hK_3' => ?_)
  refine wc_region ?_
  refine WL.val (OV.assign rfl) rfl rfl rfl ?_
  refine WL.nil ?_
  refine KX.go (hK_3' [(0, Value.int .u8 c), (3, st ([61, 59, 40, 41, 123, 125, 44, 124, 38, 45, 46, 126, 42, 43, 63] : List UInt8)), (4, Value.int .i64 0)] _ ?_) ⟨rfl, rfl, rfl, trivial⟩
  refine wc_block ?_
  obtain ⟨Inv, mu, h0, hr⟩ := h
  refine wc_loop (S := Int) (fun σ => Inv σ) (fun σ => mu σ) (fun σ => [(0, Value.int .u8 c), (3, st ([61, 59, 40, 41, 123, 125, 44, 124, 38, 45, 46, 126, 42, 43, 63] : List UInt8)), (4, Value.int .i64 σ)]) (fun σ => []) 0 h0 ⟨rfl, rfl, rfl, trivial⟩ rfl ?_
  rintro i_1' hi K0_14' hK_14'
  have h := hr i_1' hi
  show WC _ _ _ _ [(0, Value.int .u8 c), (3, st ([61, 59, 40, 41, 123, 125, 44, 124, 38, 45, 46, 126, 42, 43, 63] : List UInt8)), (4, Value.int .i64 i_1')] []
  refine wc_seq (fun K0_15' hK_15' => ?_)
  refine wc_seq (fun K0_16' hK_16' => ?_)
  refine wc_region ?_
  refine WL.val (OV.move rfl) rfl rfl rfl ?_
  refine WL.val (OV.move rfl) rfl rfl rfl ?_
  refine WL.val (OV.len rfl tf_str_9) rfl rfl rfl ?_
  refine WL.val (OV.lss rfl rfl) rfl rfl rfl ?_
  refine WL.nil ?_
  refine KX.go (hK_16' [(0, Value.int .u8 c), (3, st ([61, 59, 40, 41, 123, 125, 44, 124, 38, 45, 46, 126, 42, 43, 63] : List UInt8)), (4, Value.int .i64 i_1'), (8, Value.bool (decide (i_1' < (([61, 59, 40, 41, 123, 125, 44, 124, 38, 45, 46, 126, 42, 43, 63] : List UInt8).length : Int))))] _ ?_) ⟨rfl, rfl, rfl, rfl, trivial⟩
  refine wc_cond (b := decide (i_1' < (([61, 59, 40, 41, 123, 125, 44, 124, 38, 45, 46, 126, 42, 43, 63] : List UInt8).length : Int))) rfl (fun hb => ?_) (fun hb => ?_)
  · replace h := if_T h hb
    refine wc_skip ?_
    refine KX.go (hK_15' [(0, Value.int .u8 c), (3, st ([61, 59, 40, 41, 123, 125, 44, 124, 38, 45, 46, 126, 42, 43, 63] : List UInt8)), (4, Value.int .i64 i_1')] _ ?_) ⟨rfl, rfl, rfl, trivial⟩
    refine wc_seq (fun K0_17' hK_17' => ?_)
    refine wc_block ?_
    refine wc_seq (fun K0_18' hK_18' => ?_)
    refine wc_region ?_
    refine WL.val (OV.move rfl) rfl rfl rfl ?_
    refine WL.val (OV.move rfl) rfl rfl rfl ?_
    obtain ⟨o_3', h⟩ := h
    refine WL.val (OV.index rfl rfl tf_str_9 o_3') rfl rfl rfl ?_
    refine WL.val (OV.move rfl) rfl rfl rfl ?_
    refine WL.val (OV.eql rfl rfl) rfl rfl rfl ?_
    refine WL.nil ?_
    refine KX.go (hK_18' [(0, Value.int .u8 c), (3, st ([61, 59, 40, 41, 123, 125, 44, 124, 38, 45, 46, 126, 42, 43, 63] : List UInt8)), (4, Value.int .i64 i_1'), (15, Value.bool (decide (((([61, 59, 40, 41, 123, 125, 44, 124, 38, 45, 46, 126, 42, 43, 63] : List UInt8).getD i_1'.toNat 0).toNat : Int) = c)))] _ ?_) ⟨rfl, rfl, rfl, rfl, trivial⟩
    refine wc_cond (b := decide (((([61, 59, 40, 41, 123, 125, 44, 124, 38, 45, 46, 126, 42, 43, 63] : List UInt8).getD i_1'.toNat 0).toNat : Int) = c)) rfl (fun hb => ?_) (fun hb => ?_)
    · replace h := if_T h hb
      refine wc_seq (fun K0_19' hK_19' => ?_)
      refine wc_region ?_
      refine WL.val (OV.assign rfl) rfl rfl rfl ?_
      refine WL.nil ?_
      refine KX.go (hK_19' [(2, Value.bool true)] _ ?_) ⟨rfl, trivial⟩
      refine wc_ret ?_
      exact hE.ret [] rfl rfl (.inl ⟨_, h, rfl⟩) (ResV.of1 rfl (RV.tmp rfl))
    · replace h := if_F h hb
      refine wc_skip ?_
      refine KX.go (hK_17' [(0, Value.int .u8 c), (3, st ([61, 59, 40, 41, 123, 125, 44, 124, 38, 45, 46, 126, 42, 43, 63] : List UInt8)), (4, Value.int .i64 i_1')] _ ?_) ⟨rfl, rfl, rfl, trivial⟩
      refine wc_region ?_
      refine WL.val (OV.move rfl) rfl rfl rfl ?_
      obtain ⟨o_4', h⟩ := h
      refine WL.val (OV.add rfl rfl o_4') rfl rfl rfl ?_
      refine WL.val (OV.assign rfl) rfl rfl rfl ?_
      refine WL.nil ?_
      exact KX.goH (hK_14' (i_1' + 1) h.1 h.2) ⟨rfl, rfl, rfl, trivial⟩ [] rfl rfl
  · replace h := if_F h hb
    refine wc_exit ?_
    refine KX.go (hK_2' [] _ ?_) trivial
    refine wc_seq (fun K0_20' hK_20' => ?_)
    refine wc_region ?_
    refine WL.val (OV.assign rfl) rfl rfl rfl ?_
    refine WL.nil ?_
    refine KX.go (hK_20' [(2, Value.bool false)] _ ?_) ⟨rfl, trivial⟩
    refine wc_ret ?_
    exact hE.ret [] rfl rfl (.inl ⟨_, h, rfl⟩) (ResV.of1 rfl (RV.tmp rfl))

theorem beq_bt (x n : UInt8) : (x == n) = decide ((x.toNat : Int) = (n.toNat : Int)) := by
  rw [Bool.eq_iff_iff, beq_iff_eq, decide_eq_true_eq]
  constructor
  · rintro rfl; rfl
  · intro h; exact UInt8.toNat_inj.1 (by omega)
theorem drop_bt {t : List UInt8} {p : Int} (h : 0 ≤ p ∧ p < t.length) : ∃ x : UInt8, t.drop p.toNat = x :: t.drop (p + 1).toNat ∧ bt t p = (x.toNat : Int) := by
  have hlt : p.toNat < t.length := by omega
  refine ⟨t[p.toNat], ?_, ?_⟩
  · rw [List.drop_eq_getElem_cons hlt, show (p + 1).toNat = p.toNat + 1 by omega]
  · unfold bt; rw [List.getD_eq_getElem?_getD, List.getElem?_eq_getElem hlt]; rfl
theorem gapL_at {t : List UInt8} {p : Int} (cm : Bool) (h : 0 ≤ p ∧ p < t.length) :
    gapL cm (t.drop p.toNat) = if (((cm || decide (bt t p = 35)) && !decide (bt t p = 10)) || decide (bt t p = 32) || decide (bt t p = 9) || decide (bt t p = 10) || decide (bt t p = 13)) = true then 1 + gapL ((cm || decide (bt t p = 35)) && !decide (bt t p = 10)) (t.drop (p + 1).toNat) else 0 := by
  obtain ⟨x, hx, hb⟩ := drop_bt h
  rw [hx, gapL, hb]
  simp only [bne, beq_bt]
  rfl
theorem gapM_bd {t : List UInt8} {a : Int} (h : 0 ≤ a ∧ a ≤ t.length) : a ≤ gapM t a ∧ gapM t a ≤ t.length := by
  have := gapL_le false (t.drop a.toNat)
  rw [List.length_drop] at this
  unfold gapM; omega
theorem gap_end {t : List UInt8} {p : Int} (cm : Bool) (h : (t.length : Int) ≤ p) : gapL cm (t.drop p.toNat) = 0 := by
  rw [List.drop_eq_nil_of_le (by omega)]; cases cm <;> rfl
theorem skip_does (b : Nat) (t : List UInt8) (a : Int) (w : Value) (fc fa : Int) (ft : List UInt8) (h : 0 ≤ a ∧ a ≤ t.length ∧ t.length ≤ 4096) :
    Does Try.prog 23 [.pointer (some ⟨b, 0, none⟩)] [] [.blk b (scB t a w fc fa ft)] (Ret (.tuple #[]) [.blk b (scB t (gapM t a) w fc fa ft)]) := by
  refine (skip_wp b t a w fc fa ft (fun t' a' w' c' p' x => t' = t ∧ a' = gapM t a ∧ w' = w ∧ c' = fc ∧ p' = fa ∧ x = ft) ?_).weak ?_
  · unfold skip_vc
    refine ⟨fun p => 0 ≤ p ∧ p ≤ t.length ∧ gapM t p = gapM t a, fun p => (t.length - p).toNat, ⟨h.1, h.2.1, rfl⟩, ?_⟩
    rintro p ⟨h0, h1, hg⟩
    by_cases hp : p < t.length
    · rw [if_pos (by simp; omega)]
      have hb : 0 ≤ p ∧ p < t.length := ⟨h0, hp⟩
      have hs := gapL_at false hb
      simp only [Bool.false_or] at hs
      have hI : I64 (p + 1) := ⟨by omega, by omega⟩
      refine ⟨hb, ?_⟩
      show (if decide (bt t p = 35) = true then _ else _)
      by_cases c35 : bt t p = 35
      · rw [if_pos (by simpa using c35)]
        have ht : p + gapL true (t.drop p.toNat) = gapM t a := by
          rw [← hg]; unfold gapM
          have h2 := gapL_at true hb
          rw [c35] at hs h2
          rw [hs, h2]; rfl
        refine ⟨fun q => p ≤ q ∧ q ≤ t.length ∧ q + gapL true (t.drop q.toNat) = gapM t a, fun q => (t.length - q).toNat, ⟨Int.le_refl _, h1, ht⟩, ?_⟩
        rintro q ⟨q0, q1, hq⟩
        by_cases hql : q < t.length
        · have hqb : 0 ≤ q ∧ q < t.length := ⟨by omega, hql⟩
          refine ⟨fun _ => hqb, ?_⟩
          show (if (!decide ((t.length : Int) ≤ q) && !decide (bt t q = 10)) = true then _ else _)
          have h2 := gapL_at true hqb
          by_cases c10 : bt t q = 10
          · rw [if_neg (by simp [c10])]
            have h3 := gapL_at false hqb
            have hne : p ≠ q := fun e => by rw [← e, c35] at c10; omega
            rw [c10] at h2 h3
            refine ⟨⟨by omega, q1, ?_⟩, by show (t.length - q).toNat < (t.length - p).toNat; omega⟩
            rw [← hq, h2]; unfold gapM; rw [h3]; rfl
          · rw [if_pos (by simp [c10]; omega)]
            refine ⟨⟨by omega, by omega⟩, ⟨by omega, by omega, ?_⟩, by show (t.length - (q + 1)).toNat < (t.length - q).toNat; omega⟩
            rw [← hq, h2]
            simp [c10]; omega
        · refine ⟨fun hh => absurd hh (by simp; omega), ?_⟩
          rw [if_neg (by simp; omega)]
          refine ⟨⟨by omega, q1, ?_⟩, by show (t.length - q).toNat < (t.length - p).toNat; omega⟩
          rw [← hq]; unfold gapM
          rw [gap_end _ (by omega), gap_end _ (by omega)]
      · rw [if_neg (by simpa using c35)]
        have hkey : gapL false (t.drop p.toNat) = if decide (bt t p = 32 ∨ bt t p = 9 ∨ bt t p = 10 ∨ bt t p = 13) = true then 1 + gapL false (t.drop (p + 1).toNat) else 0 := by
          rw [hs]
          simp only [c35, decide_false, Bool.false_and, Bool.false_or]
          congr 1
          simp [or_assoc]
        refine ⟨fun r => r = decide (bt t p = 32 ∨ bt t p = 9 ∨ bt t p = 10 ∨ bt t p = 13), fun r hr => ?_, ?_⟩
        · rw [← hr] at hkey
          by_cases hr2 : r = true
          · rw [if_pos hr2]
            rw [if_pos hr2] at hkey
            refine ⟨hI, ⟨by omega, by omega, ?_⟩, by show (t.length - (p + 1)).toNat < (t.length - p).toNat; omega⟩
            rw [← hg]; unfold gapM; rw [hkey]; omega
          · rw [if_neg hr2]
            rw [if_neg hr2] at hkey
            refine ⟨rfl, ?_, rfl, rfl, rfl, rfl⟩
            rw [← hg]; unfold gapM; rw [hkey]; omega
        · show (if decide (bt t p = 32) = true then decide (bt t p = 32) = _ else if decide (bt t p = 9) = true then decide (bt t p = 9) = _ else if decide (bt t p = 10) = true then decide (bt t p = 10) = _ else decide (bt t p = 13) = _)
          generalize bt t p = c
          by_cases e1 : c = 32
          · simp [e1]
          · by_cases e2 : c = 9
            · simp [e2]
            · by_cases e3 : c = 10
              · simp [e3]
              · simp [e1, e2, e3]
    · rw [if_neg (by simp; omega)]
      refine ⟨rfl, ?_, rfl, rfl, rfl, rfl⟩
      rw [← hg]; unfold gapM; rw [gap_end _ (by omega)]; omega
  · rintro o (⟨_, _, _, _, _, _, ⟨rfl, rfl, rfl, rfl, rfl, rfl⟩, rfl⟩ | h)
    · rfl
    · exact h.elim
theorem gap_does (t : List UInt8) (a : Int) (h : 0 ≤ a ∧ a ≤ t.length ∧ t.length ≤ 4096) : Does Try.prog 17 [st t, .int .i64 a] [] [] (Ret (.int .i64 (gapM t a)) []) := by
  refine (refgap_wp t a (fun r => r = gapM t a) ?_).weak ?_
  · unfold refgap_vc
    refine ⟨fun p cm => 0 ≤ p ∧ p ≤ t.length ∧ p + gapL cm (t.drop p.toNat) = gapM t a, fun p _ => (t.length - p).toNat, ⟨h.1, h.2.1, rfl⟩, ?_⟩
    rintro p cm ⟨h0, h1, hg⟩
    by_cases hp : p < t.length
    · rw [if_pos (by simpa using hp)]
      have hb : 0 ≤ p ∧ p < t.length := ⟨h0, hp⟩
      have hs := gapL_at cm hb
      refine ⟨hb, fun c1 => c1 = (cm || decide (bt t p = 35)), fun c1 hc1 => ⟨fun c2 => c2 = (c1 && !decide (bt t p = 10)), fun c2 hc2 => ?_, ?_⟩, ?_⟩
      · show (if (!c2 && !decide (bt t p = 32) && !decide (bt t p = 9) && !decide (bt t p = 10) && !decide (bt t p = 13)) = true then _ else _)
        rw [← hc1, ← hc2] at hs
        by_cases hstop : (!c2 && !decide (bt t p = 32) && !decide (bt t p = 9) && !decide (bt t p = 10) && !decide (bt t p = 13)) = true
        · rw [if_pos hstop]
          rw [if_neg (by
            clear hs hc1 hc2
            revert hstop
            generalize decide (bt t p = 32) = x1
            generalize decide (bt t p = 9) = x2
            generalize decide (bt t p = 10) = x3
            generalize decide (bt t p = 13) = x4
            revert c2 x1 x2 x3 x4; decide)] at hs
          rw [← hg, hs]; omega
        · rw [if_neg hstop]
          rw [if_pos (by
            clear hs hc1 hc2
            revert hstop
            generalize decide (bt t p = 32) = x1
            generalize decide (bt t p = 9) = x2
            generalize decide (bt t p = 10) = x3
            generalize decide (bt t p = 13) = x4
            revert c2 x1 x2 x3 x4; decide)] at hs
          exact ⟨⟨by omega, by omega⟩, ⟨by omega, by omega, by rw [← hg, hs]; omega⟩, by show (t.length - (p + 1)).toNat < (t.length - p).toNat; omega⟩
      · show (if decide (bt t p = 10) = true then false = _ else c1 = _)
        by_cases c10 : bt t p = 10 <;> simp [c10]
      · show (if decide (bt t p = 35) = true then true = _ else cm = _)
        by_cases c35 : bt t p = 35 <;> simp [c35]
    · rw [if_neg (by simpa using hp)]
      rw [gap_end _ (by omega)] at hg
      omega
  · rintro o (⟨v, rfl, rfl⟩ | h) <;> first | rfl | exact h.elim
theorem refhex_does (c : Int) (h : 0 ≤ c ∧ c < 256) : Does Try.prog 31 [.int .u8 c] [] [] (Ret (.int .i64 (refHex c)) []) := by
  refine (refhex_wp c (fun r => r = refHex c) ?_).weak (by rintro o (⟨v, rfl, rfl⟩ | h) <;> first | rfl | exact h.elim)
  unfold refhex_vc refHex digitB
  by_cases h1 : 48 ≤ c ∧ c ≤ 57
  · rw [if_pos (by simpa using h1), if_pos h1, IntWalk.u8_in _ (by omega)]; exact ⟨⟨by omega, by omega⟩, rfl⟩
  · rw [if_neg (by simpa using h1), if_neg h1]
    by_cases h2 : 97 ≤ c ∧ c ≤ 102
    · rw [if_pos (by simpa using h2), if_pos h2, IntWalk.u8_in _ (by omega)]; exact ⟨⟨by omega, by omega⟩, ⟨by omega, by omega⟩, by omega⟩
    · rw [if_neg (by simpa using h2), if_neg h2]
theorem mark_does (c : Int) (h : 0 ≤ c ∧ c < 256) : Does Try.prog 22 [.int .u8 c] [] [] (Ret (.bool (marksL.contains c.toNat.toUInt8)) []) := by
  refine (refmark_wp c (fun r => r = marksL.contains c.toNat.toUInt8) ?_).weak (by rintro o (⟨v, rfl, rfl⟩ | h) <;> first | rfl | exact h.elim)
  unfold refmark_vc
  have hx : ((c.toNat.toUInt8.toNat : Nat) : Int) = c := u8back h
  refine ⟨fun i => 0 ≤ i ∧ i ≤ 15 ∧ ∀ j, j < i.toNat → marksL.getD j 0 ≠ c.toNat.toUInt8, fun i => (15 - i).toNat, ⟨by omega, by omega, fun j hj => by simp at hj⟩, ?_⟩
  rintro i ⟨h0, h1, hi⟩
  have hlen : (marksL.length : Int) = 15 := rfl
  show (if decide (i < (marksL.length : Int)) = true then (0 ≤ i ∧ i < (marksL.length : Int)) ∧ (if decide (((marksL.getD i.toNat 0).toNat : Int) = c) = true then true = _ else _) else false = _)
  rw [hlen]
  by_cases hl : i < 15
  · rw [if_pos (by simpa using hl)]
    refine ⟨⟨h0, hl⟩, ?_⟩
    by_cases he : ((marksL.getD i.toNat 0).toNat : Int) = c
    · rw [if_pos (by simpa using he)]
      have e2 : marksL.getD i.toNat 0 = c.toNat.toUInt8 := UInt8.toNat_inj.1 (by omega)
      rw [← e2]
      refine (List.contains_iff_mem.2 ?_).symm
      have : i.toNat < marksL.length := by omega
      rw [List.getD_eq_getElem?_getD, List.getElem?_eq_getElem this]
      exact List.getElem_mem this
    · rw [if_neg (by simpa using he)]
      refine ⟨⟨by omega, by omega⟩, ⟨by omega, by omega, fun j hj => ?_⟩, by show (15 - (i + 1)).toNat < (15 - i).toNat; omega⟩
      by_cases e : j = i.toNat
      · subst e; intro e2; rw [e2] at he; exact he hx
      · exact hi j (by omega)
  · rw [if_neg (by simpa using hl)]
    symm
    rw [Bool.eq_false_iff]
    intro hc
    have hm := List.contains_iff_mem.1 hc
    obtain ⟨j, hj, hje⟩ := List.getElem_of_mem hm
    have hj' : j < 15 := hj
    refine hi j (by omega) ?_
    rw [List.getD_eq_getElem?_getD, List.getElem?_eq_getElem hj]; exact hje

end Go.Proofs.Ytiaafdjdppganaa
