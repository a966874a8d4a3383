/-
  Blanks and comments, marks, digits.
-/
import Derived.Test.YtlfolgbaageknaaDoorTkV
namespace Go.Proofs.YtlfolgbaageknaaDoor
open Go Go.RowKit

theorem tf_ent_14 : entB Tryd.prog 14 = true := by kernel_rfl
theorem tf_size_3 : sizeB Tryd.prog 3 1 = true := by kernel_rfl

def skip_vc (s_0 : List UInt8) (s_1 : Int) (s_2 : Value) (s_3 : Int) (s_4 : Int) (s_5 : List UInt8) (K : (List UInt8) → Int → Value → Int → Int → (List UInt8) → Prop) : Prop :=
  ∃ (Inv_2' : Int → Prop) (mu_2' : Int → Nat),
    Inv_2' s_1 ∧ ∀ (s_1_6' : Int), Inv_2' s_1_6' →
      (if (!(decide (s_0.length ≤ s_1_6'))) = true then
        (0 ≤ s_1_6' ∧ s_1_6' < s_0.length) ∧
        (if (decide (((s_0.getD s_1_6'.toNat 0).toNat : Int) = 35)) = true then
          ∃ (Inv_3' : Int → Prop) (mu_3' : Int → Nat),
            Inv_3' s_1_6' ∧ ∀ (s_1_8' : Int), Inv_3' s_1_8' →
              ((!(decide (s_0.length ≤ s_1_8'))) = true → (0 ≤ s_1_8' ∧ s_1_8' < s_0.length)) ∧
              (if ((!(decide (s_0.length ≤ s_1_8'))) && (!decide (((s_0.getD s_1_8'.toNat 0).toNat : Int) = 10))) = true then
                (I64 (s_1_8' + 1)) ∧
                Inv_3' (s_1_8' + 1) ∧ mu_3' (s_1_8' + 1) < mu_3' s_1_8'
              else
                Inv_2' s_1_8' ∧ mu_2' s_1_8' < mu_2' s_1_6')
        else
          ∃ (J0_2' : Bool → Prop),
            (∀ (t38_2' : Bool), J0_2' t38_2' →
              (if t38_2' = true then
                (I64 (s_1_6' + 1)) ∧
                Inv_2' (s_1_6' + 1) ∧ mu_2' (s_1_6' + 1) < mu_2' s_1_6'
              else
                K s_0 s_1_6' s_2 s_3 s_4 s_5)) ∧
            (if (decide (((s_0.getD s_1_6'.toNat 0).toNat : Int) = 32)) = true then
              J0_2' (decide (((s_0.getD s_1_6'.toNat 0).toNat : Int) = 32))
            else
              (if (decide (((s_0.getD s_1_6'.toNat 0).toNat : Int) = 9)) = true then
                J0_2' (decide (((s_0.getD s_1_6'.toNat 0).toNat : Int) = 9))
              else
                (if (decide (((s_0.getD s_1_6'.toNat 0).toNat : Int) = 10)) = true then
                  J0_2' (decide (((s_0.getD s_1_6'.toNat 0).toNat : Int) = 10))
                else
                  J0_2' (decide (((s_0.getD s_1_6'.toNat 0).toNat : Int) = 13))))))
      else
        K s_0 s_1_6' s_2 s_3 s_4 s_5)
set_option maxRecDepth 100000 in
theorem skip_wp (b : Nat) (s_0 : List UInt8) (s_1 : Int) (s_2 : Value) (s_3 : Int) (s_4 : Int) (s_5 : List UInt8) (K : (List UInt8) → Int → Value → Int → Int → (List UInt8) → Prop) (h : skip_vc s_0 s_1 s_2 s_3 s_4 s_5 K) :
    Does Tryd.prog 13 [Value.pointer (some ⟨b, 0, none⟩)] [] [HA.blk b (.cells [st s_0, Value.int .i64 s_1, s_2, Value.int .i64 s_3, Value.int .i64 s_4, st s_5].toArray 43 (0, 0))] (fun o => (∃ (d_0 : List UInt8) (d_1 : Int) (d_2 : Value) (d_3 : Int) (d_4 : Int) (d_5 : List UInt8), K d_0 d_1 d_2 d_3 d_4 d_5 ∧ o = .ret (Value.tuple #[]) [HA.blk b (.cells [st d_0, Value.int .i64 d_1, d_2, Value.int .i64 d_3, Value.int .i64 d_4, st d_5].toArray 43 (0, 0))]) ∨ (False)) := by
  unfold skip_vc at h
  refine does_of_wc (n := 50) (L0 := [(0, Value.pointer (some ⟨b, 0, none⟩))]) Tryd.func13 rfl rfl rfl rfl (fun w0 M Q hE => ?_)
  refine wc_block ?_
  obtain ⟨Inv_2', mu_2', h0_2', hr_2'⟩ := h
  refine wc_loop (S := Int) (fun σ => Inv_2' σ) (fun σ => mu_2' σ) (fun σ => [(0, Value.pointer (some ⟨b, 0, none⟩))]) (fun σ => [HA.blk b (.cells [st s_0, Value.int .i64 σ, s_2, Value.int .i64 s_3, Value.int .i64 s_4, st s_5].toArray 43 (0, 0))]) s_1 h0_2' ⟨rfl, trivial⟩ rfl ?_
  rintro s_1_6' hi K0_42' hK_42'
  have h := hr_2' s_1_6' hi
  show WC _ _ _ _ [(0, Value.pointer (some ⟨b, 0, none⟩))] [HA.blk b (.cells [st s_0, Value.int .i64 s_1_6', s_2, Value.int .i64 s_3, Value.int .i64 s_4, st s_5].toArray 43 (0, 0))]
  refine wc_seq (fun K0_43' hK_43' => ?_)
  refine wc_seq (fun K0_44' hK_44' => ?_)
  refine wc_region ?_
  refine WL.val (OV.move rfl) rfl rfl rfl ?_
  refine WL.call (A := []) tf_ent_14 rfl (ended_does b s_0 s_1_6' s_2 s_3 s_4 s_5) rfl ⟨.inl ⟨0, rfl⟩, trivial⟩ rfl rfl ?_
  refine WL.val (OV.not rfl) rfl rfl rfl ?_
  refine WL.nil ?_
  refine KX.go (hK_44' [(0, Value.pointer (some ⟨b, 0, none⟩)), (4, Value.bool (!(decide (s_0.length ≤ s_1_6'))))] _ ?_) ⟨rfl, rfl, trivial⟩
  refine wc_cond (b := !(decide (s_0.length ≤ s_1_6'))) rfl (fun hb => ?_) (fun hb => ?_)
  · replace h := if_T h hb
    refine wc_skip ?_
    refine KX.go (hK_43' [(0, Value.pointer (some ⟨b, 0, none⟩))] _ ?_) ⟨rfl, trivial⟩
    refine wc_block ?_
    refine wc_seq (fun K0_45' hK_45' => ?_)
    refine wc_draw 8 [] tf_mixed (by kernel_rfl) rfl (fun T_8' hT_8' => ?_)
    refine FL.val (fun _ => OV.move rfl) rfl (fun _ => rfl) rfl rfl ?_
    refine FL.val (fun _ => OV.nilCheck rfl) rfl (fun _ => rfl) rfl rfl ?_
    refine FL.val (fun _ => OV.fieldAddr0 rfl tf_field_43_0) rfl (fun _ => rfl) rfl rfl ?_
    refine FL.val (fun _ => OV.load rfl (At.own 0 rfl) rfl tf_scal_9) rfl (fun _ => rfl) rfl rfl ?_
    refine FL.val (fun _ => OV.move rfl) rfl (fun _ => rfl) rfl rfl ?_
    refine FL.val (fun _ => OV.nilCheck rfl) rfl (fun _ => rfl) rfl rfl ?_
    refine FL.val (fun _ => OV.fieldAddr0 rfl tf_field_43_1) rfl (fun _ => rfl) rfl rfl ?_
    refine FL.val (fun _ => OV.load rfl (At.own 0 rfl) rfl tf_scal_3) rfl (fun _ => rfl) rfl rfl ?_
    refine FL.weak (L' := fun γ => [(0, Value.pointer (some ⟨b, 0, none⟩)), (8, st s_0), (12, Value.int .i64 s_1_6')]) (fun γ => ⟨rfl, rfl, rfl, trivial⟩) (FL.nil (hT_8' (fun γ => [(0, Value.pointer (some ⟨b, 0, none⟩)), (8, st s_0), (12, Value.int .i64 s_1_6')]) (fun γ => ?_)))
    obtain ⟨o_22', h⟩ := h
    refine WL.val (OV.index rfl rfl tf_str_9 o_22') rfl rfl rfl ?_
    refine WL.nil ?_
    refine KX.go (hK_45' [(0, Value.pointer (some ⟨b, 0, none⟩)), (13, Value.int .u8 ((s_0.getD s_1_6'.toNat 0).toNat : Int))] _ ?_) ⟨rfl, rfl, trivial⟩
    refine wc_block ?_
    refine wc_seq (fun K0_46' hK_46' => ?_)
    refine wc_region ?_
    refine WL.val (OV.eql rfl rfl) rfl rfl rfl ?_
    refine WL.val (OV.assign rfl) rfl rfl rfl ?_
    refine WL.nil ?_
    refine KX.go (hK_46' [(0, Value.pointer (some ⟨b, 0, none⟩)), (13, Value.int .u8 ((s_0.getD s_1_6'.toNat 0).toNat : Int)), (14, Value.bool (decide (((s_0.getD s_1_6'.toNat 0).toNat : Int) = 35)))] _ ?_) ⟨rfl, rfl, rfl, trivial⟩
    refine wc_cond (b := decide (((s_0.getD s_1_6'.toNat 0).toNat : Int) = 35)) rfl (fun hb => ?_) (fun hb => ?_)
    · replace h := if_T h hb
      refine wc_block ?_
      obtain ⟨Inv_3', mu_3', h0_3', hr_3'⟩ := h
      refine wc_loop (S := Int) (fun σ => Inv_3' σ) (fun σ => mu_3' σ) (fun σ => [(0, Value.pointer (some ⟨b, 0, none⟩))]) (fun σ => [HA.blk b (.cells [st s_0, Value.int .i64 σ, s_2, Value.int .i64 s_3, Value.int .i64 s_4, st s_5].toArray 43 (0, 0))]) s_1_6' h0_3' ⟨rfl, trivial⟩ rfl ?_
      rintro s_1_8' hi K0_53' hK_53'
      have h := hr_3' s_1_8' hi
      show WC _ _ _ _ [(0, Value.pointer (some ⟨b, 0, none⟩))] [HA.blk b (.cells [st s_0, Value.int .i64 s_1_8', s_2, Value.int .i64 s_3, Value.int .i64 s_4, st s_5].toArray 43 (0, 0))]
      refine wc_seq (fun K0_54' hK_54' => ?_)
      refine wc_seq (fun K0_55' hK_55' => ?_)
      refine wc_draw_all [] tf_mixed (by kernel_rfl) rfl (fun T_11' hT_11' => ?_)
      refine FL.val (fun _ => OV.move rfl) rfl (fun _ => rfl) rfl rfl ?_
      refine FL.call tf_ent_14 (fun _ => rfl) (ended_does b s_0 s_1_8' s_2 s_3 s_4 s_5) ⟨.inl ⟨0, rfl⟩, trivial⟩ rfl (fun _ => rfl) rfl ?_
      refine FL.val (fun _ => OV.not rfl) rfl (fun _ => rfl) rfl rfl ?_
      refine FL.val (fun _ => OV.move rfl) rfl (fun _ => rfl) rfl rfl ?_
      obtain ⟨o_30', h⟩ := h
      refine FL.cut 11 rfl (fun _ => [(0, Value.pointer (some ⟨b, 0, none⟩)), (30, Value.bool ((!(decide (s_0.length ≤ s_1_8'))) && (!decide (((s_0.getD s_1_8'.toNat 0).toNat : Int) = 10))))]) ?_ (fun K0_56' hK_56' => ?_)
      rotate_left
      · refine FL.split (!(decide (s_0.length ≤ s_1_8'))) (fun hb => ?_) (fun hb => ?_)
        · have o_29' := o_30' hb
          refine FL.set 19 (fun _ => rfl) (congrArg Value.bool hb) ?_
          refine FL.val (fun _ => OV.move rfl) rfl (fun _ => rfl) rfl rfl ?_
          refine FL.val (fun _ => OV.nilCheck rfl) rfl (fun _ => rfl) rfl rfl ?_
          refine FL.val (fun _ => OV.fieldAddr0 rfl tf_field_43_0) rfl (fun _ => rfl) rfl rfl ?_
          refine FL.val (fun _ => OV.load rfl (At.own 0 rfl) rfl tf_scal_9) rfl (fun _ => rfl) rfl rfl ?_
          refine FL.val (fun _ => OV.move rfl) rfl (fun _ => rfl) rfl rfl ?_
          refine FL.val (fun _ => OV.nilCheck rfl) rfl (fun _ => rfl) rfl rfl ?_
          refine FL.val (fun _ => OV.fieldAddr0 rfl tf_field_43_1) rfl (fun _ => rfl) rfl rfl ?_
          refine FL.val (fun _ => OV.load rfl (At.own 0 rfl) rfl tf_scal_3) rfl (fun _ => rfl) rfl rfl ?_
          refine FL.val (fun _ => OV.index rfl rfl tf_str_9 o_29') rfl (fun _ => rfl) rfl rfl ?_
          refine FL.val (fun _ => OV.neq rfl rfl) rfl (fun _ => rfl) rfl rfl ?_
          refine FL.val (fun _ => OV.pickT rfl rfl) rfl (fun _ => rfl) rfl rfl ?_
          refine FL.set 30 (fun _ => rfl) (bT (v := !decide (((s_0.getD s_1_8'.toNat 0).toNat : Int) = 10)) hb) ?_
          exact FL.weak (L' := fun _ => [(0, Value.pointer (some ⟨b, 0, none⟩)), (30, Value.bool ((!(decide (s_0.length ≤ s_1_8'))) && (!decide (((s_0.getD s_1_8'.toNat 0).toNat : Int) = 10))))]) (fun _ => ⟨rfl, rfl, trivial⟩) (FL.nil hK_56')
        · refine FL.set 19 (fun _ => rfl) (congrArg Value.bool hb) ?_
          refine FL.skip rfl (fun _ => rfl) rfl rfl ?_
          refine FL.skip rfl (fun _ => rfl) rfl rfl ?_
          refine FL.skip rfl (fun _ => rfl) rfl rfl ?_
          refine FL.skip rfl (fun _ => rfl) rfl rfl ?_
          refine FL.skip rfl (fun _ => rfl) rfl rfl ?_
          refine FL.skip rfl (fun _ => rfl) rfl rfl ?_
          refine FL.skip rfl (fun _ => rfl) rfl rfl ?_
          refine FL.skip rfl (fun _ => rfl) rfl rfl ?_
          refine FL.skip rfl (fun _ => rfl) rfl rfl ?_
          refine FL.skip rfl (fun _ => rfl) rfl rfl ?_
          refine FL.val (fun _ => OV.pickF rfl rfl) rfl (fun _ => rfl) rfl rfl ?_
          refine FL.set 30 (fun _ => rfl) (bF (v := !decide (((s_0.getD s_1_8'.toNat 0).toNat : Int) = 10)) hb) ?_
          exact FL.weak (L' := fun _ => [(0, Value.pointer (some ⟨b, 0, none⟩)), (30, Value.bool ((!(decide (s_0.length ≤ s_1_8'))) && (!decide (((s_0.getD s_1_8'.toNat 0).toNat : Int) = 10))))]) (fun _ => ⟨rfl, rfl, trivial⟩) (FL.nil hK_56')
      refine FL.weak (L' := fun _ => [(0, Value.pointer (some ⟨b, 0, none⟩)), (30, Value.bool ((!(decide (s_0.length ≤ s_1_8'))) && (!decide (((s_0.getD s_1_8'.toNat 0).toNat : Int) = 10))))]) (fun _ => ⟨rfl, rfl, trivial⟩) (FL.nil (hT_11' (fun _ => [(0, Value.pointer (some ⟨b, 0, none⟩)), (30, Value.bool ((!(decide (s_0.length ≤ s_1_8'))) && (!decide (((s_0.getD s_1_8'.toNat 0).toNat : Int) = 10))))]) (fun _ => ?_)))
      refine KX.go (hK_55' [(0, Value.pointer (some ⟨b, 0, none⟩)), (30, Value.bool ((!(decide (s_0.length ≤ s_1_8'))) && (!decide (((s_0.getD s_1_8'.toNat 0).toNat : Int) = 10))))] _ ?_) ⟨rfl, rfl, trivial⟩
      refine wc_cond (b := (!(decide (s_0.length ≤ s_1_8'))) && (!decide (((s_0.getD s_1_8'.toNat 0).toNat : Int) = 10))) rfl (fun hb => ?_) (fun hb => ?_)
      · replace h := if_T h hb
        refine wc_skip ?_
        refine KX.go (hK_54' [(0, Value.pointer (some ⟨b, 0, none⟩))] _ ?_) ⟨rfl, trivial⟩
        refine wc_block ?_
        refine wc_region ?_
        refine WL.val (OV.move rfl) rfl rfl rfl ?_
        refine WL.val (OV.nilCheck rfl) rfl rfl rfl ?_
        refine WL.val (OV.fieldAddr0 rfl tf_field_43_1) rfl rfl rfl ?_
        refine WL.val (OV.load rfl (At.own 0 rfl) rfl tf_scal_3) rfl rfl rfl ?_
        obtain ⟨o_31', h⟩ := h
        refine WL.val (OV.add rfl rfl o_31') rfl rfl rfl ?_
        refine WL.val (OV.nilCheck rfl) rfl rfl rfl ?_
        refine WL.val (OV.fieldAddr0 rfl tf_field_43_1) rfl rfl rfl ?_
        refine WL.store (vs := [Value.int .i64 (s_1_8' + 1)]) (cs' := [st s_0, Value.int .i64 (s_1_8' + 1), s_2, Value.int .i64 s_3, Value.int .i64 s_4, st s_5]) 0 rfl rfl rfl rfl tf_size_3 (Nat.le_of_ble_eq_true rfl) rfl rfl rfl ?_
        refine WL.nil ?_
        exact KX.goH (hK_53' (s_1_8' + 1) h.1 h.2) ⟨rfl, trivial⟩ [0] rfl rfl
      · replace h := if_F h hb
        refine wc_exit ?_
        exact KX.goH (hK_42' s_1_8' h.1 h.2) ⟨rfl, trivial⟩ [0] rfl rfl
    · replace h := if_F h hb
      obtain ⟨J0_2', hJ_2', h⟩ := h
      refine wc_seqJ (X := Bool) (fun σ => J0_2' σ) (fun σ => [(0, Value.pointer (some ⟨b, 0, none⟩)), (38, Value.bool σ)]) (fun σ => [HA.blk b (.cells [st s_0, Value.int .i64 s_1_6', s_2, Value.int .i64 s_3, Value.int .i64 s_4, st s_5].toArray 43 (0, 0))]) ?_ (fun K0_60' hK_60' => ?_)
      · rintro t38_2' hj
        replace h := hJ_2' t38_2' hj
        show WC _ _ _ _ [(0, Value.pointer (some ⟨b, 0, none⟩)), (38, Value.bool t38_2')] [HA.blk b (.cells [st s_0, Value.int .i64 s_1_6', s_2, Value.int .i64 s_3, Value.int .i64 s_4, st s_5].toArray 43 (0, 0))]
        refine wc_cond (b := t38_2') rfl (fun hb => ?_) (fun hb => ?_)
        · replace h := if_T h hb
          refine wc_region ?_
          refine WL.val (OV.move rfl) rfl rfl rfl ?_
          refine WL.val (OV.nilCheck rfl) rfl rfl rfl ?_
          refine WL.val (OV.fieldAddr0 rfl tf_field_43_1) rfl rfl rfl ?_
          refine WL.val (OV.load rfl (At.own 0 rfl) rfl tf_scal_3) rfl rfl rfl ?_
          obtain ⟨o_32', h⟩ := h
          refine WL.val (OV.add rfl rfl o_32') rfl rfl rfl ?_
          refine WL.val (OV.nilCheck rfl) rfl rfl rfl ?_
          refine WL.val (OV.fieldAddr0 rfl tf_field_43_1) rfl rfl rfl ?_
          refine WL.store (vs := [Value.int .i64 (s_1_6' + 1)]) (cs' := [st s_0, Value.int .i64 (s_1_6' + 1), s_2, Value.int .i64 s_3, Value.int .i64 s_4, st s_5]) 0 rfl rfl rfl rfl tf_size_3 (Nat.le_of_ble_eq_true rfl) rfl rfl rfl ?_
          refine WL.nil ?_
          exact KX.goH (hK_42' (s_1_6' + 1) h.1 h.2) ⟨rfl, trivial⟩ [0] rfl rfl
        · replace h := if_F h hb
          refine wc_ret ?_
          exact hE.ret [0] rfl rfl (.inl ⟨_, _, _, _, _, _, h, rfl⟩) (ResV.none rfl)
      · skip
        refine wc_seq (fun K0_61' hK_61' => ?_)
        refine wc_region ?_
        refine WL.val (OV.eql rfl rfl) rfl rfl rfl ?_
        refine WL.val (OV.assign rfl) rfl rfl rfl ?_
        refine WL.nil ?_
        refine KX.go (hK_61' [(0, Value.pointer (some ⟨b, 0, none⟩)), (13, Value.int .u8 ((s_0.getD s_1_6'.toNat 0).toNat : Int)), (38, Value.bool (decide (((s_0.getD s_1_6'.toNat 0).toNat : Int) = 32)))] _ ?_) ⟨rfl, rfl, rfl, trivial⟩
        refine wc_cond (b := decide (((s_0.getD s_1_6'.toNat 0).toNat : Int) = 32)) rfl (fun hb => ?_) (fun hb => ?_)
        · replace h := if_T h hb
          refine wc_skip ?_
          exact KX.goH (hK_60' (decide (((s_0.getD s_1_6'.toNat 0).toNat : Int) = 32)) h) ⟨rfl, rfl, trivial⟩ [0] rfl rfl
        · replace h := if_F h hb
          refine wc_seq (fun K0_62' hK_62' => ?_)
          refine wc_region ?_
          refine WL.val (OV.eql rfl rfl) rfl rfl rfl ?_
          refine WL.val (OV.assign rfl) rfl rfl rfl ?_
          refine WL.nil ?_
          refine KX.go (hK_62' [(0, Value.pointer (some ⟨b, 0, none⟩)), (13, Value.int .u8 ((s_0.getD s_1_6'.toNat 0).toNat : Int)), (38, Value.bool (decide (((s_0.getD s_1_6'.toNat 0).toNat : Int) = 9)))] _ ?_) ⟨rfl, rfl, rfl, trivial⟩
          refine wc_cond (b := decide (((s_0.getD s_1_6'.toNat 0).toNat : Int) = 9)) rfl (fun hb => ?_) (fun hb => ?_)
          · replace h := if_T h hb
            refine wc_skip ?_
            exact KX.goH (hK_60' (decide (((s_0.getD s_1_6'.toNat 0).toNat : Int) = 9)) h) ⟨rfl, rfl, trivial⟩ [0] rfl rfl
          · replace h := if_F h hb
            refine wc_seq (fun K0_63' hK_63' => ?_)
            refine wc_region ?_
            refine WL.val (OV.eql rfl rfl) rfl rfl rfl ?_
            refine WL.val (OV.assign rfl) rfl rfl rfl ?_
            refine WL.nil ?_
            refine KX.go (hK_63' [(0, Value.pointer (some ⟨b, 0, none⟩)), (13, Value.int .u8 ((s_0.getD s_1_6'.toNat 0).toNat : Int)), (38, Value.bool (decide (((s_0.getD s_1_6'.toNat 0).toNat : Int) = 10)))] _ ?_) ⟨rfl, rfl, rfl, trivial⟩
            refine wc_cond (b := decide (((s_0.getD s_1_6'.toNat 0).toNat : Int) = 10)) rfl (fun hb => ?_) (fun hb => ?_)
            · replace h := if_T h hb
              refine wc_skip ?_
              exact KX.goH (hK_60' (decide (((s_0.getD s_1_6'.toNat 0).toNat : Int) = 10)) h) ⟨rfl, rfl, trivial⟩ [0] rfl rfl
            · replace h := if_F h hb
              refine wc_region ?_
              refine WL.val (OV.eql rfl rfl) rfl rfl rfl ?_
              refine WL.val (OV.assign rfl) rfl rfl rfl ?_
              refine WL.nil ?_
              exact KX.goH (hK_60' (decide (((s_0.getD s_1_6'.toNat 0).toNat : Int) = 13)) h) ⟨rfl, rfl, trivial⟩ [0] rfl rfl
  · replace h := if_F h hb
    refine wc_exit ?_
    exact hE.norm [0] rfl rfl (.inl ⟨_, _, _, _, _, _, h, rfl⟩) (ResV.none rfl)

theorem beq_bt (x n : UInt8) : (x == n) = decide ((x.toNat : Int) = (n.toNat : Int)) := by
  rw [Bool.eq_iff_iff, beq_iff_eq, decide_eq_true_eq]
  constructor
  · rintro rfl; rfl
  · intro h; exact UInt8.toNat_inj.1 (by omega)
theorem drop_bt {t : List UInt8} {p : Int} (h : 0 ≤ p ∧ p < t.length) : ∃ x : UInt8, t.drop p.toNat = x :: t.drop (p + 1).toNat ∧ bt t p = (x.toNat : Int) := by
  have hlt : p.toNat < t.length := by omega
  refine ⟨t[p.toNat], ?_, ?_⟩
  · rw [List.drop_eq_getElem_cons hlt, show (p + 1).toNat = p.toNat + 1 by omega]
  · unfold bt; rw [List.getD_eq_getElem?_getD, List.getElem?_eq_getElem hlt]; rfl
theorem gapL_at {t : List UInt8} {p : Int} (cm : Bool) (h : 0 ≤ p ∧ p < t.length) :
    gapL cm (t.drop p.toNat) = if (((cm || decide (bt t p = 35)) && !decide (bt t p = 10)) || decide (bt t p = 32) || decide (bt t p = 9) || decide (bt t p = 10) || decide (bt t p = 13)) = true then 1 + gapL ((cm || decide (bt t p = 35)) && !decide (bt t p = 10)) (t.drop (p + 1).toNat) else 0 := by
  obtain ⟨x, hx, hb⟩ := drop_bt h
  rw [hx, gapL, hb]
  simp only [bne, beq_bt]
  rfl
theorem gapM_bd {t : List UInt8} {a : Int} (h : 0 ≤ a ∧ a ≤ t.length) : a ≤ gapM t a ∧ gapM t a ≤ t.length := by
  have := gapL_le false (t.drop a.toNat)
  rw [List.length_drop] at this
  unfold gapM; omega
theorem gap_end {t : List UInt8} {p : Int} (cm : Bool) (h : (t.length : Int) ≤ p) : gapL cm (t.drop p.toNat) = 0 := by
  rw [List.drop_eq_nil_of_le (by omega)]; cases cm <;> rfl
theorem skip_does (b : Nat) (t : List UInt8) (a : Int) (w : Value) (fc fa : Int) (ft : List UInt8) (h : 0 ≤ a ∧ a ≤ t.length ∧ t.length ≤ 4096) :
    Does Tryd.prog 13 [.pointer (some ⟨b, 0, none⟩)] [] [.blk b (scB t a w fc fa ft)] (Ret (.tuple #[]) [.blk b (scB t (gapM t a) w fc fa ft)]) := by
  refine (skip_wp b t a w fc fa ft (fun t' a' w' c' p' x => t' = t ∧ a' = gapM t a ∧ w' = w ∧ c' = fc ∧ p' = fa ∧ x = ft) ?_).weak ?_
  · unfold skip_vc
    refine ⟨fun p => 0 ≤ p ∧ p ≤ t.length ∧ gapM t p = gapM t a, fun p => (t.length - p).toNat, ⟨h.1, h.2.1, rfl⟩, ?_⟩
    rintro p ⟨h0, h1, hg⟩
    by_cases hp : p < t.length
    · rw [if_pos (by simp; omega)]
      have hb : 0 ≤ p ∧ p < t.length := ⟨h0, hp⟩
      have hs := gapL_at false hb
      simp only [Bool.false_or] at hs
      have hI : I64 (p + 1) := ⟨by omega, by omega⟩
      refine ⟨hb, ?_⟩
      show (if decide (bt t p = 35) = true then _ else _)
      by_cases c35 : bt t p = 35
      · rw [if_pos (by simpa using c35)]
        have ht : p + gapL true (t.drop p.toNat) = gapM t a := by
          rw [← hg]; unfold gapM
          have h2 := gapL_at true hb
          rw [c35] at hs h2
          rw [hs, h2]; rfl
        refine ⟨fun q => p ≤ q ∧ q ≤ t.length ∧ q + gapL true (t.drop q.toNat) = gapM t a, fun q => (t.length - q).toNat, ⟨Int.le_refl _, h1, ht⟩, ?_⟩
        rintro q ⟨q0, q1, hq⟩
        by_cases hql : q < t.length
        · have hqb : 0 ≤ q ∧ q < t.length := ⟨by omega, hql⟩
          refine ⟨fun _ => hqb, ?_⟩
          show (if (!decide ((t.length : Int) ≤ q) && !decide (bt t q = 10)) = true then _ else _)
          have h2 := gapL_at true hqb
          by_cases c10 : bt t q = 10
          · rw [if_neg (by simp [c10])]
            have h3 := gapL_at false hqb
            have hne : p ≠ q := fun e => by rw [← e, c35] at c10; omega
            rw [c10] at h2 h3
            refine ⟨⟨by omega, q1, ?_⟩, by show (t.length - q).toNat < (t.length - p).toNat; omega⟩
            rw [← hq, h2]; unfold gapM; rw [h3]; rfl
          · rw [if_pos (by simp [c10]; omega)]
            refine ⟨⟨by omega, by omega⟩, ⟨by omega, by omega, ?_⟩, by show (t.length - (q + 1)).toNat < (t.length - q).toNat; omega⟩
            rw [← hq, h2]
            simp [c10]; omega
        · refine ⟨fun hh => absurd hh (by simp; omega), ?_⟩
          rw [if_neg (by simp; omega)]
          refine ⟨⟨by omega, q1, ?_⟩, by show (t.length - q).toNat < (t.length - p).toNat; omega⟩
          rw [← hq]; unfold gapM
          rw [gap_end _ (by omega), gap_end _ (by omega)]
      · rw [if_neg (by simpa using c35)]
        have hkey : gapL false (t.drop p.toNat) = if decide (bt t p = 32 ∨ bt t p = 9 ∨ bt t p = 10 ∨ bt t p = 13) = true then 1 + gapL false (t.drop (p + 1).toNat) else 0 := by
          rw [hs]
          simp only [c35, decide_false, Bool.false_and, Bool.false_or]
          congr 1
          simp [or_assoc]
        refine ⟨fun r => r = decide (bt t p = 32 ∨ bt t p = 9 ∨ bt t p = 10 ∨ bt t p = 13), fun r hr => ?_, ?_⟩
        · rw [← hr] at hkey
          by_cases hr2 : r = true
          · rw [if_pos hr2]
            rw [if_pos hr2] at hkey
            refine ⟨hI, ⟨by omega, by omega, ?_⟩, by show (t.length - (p + 1)).toNat < (t.length - p).toNat; omega⟩
            rw [← hg]; unfold gapM; rw [hkey]; omega
          · rw [if_neg hr2]
            rw [if_neg hr2] at hkey
            refine ⟨rfl, ?_, rfl, rfl, rfl, rfl⟩
            rw [← hg]; unfold gapM; rw [hkey]; omega
        · show (if decide (bt t p = 32) = true then decide (bt t p = 32) = _ else if decide (bt t p = 9) = true then decide (bt t p = 9) = _ else if decide (bt t p = 10) = true then decide (bt t p = 10) = _ else decide (bt t p = 13) = _)
          generalize bt t p = c
          by_cases e1 : c = 32
          · simp [e1]
          · by_cases e2 : c = 9
            · simp [e2]
            · by_cases e3 : c = 10
              · simp [e3]
              · simp [e1, e2, e3]
    · rw [if_neg (by simp; omega)]
      refine ⟨rfl, ?_, rfl, rfl, rfl, rfl⟩
      rw [← hg]; unfold gapM; rw [gap_end _ (by omega)]; omega
  · rintro o (⟨_, _, _, _, _, _, ⟨rfl, rfl, rfl, rfl, rfl, rfl⟩, rfl⟩ | h)
    · rfl
    · exact h.elim

end Go.Proofs.YtlfolgbaageknaaDoor
