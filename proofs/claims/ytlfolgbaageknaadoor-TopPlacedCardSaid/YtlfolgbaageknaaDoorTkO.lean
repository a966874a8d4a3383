/-
  One token.
-/
import Derived.Test.YtlfolgbaageknaaDoorTkQ
namespace Go.Proofs.YtlfolgbaageknaaDoor
open Go Go.RowKit

theorem tf_ent_23 : entB Tryd.prog 23 = true := by kernel_rfl
theorem tf_ent_24 : entB Tryd.prog 24 = true := by kernel_rfl
theorem tf_ent_26 : entB Tryd.prog 26 = true := by kernel_rfl
theorem tf_ent_27 : entB Tryd.prog 27 = true := by kernel_rfl
theorem tf_ent_28 : entB Tryd.prog 28 = true := by kernel_rfl

def one_vc (s_0 : List UInt8) (s_1 : Int) (s_3 : Int) (s_4 : Int) (s_5 : List UInt8) (sl : List Tok) (K : Bool → (List UInt8) → Int → Int → Int → (List UInt8) → (List Tok) → Prop) : Prop :=
  (0 ≤ s_1 ∧ s_1 < s_0.length) ∧
  (if (letterB ((s_0.getD s_1.toNat 0).toNat : Int)) = true then
    ∃ (Inv : Int → Prop) (mu : Int → Nat),
      Inv s_1 ∧ ∀ (s_1_2' : Int), Inv s_1_2' →
        ((!(decide (s_0.length ≤ s_1_2'))) = true → (0 ≤ s_1_2' ∧ s_1_2' < s_0.length) ∧ ((letterB ((s_0.getD s_1_2'.toNat 0).toNat : Int)) = false → (0 ≤ s_1_2' ∧ s_1_2' < s_0.length))) ∧
        (if ((!(decide (s_0.length ≤ s_1_2'))) && ((letterB ((s_0.getD s_1_2'.toNat 0).toNat : Int)) || (digitB ((s_0.getD s_1_2'.toNat 0).toNat : Int)))) = true then
          (I64 (s_1_2' + 1)) ∧
          Inv (s_1_2' + 1) ∧ mu (s_1_2' + 1) < mu s_1_2'
        else
          (I64 (s_1_2' - s_1)) ∧
          (if (decide (32 < s_1_2' - s_1)) = true then
            K false s_0 s_1_2' 1 s_1 [] sl
          else
            (0 ≤ s_1 ∧ s_1 ≤ s_1_2' ∧ s_1_2' ≤ s_0.length) ∧
            (sl.length ≤ 4096) ∧
            (
              K true s_0 s_1_2' s_3 s_4 s_5 (sl ++ [((1 : Int), s_1, (s_0.drop s_1.toNat).take (s_1_2'.toNat - s_1.toNat))]))))
  else
    (if (decide (((s_0.getD s_1.toNat 0).toNat : Int) = 34)) = true then
      (0 ≤ s_1 ∧ s_1 < s_0.length ∧ s_0.length ≤ 4096 ∧ sl.length ≤ 4096) ∧
      (∀ (ok : Bool) (at0 : Int) (l : List Tok) (fc : Int) (fa : Int) (ft : List UInt8), Took (quotedM s_0 s_1) s_0 sl s_3 s_4 s_5 ok at0 l fc fa ft →
        K ok s_0 at0 fc fa ft l)
    else
      (if (decide (((s_0.getD s_1.toNat 0).toNat : Int) = 47)) = true then
        (0 ≤ s_1 ∧ s_1 < s_0.length ∧ s_0.length ≤ 4096 ∧ sl.length ≤ 4096) ∧
        (∀ (ok_1' : Bool) (at0_1' : Int) (l_1' : List Tok) (fc_1' : Int) (fa_1' : Int) (ft_1' : List UInt8), Took (regexM s_0 s_1) s_0 sl s_3 s_4 s_5 ok_1' at0_1' l_1' fc_1' fa_1' ft_1' →
          K ok_1' s_0 at0_1' fc_1' fa_1' ft_1' l_1')
      else
        (if (decide (0 ≤ Lib.indexByte ([61, 59, 40, 41, 123, 125, 44, 124, 38, 45, 46, 126, 42, 43, 63] : List UInt8) (((s_0.getD s_1.toNat 0).toNat : Int)).toNat.toUInt8)) = true then
          (I64 (s_1 + 1)) ∧
          (0 ≤ s_1 ∧ s_1 ≤ (s_1 + 1) ∧ (s_1 + 1) ≤ s_0.length) ∧
          (sl.length ≤ 4096) ∧
          (
            K true s_0 (s_1 + 1) s_3 s_4 s_5 (sl ++ [((4 : Int), s_1, (s_0.drop s_1.toNat).take ((s_1 + 1).toNat - s_1.toNat))]))
        else
          (0 ≤ s_1 ∧ s_1 ≤ s_0.length) ∧
          (if (Lib.hasPrefix (s_0.drop s_1.toNat) ([62, 62] : List UInt8)) = true then
            (I64 (s_1 + 2)) ∧
            (sl.length ≤ 4096) ∧
            (
              K true s_0 (s_1 + 2) s_3 s_4 s_5 (sl ++ [((4 : Int), s_1, ([62, 62] : List UInt8))]))
          else
            K false s_0 s_1 50 s_1 [] sl)))))
set_option maxRecDepth 100000 in
theorem one_wp (b : Nat) (w : Value) (s_0 : List UInt8) (s_1 : Int) (s_3 : Int) (s_4 : Int) (s_5 : List UInt8) (sl : List Tok) (K : Bool → (List UInt8) → Int → Int → Int → (List UInt8) → (List Tok) → Prop) (h : one_vc s_0 s_1 s_3 s_4 s_5 sl K) :
    Does Tryd.prog 15 [Value.pointer (some ⟨b, 0, none⟩)] [] [HA.blk b (.cells [st s_0, Value.int .i64 s_1, w, Value.int .i64 s_3, Value.int .i64 s_4, st s_5].toArray 43 (0, 0)), HA.row w 34 3 sl.length (sl.flatMap tokC)] (fun o => (∃ (v : Bool) (d_1' : List UInt8) (d_2' : Int) (d_3' : Int) (d_4' : Int) (d_5' : List UInt8) (w_6' : Value) (d : List Tok), K v d_1' d_2' d_3' d_4' d_5' d ∧ o = .ret (Value.bool v) [HA.blk b (.cells [st d_1', Value.int .i64 d_2', w_6', Value.int .i64 d_3', Value.int .i64 d_4', st d_5'].toArray 43 (0, 0)), HA.row w_6' 34 3 d.length (d.flatMap tokC)]) ∨ (False)) := by
  unfold one_vc at h
  refine does_of_wc (n := 130) (L0 := [(0, Value.pointer (some ⟨b, 0, none⟩))]) Tryd.func15 rfl rfl rfl rfl (fun w0 M Q hE => ?_)
  refine wc_seq (fun K0 hK => ?_)
  refine wc_region ?_
  refine WL.val (OV.assign rfl) rfl rfl rfl ?_
  refine WL.nil ?_
  refine KX.go (hK [(0, Value.pointer (some ⟨b, 0, none⟩))] _ ?_) ⟨rfl, trivial⟩
  refine wc_seq (fun K0_1' hK_1' => ?_)
  refine wc_region ?_
  refine WL.val (OV.move rfl) rfl rfl rfl ?_
  refine WL.val (OV.nilCheck rfl) rfl rfl rfl ?_
  refine WL.val (OV.fieldAddr0 rfl tf_field_43_1) rfl rfl rfl ?_
  refine WL.val (OV.load rfl (At.own 0 rfl) rfl tf_scal_3) rfl rfl rfl ?_
  refine WL.val (OV.assign rfl) rfl rfl rfl ?_
  refine WL.nil ?_
  refine KX.go (hK_1' [(0, Value.pointer (some ⟨b, 0, none⟩)), (3, Value.int .i64 s_1)] _ ?_) ⟨rfl, rfl, trivial⟩
  refine wc_seq (fun K0_2' hK_2' => ?_)
  refine wc_seq (fun K0_3' hK_3' => ?_)
  refine wc_region ?_
  refine WL.val (OV.move rfl) rfl rfl rfl ?_
  refine WL.val (OV.nilCheck rfl) rfl rfl rfl ?_
  refine WL.val (OV.fieldAddr0 rfl tf_field_43_0) rfl rfl rfl ?_
  refine WL.val (OV.load rfl (At.own 0 rfl) rfl tf_scal_9) rfl rfl rfl ?_
  refine WL.val (OV.move rfl) rfl rfl rfl ?_
  obtain ⟨o, h⟩ := h
  refine WL.val (OV.index rfl rfl tf_str_9 o) rfl rfl rfl ?_
  refine WL.val (OV.assign rfl) rfl rfl rfl ?_
  refine WL.nil ?_
  refine KX.go (hK_3' [(0, Value.pointer (some ⟨b, 0, none⟩)), (3, Value.int .i64 s_1), (4, Value.int .u8 ((s_0.getD s_1.toNat 0).toNat : Int))] _ ?_) ⟨rfl, rfl, rfl, trivial⟩
  refine wc_block ?_
  refine wc_seq (fun K0_4' hK_4' => ?_)
  refine wc_region ?_
  refine WL.val (OV.move rfl) rfl rfl rfl ?_
  refine WL.call (A := []) tf_ent_23 rfl (tokletter_does ((s_0.getD s_1.toNat 0).toNat : Int)) rfl trivial rfl rfl ?_
  refine WL.val (OV.assign rfl) rfl rfl rfl ?_
  refine WL.nil ?_
  refine KX.go (hK_4' [(0, Value.pointer (some ⟨b, 0, none⟩)), (3, Value.int .i64 s_1), (4, Value.int .u8 ((s_0.getD s_1.toNat 0).toNat : Int)), (15, Value.bool (letterB ((s_0.getD s_1.toNat 0).toNat : Int)))] _ ?_) ⟨rfl, rfl, rfl, rfl, trivial⟩
  refine wc_cond (b := letterB ((s_0.getD s_1.toNat 0).toNat : Int)) rfl (fun hb => ?_) (fun hb => ?_)
  · replace h := if_T h hb
    refine wc_seq (fun K0_5' hK_5' => ?_)
    refine wc_block ?_
    obtain ⟨Inv, mu, h0, hr⟩ := h
    refine wc_loop (S := Int) (fun σ => Inv σ) (fun σ => mu σ) (fun σ => [(0, Value.pointer (some ⟨b, 0, none⟩)), (3, Value.int .i64 s_1)]) (fun σ => [HA.blk b (.cells [st s_0, Value.int .i64 σ, w, Value.int .i64 s_3, Value.int .i64 s_4, st s_5].toArray 43 (0, 0)), HA.row w 34 3 sl.length (sl.flatMap tokC)]) s_1 h0 ⟨rfl, rfl, trivial⟩ rfl ?_
    rintro s_1_2' hi K0_14' hK_14'
    have h := hr s_1_2' hi
    show WC _ _ _ _ [(0, Value.pointer (some ⟨b, 0, none⟩)), (3, Value.int .i64 s_1)] [HA.blk b (.cells [st s_0, Value.int .i64 s_1_2', w, Value.int .i64 s_3, Value.int .i64 s_4, st s_5].toArray 43 (0, 0)), HA.row w 34 3 sl.length (sl.flatMap tokC)]
    refine wc_seq (fun K0_15' hK_15' => ?_)
    refine wc_seq (fun K0_16' hK_16' => ?_)
    refine wc_draw_all [] tf_mixed (by kernel_rfl) rfl (fun T_2' hT_2' => ?_)
    refine FL.val (fun _ => OV.move rfl) rfl (fun _ => rfl) rfl rfl ?_
    refine FL.call tf_ent_14 (fun _ => rfl) (ended_does b s_0 s_1_2' w s_3 s_4 s_5) ⟨.inl ⟨0, rfl⟩, trivial⟩ rfl (fun _ => rfl) rfl ?_
    refine FL.val (fun _ => OV.not rfl) rfl (fun _ => rfl) rfl rfl ?_
    refine FL.val (fun _ => OV.move rfl) rfl (fun _ => rfl) rfl rfl ?_
    obtain ⟨o_14', h⟩ := h
    refine FL.cut 23 rfl (fun _ => [(0, Value.pointer (some ⟨b, 0, none⟩)), (3, Value.int .i64 s_1), (44, Value.bool ((!(decide (s_0.length ≤ s_1_2'))) && ((letterB ((s_0.getD s_1_2'.toNat 0).toNat : Int)) || (digitB ((s_0.getD s_1_2'.toNat 0).toNat : Int)))))]) ?_ (fun K0_18' hK_18' => ?_)
    rotate_left
    · refine FL.split (!(decide (s_0.length ≤ s_1_2'))) (fun hb => ?_) (fun hb => ?_)
      · obtain ⟨o_11', o_13'⟩ := o_14' hb
        refine FL.set 21 (fun _ => rfl) (congrArg Value.bool hb) ?_
        refine FL.val (fun _ => OV.move rfl) rfl (fun _ => rfl) rfl rfl ?_
        refine FL.val (fun _ => OV.nilCheck rfl) rfl (fun _ => rfl) rfl rfl ?_
        refine FL.val (fun _ => OV.fieldAddr0 rfl tf_field_43_0) rfl (fun _ => rfl) rfl rfl ?_
        refine FL.val (fun _ => OV.load rfl (At.own 0 rfl) rfl tf_scal_9) rfl (fun _ => rfl) rfl rfl ?_
        refine FL.val (fun _ => OV.move rfl) rfl (fun _ => rfl) rfl rfl ?_
        refine FL.val (fun _ => OV.nilCheck rfl) rfl (fun _ => rfl) rfl rfl ?_
        refine FL.val (fun _ => OV.fieldAddr0 rfl tf_field_43_1) rfl (fun _ => rfl) rfl rfl ?_
        refine FL.val (fun _ => OV.load rfl (At.own 0 rfl) rfl tf_scal_3) rfl (fun _ => rfl) rfl rfl ?_
        refine FL.val (fun _ => OV.index rfl rfl tf_str_9 o_11') rfl (fun _ => rfl) rfl rfl ?_
        refine FL.call tf_ent_23 (fun _ => rfl) (tokletter_does ((s_0.getD s_1_2'.toNat 0).toNat : Int)) trivial rfl (fun _ => rfl) rfl ?_
        refine FL.val (fun _ => OV.move rfl) rfl (fun _ => rfl) rfl rfl ?_
        refine FL.cut 11 rfl (fun _ => [(0, Value.pointer (some ⟨b, 0, none⟩)), (3, Value.int .i64 s_1), (21, Value.bool true), (43, Value.bool ((letterB ((s_0.getD s_1_2'.toNat 0).toNat : Int)) || (digitB ((s_0.getD s_1_2'.toNat 0).toNat : Int))))]) ?_ (fun K0_17' hK_17' => ?_)
        rotate_left
        · refine FL.split (letterB ((s_0.getD s_1_2'.toNat 0).toNat : Int)) (fun hb => ?_) (fun hb => ?_)
          · refine FL.set 32 (fun _ => rfl) (congrArg Value.bool hb) ?_
            refine FL.skip rfl (fun _ => rfl) rfl rfl ?_
            refine FL.skip rfl (fun _ => rfl) rfl rfl ?_
            refine FL.skip rfl (fun _ => rfl) rfl rfl ?_
            refine FL.skip rfl (fun _ => rfl) rfl rfl ?_
            refine FL.skip rfl (fun _ => rfl) rfl rfl ?_
            refine FL.skip rfl (fun _ => rfl) rfl rfl ?_
            refine FL.skip rfl (fun _ => rfl) rfl rfl ?_
            refine FL.skip rfl (fun _ => rfl) rfl rfl ?_
            refine FL.skip rfl (fun _ => rfl) rfl rfl ?_
            refine FL.skip rfl (fun _ => rfl) rfl rfl ?_
            refine FL.val (fun _ => OV.pickT rfl rfl) rfl (fun _ => rfl) rfl rfl ?_
            refine FL.set 43 (fun _ => rfl) (oT (v := digitB ((s_0.getD s_1_2'.toNat 0).toNat : Int)) hb) ?_
            exact FL.weak (L' := fun _ => [(0, Value.pointer (some ⟨b, 0, none⟩)), (3, Value.int .i64 s_1), (21, Value.bool true), (43, Value.bool ((letterB ((s_0.getD s_1_2'.toNat 0).toNat : Int)) || (digitB ((s_0.getD s_1_2'.toNat 0).toNat : Int))))]) (fun _ => ⟨rfl, rfl, rfl, rfl, trivial⟩) (FL.nil hK_17')
          · have o_12' := o_13' hb
            refine FL.set 32 (fun _ => rfl) (congrArg Value.bool hb) ?_
            refine FL.val (fun _ => OV.move rfl) rfl (fun _ => rfl) rfl rfl ?_
            refine FL.val (fun _ => OV.nilCheck rfl) rfl (fun _ => rfl) rfl rfl ?_
            refine FL.val (fun _ => OV.fieldAddr0 rfl tf_field_43_0) rfl (fun _ => rfl) rfl rfl ?_
            refine FL.val (fun _ => OV.load rfl (At.own 0 rfl) rfl tf_scal_9) rfl (fun _ => rfl) rfl rfl ?_
            refine FL.val (fun _ => OV.move rfl) rfl (fun _ => rfl) rfl rfl ?_
            refine FL.val (fun _ => OV.nilCheck rfl) rfl (fun _ => rfl) rfl rfl ?_
            refine FL.val (fun _ => OV.fieldAddr0 rfl tf_field_43_1) rfl (fun _ => rfl) rfl rfl ?_
            refine FL.val (fun _ => OV.load rfl (At.own 0 rfl) rfl tf_scal_3) rfl (fun _ => rfl) rfl rfl ?_
            refine FL.val (fun _ => OV.index rfl rfl tf_str_9 o_12') rfl (fun _ => rfl) rfl rfl ?_
            refine FL.call tf_ent_24 (fun _ => rfl) (tokdigit_does ((s_0.getD s_1_2'.toNat 0).toNat : Int)) trivial rfl (fun _ => rfl) rfl ?_
            refine FL.val (fun _ => OV.pickF rfl rfl) rfl (fun _ => rfl) rfl rfl ?_
            refine FL.set 43 (fun _ => rfl) (oF (v := digitB ((s_0.getD s_1_2'.toNat 0).toNat : Int)) hb) ?_
            exact FL.weak (L' := fun _ => [(0, Value.pointer (some ⟨b, 0, none⟩)), (3, Value.int .i64 s_1), (21, Value.bool true), (43, Value.bool ((letterB ((s_0.getD s_1_2'.toNat 0).toNat : Int)) || (digitB ((s_0.getD s_1_2'.toNat 0).toNat : Int))))]) (fun _ => ⟨rfl, rfl, rfl, rfl, trivial⟩) (FL.nil hK_17')
        refine FL.val (fun _ => OV.pickT rfl rfl) rfl (fun _ => rfl) rfl rfl ?_
        refine FL.set 44 (fun _ => rfl) (bT (v := (letterB ((s_0.getD s_1_2'.toNat 0).toNat : Int)) || (digitB ((s_0.getD s_1_2'.toNat 0).toNat : Int))) hb) ?_
        exact FL.weak (L' := fun _ => [(0, Value.pointer (some ⟨b, 0, none⟩)), (3, Value.int .i64 s_1), (44, Value.bool ((!(decide (s_0.length ≤ s_1_2'))) && ((letterB ((s_0.getD s_1_2'.toNat 0).toNat : Int)) || (digitB ((s_0.getD s_1_2'.toNat 0).toNat : Int)))))]) (fun _ => ⟨rfl, rfl, rfl, trivial⟩) (FL.nil hK_18')
      · refine FL.set 21 (fun _ => rfl) (congrArg Value.bool hb) ?_
        refine FL.skip rfl (fun _ => rfl) rfl rfl ?_
        refine FL.skip rfl (fun _ => rfl) rfl rfl ?_
        refine FL.skip rfl (fun _ => rfl) rfl rfl ?_
        refine FL.skip rfl (fun _ => rfl) rfl rfl ?_
        refine FL.skip rfl (fun _ => rfl) rfl rfl ?_
        refine FL.skip rfl (fun _ => rfl) rfl rfl ?_
        refine FL.skip rfl (fun _ => rfl) rfl rfl ?_
        refine FL.skip rfl (fun _ => rfl) rfl rfl ?_
        refine FL.skip rfl (fun _ => rfl) rfl rfl ?_
        refine FL.skip rfl (fun _ => rfl) rfl rfl ?_
        refine FL.skip rfl (fun _ => rfl) rfl rfl ?_
        refine FL.skip rfl (fun _ => rfl) rfl rfl ?_
        refine FL.skip rfl (fun _ => rfl) rfl rfl ?_
        refine FL.skip rfl (fun _ => rfl) rfl rfl ?_
        refine FL.skip rfl (fun _ => rfl) rfl rfl ?_
        refine FL.skip rfl (fun _ => rfl) rfl rfl ?_
        refine FL.skip rfl (fun _ => rfl) rfl rfl ?_
        refine FL.skip rfl (fun _ => rfl) rfl rfl ?_
        refine FL.skip rfl (fun _ => rfl) rfl rfl ?_
        refine FL.skip rfl (fun _ => rfl) rfl rfl ?_
        refine FL.skip rfl (fun _ => rfl) rfl rfl ?_
        refine FL.skip rfl (fun _ => rfl) rfl rfl ?_
        refine FL.val (fun _ => OV.pickF rfl rfl) rfl (fun _ => rfl) rfl rfl ?_
        refine FL.set 44 (fun _ => rfl) (bF (v := (letterB ((s_0.getD s_1_2'.toNat 0).toNat : Int)) || (digitB ((s_0.getD s_1_2'.toNat 0).toNat : Int))) hb) ?_
        exact FL.weak (L' := fun _ => [(0, Value.pointer (some ⟨b, 0, none⟩)), (3, Value.int .i64 s_1), (44, Value.bool ((!(decide (s_0.length ≤ s_1_2'))) && ((letterB ((s_0.getD s_1_2'.toNat 0).toNat : Int)) || (digitB ((s_0.getD s_1_2'.toNat 0).toNat : Int)))))]) (fun _ => ⟨rfl, rfl, rfl, trivial⟩) (FL.nil hK_18')
    refine FL.weak (L' := fun _ => [(0, Value.pointer (some ⟨b, 0, none⟩)), (3, Value.int .i64 s_1), (44, Value.bool ((!(decide (s_0.length ≤ s_1_2'))) && ((letterB ((s_0.getD s_1_2'.toNat 0).toNat : Int)) || (digitB ((s_0.getD s_1_2'.toNat 0).toNat : Int)))))]) (fun _ => ⟨rfl, rfl, rfl, trivial⟩) (FL.nil (hT_2' (fun _ => [(0, Value.pointer (some ⟨b, 0, none⟩)), (3, Value.int .i64 s_1), (44, Value.bool ((!(decide (s_0.length ≤ s_1_2'))) && ((letterB ((s_0.getD s_1_2'.toNat 0).toNat : Int)) || (digitB ((s_0.getD s_1_2'.toNat 0).toNat : Int)))))]) (fun _ => ?_)))
    refine KX.go (hK_16' [(0, Value.pointer (some ⟨b, 0, none⟩)), (3, Value.int .i64 s_1), (44, Value.bool ((!(decide (s_0.length ≤ s_1_2'))) && ((letterB ((s_0.getD s_1_2'.toNat 0).toNat : Int)) || (digitB ((s_0.getD s_1_2'.toNat 0).toNat : Int)))))] _ ?_) ⟨rfl, rfl, rfl, trivial⟩
    refine wc_cond (b := (!(decide (s_0.length ≤ s_1_2'))) && ((letterB ((s_0.getD s_1_2'.toNat 0).toNat : Int)) || (digitB ((s_0.getD s_1_2'.toNat 0).toNat : Int)))) rfl (fun hb => ?_) (fun hb => ?_)
    · replace h := if_T h hb
      refine wc_skip ?_
      refine KX.go (hK_15' [(0, Value.pointer (some ⟨b, 0, none⟩)), (3, Value.int .i64 s_1)] _ ?_) ⟨rfl, rfl, trivial⟩
      refine wc_block ?_
      refine wc_region ?_
      refine WL.val (OV.move rfl) rfl rfl rfl ?_
      refine WL.val (OV.nilCheck rfl) rfl rfl rfl ?_
      refine WL.val (OV.fieldAddr0 rfl tf_field_43_1) rfl rfl rfl ?_
      refine WL.val (OV.load rfl (At.own 0 rfl) rfl tf_scal_3) rfl rfl rfl ?_
      obtain ⟨o_15', h⟩ := h
      refine WL.val (OV.add rfl rfl o_15') rfl rfl rfl ?_
      refine WL.val (OV.nilCheck rfl) rfl rfl rfl ?_
      refine WL.val (OV.fieldAddr0 rfl tf_field_43_1) rfl rfl rfl ?_
      refine WL.store (vs := [Value.int .i64 (s_1_2' + 1)]) (cs' := [st s_0, Value.int .i64 (s_1_2' + 1), w, Value.int .i64 s_3, Value.int .i64 s_4, st s_5]) 0 rfl rfl rfl rfl tf_size_3 (Nat.le_of_ble_eq_true rfl) rfl rfl rfl ?_
      refine WL.nil ?_
      exact KX.goH (hK_14' (s_1_2' + 1) h.1 h.2) ⟨rfl, rfl, trivial⟩ [0, 1] rfl rfl
    · replace h := if_F h hb
      refine wc_exit ?_
      refine KX.go (hK_5' [(0, Value.pointer (some ⟨b, 0, none⟩)), (3, Value.int .i64 s_1)] _ ?_) ⟨rfl, rfl, trivial⟩
      refine wc_seq (fun K0_19' hK_19' => ?_)
      refine wc_seq (fun K0_20' hK_20' => ?_)
      refine wc_region ?_
      refine WL.val (OV.move rfl) rfl rfl rfl ?_
      refine WL.val (OV.nilCheck rfl) rfl rfl rfl ?_
      refine WL.val (OV.fieldAddr0 rfl tf_field_43_1) rfl rfl rfl ?_
      refine WL.val (OV.load rfl (At.own 0 rfl) rfl tf_scal_3) rfl rfl rfl ?_
      refine WL.val (OV.move rfl) rfl rfl rfl ?_
      obtain ⟨o_16', h⟩ := h
      refine WL.val (OV.sub rfl rfl o_16') rfl rfl rfl ?_
      refine WL.val (OV.gtr rfl rfl) rfl rfl rfl ?_
      refine WL.nil ?_
      refine KX.go (hK_20' [(0, Value.pointer (some ⟨b, 0, none⟩)), (3, Value.int .i64 s_1), (58, Value.bool (decide (32 < s_1_2' - s_1)))] _ ?_) ⟨rfl, rfl, rfl, trivial⟩
      refine wc_cond (b := decide (32 < s_1_2' - s_1)) rfl (fun hb => ?_) (fun hb => ?_)
      · replace h := if_T h hb
        refine wc_seq (fun K0_21' hK_21' => ?_)
        refine wc_region ?_
        refine WL.val (OV.move rfl) rfl rfl rfl ?_
        refine WL.val (OV.move rfl) rfl rfl rfl ?_
        refine WL.call tf_ent_25 rfl (fail_does b s_0 s_1_2' w s_3 s_4 s_5 1 s_1) rfl trivial rfl rfl ?_
        refine WL.val (OV.assign rfl) rfl rfl rfl ?_
        refine WL.nil ?_
        refine KX.go (hK_21' [(2, Value.bool false)] _ ?_) ⟨rfl, trivial⟩
        refine wc_ret ?_
        exact hE.ret [0, 1] rfl rfl (.inl ⟨_, _, _, _, _, _, _, _, h, rfl⟩) (ResV.of1 rfl (RV.tmp rfl))
      · replace h := if_F h hb
        refine wc_skip ?_
        refine KX.go (hK_19' [(0, Value.pointer (some ⟨b, 0, none⟩)), (3, Value.int .i64 s_1)] _ ?_) ⟨rfl, rfl, trivial⟩
        refine wc_seq (fun K0_22' hK_22' => ?_)
        refine wc_draw 12 [] tf_mixed (by kernel_rfl) rfl (fun T_3' hT_3' => ?_)
        refine FL.val (fun _ => OV.move rfl) rfl (fun _ => rfl) rfl rfl ?_
        refine FL.val (fun _ => OV.move rfl) rfl (fun _ => rfl) rfl rfl ?_
        refine FL.val (fun _ => OV.move rfl) rfl (fun _ => rfl) rfl rfl ?_
        refine FL.val (fun _ => OV.nilCheck rfl) rfl (fun _ => rfl) rfl rfl ?_
        refine FL.val (fun _ => OV.fieldAddr0 rfl tf_field_43_0) rfl (fun _ => rfl) rfl rfl ?_
        refine FL.val (fun _ => OV.load rfl (At.own 0 rfl) rfl tf_scal_9) rfl (fun _ => rfl) rfl rfl ?_
        refine FL.val (fun _ => OV.move rfl) rfl (fun _ => rfl) rfl rfl ?_
        refine FL.val (fun _ => OV.move rfl) rfl (fun _ => rfl) rfl rfl ?_
        refine FL.val (fun _ => OV.nilCheck rfl) rfl (fun _ => rfl) rfl rfl ?_
        refine FL.val (fun _ => OV.fieldAddr0 rfl tf_field_43_1) rfl (fun _ => rfl) rfl rfl ?_
        refine FL.val (fun _ => OV.load rfl (At.own 0 rfl) rfl tf_scal_3) rfl (fun _ => rfl) rfl rfl ?_
        obtain ⟨o_17', h⟩ := h
        refine FL.val (fun _ => OV.sliceS rfl rfl rfl tf_str_9 o_17') rfl (fun _ => rfl) rfl rfl ?_
        refine FL.weak (L' := fun γ => [(62, Value.pointer (some ⟨b, 0, none⟩)), (63, Value.int .i64 s_1), (73, st ((s_0.drop s_1.toNat).take (s_1_2'.toNat - s_1.toNat)))]) (fun γ => ⟨rfl, rfl, rfl, trivial⟩) (FL.nil (hT_3' (fun γ => [(62, Value.pointer (some ⟨b, 0, none⟩)), (63, Value.int .i64 s_1), (73, st ((s_0.drop s_1.toNat).take (s_1_2'.toNat - s_1.toNat)))]) (fun γ => ?_)))
        obtain ⟨o_18', h⟩ := h
        refine WL.callS tf_ent_16 rfl (add_does b s_0 s_1_2' w s_3 s_4 s_5 sl 1 s_1 ((s_0.drop s_1.toNat).take (s_1_2'.toNat - s_1.toNat)) o_18') rfl trivial rfl rfl (fun r H' hS => ?_) (fun c H' hS => ?_)
        · obtain ⟨w_1', ho⟩ := hS
          cases ho
          refine WL.val (OV.assign rfl) rfl rfl rfl ?_
          refine WL.nil ?_
          refine KX.go (hK_22' [(2, Value.bool true)] _ ?_) ⟨rfl, trivial⟩
          refine wc_ret ?_
          exact hE.ret [0, 1] rfl rfl (.inl ⟨_, _, _, _, _, _, _, _, h, rfl⟩) (ResV.of1 rfl (RV.tmp rfl))
        · obtain ⟨w_1', ho⟩ := hS
          cases ho
  · replace h := if_F h hb
    refine wc_seq (fun K0_23' hK_23' => ?_)
    refine wc_region ?_
    refine WL.val (OV.move rfl) rfl rfl rfl ?_
    refine WL.val (OV.eql rfl rfl) rfl rfl rfl ?_
    refine WL.val (OV.assign rfl) rfl rfl rfl ?_
    refine WL.nil ?_
    refine KX.go (hK_23' [(0, Value.pointer (some ⟨b, 0, none⟩)), (3, Value.int .i64 s_1), (4, Value.int .u8 ((s_0.getD s_1.toNat 0).toNat : Int)), (75, Value.bool (decide (((s_0.getD s_1.toNat 0).toNat : Int) = 34)))] _ ?_) ⟨rfl, rfl, rfl, rfl, trivial⟩
    refine wc_cond (b := decide (((s_0.getD s_1.toNat 0).toNat : Int) = 34)) rfl (fun hb => ?_) (fun hb => ?_)
    · replace h := if_T h hb
      refine wc_seq (fun K0_24' hK_24' => ?_)
      refine wc_region ?_
      refine WL.val (OV.move rfl) rfl rfl rfl ?_
      obtain ⟨o_19', h⟩ := h
      refine WL.callS tf_ent_26 rfl (quoted_does b s_0 s_1 w s_3 s_4 s_5 sl o_19') rfl trivial rfl rfl (fun r H' hS => ?_) (fun c H' hS => ?_)
      · obtain ⟨w_2', ok, at0, l, fc, fa, ft, hc, ho⟩ := hS
        cases ho
        replace h := h ok at0 l fc fa ft hc
        refine WL.val (OV.assign rfl) rfl rfl rfl ?_
        refine WL.nil ?_
        refine KX.go (hK_24' [(2, Value.bool ok)] _ ?_) ⟨rfl, trivial⟩
        refine wc_ret ?_
        exact hE.ret [0, 1] rfl rfl (.inl ⟨_, _, _, _, _, _, _, _, h, rfl⟩) (ResV.of1 rfl (RV.tmp rfl))
      · obtain ⟨w_2', ok, at0, l, fc, fa, ft, hc, ho⟩ := hS
        cases ho
    · replace h := if_F h hb
      refine wc_seq (fun K0_25' hK_25' => ?_)
      refine wc_region ?_
      refine WL.val (OV.move rfl) rfl rfl rfl ?_
      refine WL.val (OV.eql rfl rfl) rfl rfl rfl ?_
      refine WL.val (OV.assign rfl) rfl rfl rfl ?_
      refine WL.nil ?_
      refine KX.go (hK_25' [(0, Value.pointer (some ⟨b, 0, none⟩)), (3, Value.int .i64 s_1), (4, Value.int .u8 ((s_0.getD s_1.toNat 0).toNat : Int)), (80, Value.bool (decide (((s_0.getD s_1.toNat 0).toNat : Int) = 47)))] _ ?_) ⟨rfl, rfl, rfl, rfl, trivial⟩
      refine wc_cond (b := decide (((s_0.getD s_1.toNat 0).toNat : Int) = 47)) rfl (fun hb => ?_) (fun hb => ?_)
      · replace h := if_T h hb
        refine wc_seq (fun K0_26' hK_26' => ?_)
        refine wc_region ?_
        refine WL.val (OV.move rfl) rfl rfl rfl ?_
        obtain ⟨o_20', h⟩ := h
        refine WL.callS tf_ent_27 rfl (regex_does b s_0 s_1 w s_3 s_4 s_5 sl o_20') rfl trivial rfl rfl (fun r H' hS => ?_) (fun c H' hS => ?_)
        · obtain ⟨w_3', ok_1', at0_1', l_1', fc_1', fa_1', ft_1', hc, ho⟩ := hS
          cases ho
          replace h := h ok_1' at0_1' l_1' fc_1' fa_1' ft_1' hc
          refine WL.val (OV.assign rfl) rfl rfl rfl ?_
          refine WL.nil ?_
          refine KX.go (hK_26' [(2, Value.bool ok_1')] _ ?_) ⟨rfl, trivial⟩
          refine wc_ret ?_
          exact hE.ret [0, 1] rfl rfl (.inl ⟨_, _, _, _, _, _, _, _, h, rfl⟩) (ResV.of1 rfl (RV.tmp rfl))
        · obtain ⟨w_3', ok_1', at0_1', l_1', fc_1', fa_1', ft_1', hc, ho⟩ := hS
          cases ho
      · replace h := if_F h hb
        refine wc_seq (fun K0_27' hK_27' => ?_)
        refine wc_region ?_
        refine WL.val (OV.move rfl) rfl rfl rfl ?_
        refine WL.call (A := []) tf_ent_19 rfl (indexByte_does ([61, 59, 40, 41, 123, 125, 44, 124, 38, 45, 46, 126, 42, 43, 63] : List UInt8) ((s_0.getD s_1.toNat 0).toNat : Int)) rfl trivial rfl rfl ?_
        refine WL.val (OV.geq rfl rfl) rfl rfl rfl ?_
        refine WL.val (OV.assign rfl) rfl rfl rfl ?_
        refine WL.nil ?_
        refine KX.go (hK_27' [(0, Value.pointer (some ⟨b, 0, none⟩)), (3, Value.int .i64 s_1), (85, Value.bool (decide (0 ≤ Lib.indexByte ([61, 59, 40, 41, 123, 125, 44, 124, 38, 45, 46, 126, 42, 43, 63] : List UInt8) (((s_0.getD s_1.toNat 0).toNat : Int)).toNat.toUInt8)))] _ ?_) ⟨rfl, rfl, rfl, trivial⟩
        refine wc_cond (b := decide (0 ≤ Lib.indexByte ([61, 59, 40, 41, 123, 125, 44, 124, 38, 45, 46, 126, 42, 43, 63] : List UInt8) (((s_0.getD s_1.toNat 0).toNat : Int)).toNat.toUInt8)) rfl (fun hb => ?_) (fun hb => ?_)
        · replace h := if_T h hb
          refine wc_seq (fun K0_28' hK_28' => ?_)
          refine wc_region ?_
          refine WL.val (OV.move rfl) rfl rfl rfl ?_
          refine WL.val (OV.nilCheck rfl) rfl rfl rfl ?_
          refine WL.val (OV.fieldAddr0 rfl tf_field_43_1) rfl rfl rfl ?_
          refine WL.val (OV.load rfl (At.own 0 rfl) rfl tf_scal_3) rfl rfl rfl ?_
          obtain ⟨o_21', h⟩ := h
          refine WL.val (OV.add rfl rfl o_21') rfl rfl rfl ?_
          refine WL.val (OV.nilCheck rfl) rfl rfl rfl ?_
          refine WL.val (OV.fieldAddr0 rfl tf_field_43_1) rfl rfl rfl ?_
          refine WL.store (vs := [Value.int .i64 (s_1 + 1)]) (cs' := [st s_0, Value.int .i64 (s_1 + 1), w, Value.int .i64 s_3, Value.int .i64 s_4, st s_5]) 0 rfl rfl rfl rfl tf_size_3 (Nat.le_of_ble_eq_true rfl) rfl rfl rfl ?_
          refine WL.nil ?_
          refine KX.go (hK_28' [(0, Value.pointer (some ⟨b, 0, none⟩)), (3, Value.int .i64 s_1)] _ ?_) ⟨rfl, rfl, trivial⟩
          refine wc_seq (fun K0_29' hK_29' => ?_)
          refine wc_draw 12 [] tf_mixed (by kernel_rfl) rfl (fun T_4' hT_4' => ?_)
          refine FL.val (fun _ => OV.move rfl) rfl (fun _ => rfl) rfl rfl ?_
          refine FL.val (fun _ => OV.move rfl) rfl (fun _ => rfl) rfl rfl ?_
          refine FL.val (fun _ => OV.move rfl) rfl (fun _ => rfl) rfl rfl ?_
          refine FL.val (fun _ => OV.nilCheck rfl) rfl (fun _ => rfl) rfl rfl ?_
          refine FL.val (fun _ => OV.fieldAddr0 rfl tf_field_43_0) rfl (fun _ => rfl) rfl rfl ?_
          refine FL.val (fun _ => OV.load rfl (At.own 0 rfl) rfl tf_scal_9) rfl (fun _ => rfl) rfl rfl ?_
          refine FL.val (fun _ => OV.move rfl) rfl (fun _ => rfl) rfl rfl ?_
          refine FL.val (fun _ => OV.move rfl) rfl (fun _ => rfl) rfl rfl ?_
          refine FL.val (fun _ => OV.nilCheck rfl) rfl (fun _ => rfl) rfl rfl ?_
          refine FL.val (fun _ => OV.fieldAddr0 rfl tf_field_43_1) rfl (fun _ => rfl) rfl rfl ?_
          refine FL.val (fun _ => OV.load rfl (At.own 0 rfl) rfl tf_scal_3) rfl (fun _ => rfl) rfl rfl ?_
          obtain ⟨o_22', h⟩ := h
          refine FL.val (fun _ => OV.sliceS rfl rfl rfl tf_str_9 o_22') rfl (fun _ => rfl) rfl rfl ?_
          refine FL.weak (L' := fun γ => [(96, Value.pointer (some ⟨b, 0, none⟩)), (97, Value.int .i64 s_1), (107, st ((s_0.drop s_1.toNat).take ((s_1 + 1).toNat - s_1.toNat)))]) (fun γ => ⟨rfl, rfl, rfl, trivial⟩) (FL.nil (hT_4' (fun γ => [(96, Value.pointer (some ⟨b, 0, none⟩)), (97, Value.int .i64 s_1), (107, st ((s_0.drop s_1.toNat).take ((s_1 + 1).toNat - s_1.toNat)))]) (fun γ => ?_)))
          obtain ⟨o_23', h⟩ := h
          refine WL.callS tf_ent_16 rfl (add_does b s_0 (s_1 + 1) w s_3 s_4 s_5 sl 4 s_1 ((s_0.drop s_1.toNat).take ((s_1 + 1).toNat - s_1.toNat)) o_23') rfl trivial rfl rfl (fun r H' hS => ?_) (fun c H' hS => ?_)
          · obtain ⟨w_4', ho⟩ := hS
            cases ho
            refine WL.val (OV.assign rfl) rfl rfl rfl ?_
            refine WL.nil ?_
            refine KX.go (hK_29' [(2, Value.bool true)] _ ?_) ⟨rfl, trivial⟩
            refine wc_ret ?_
            exact hE.ret [0, 1] rfl rfl (.inl ⟨_, _, _, _, _, _, _, _, h, rfl⟩) (ResV.of1 rfl (RV.tmp rfl))
          · obtain ⟨w_4', ho⟩ := hS
            cases ho
        · replace h := if_F h hb
          refine wc_seq (fun K0_30' hK_30' => ?_)
          refine wc_region ?_
          refine WL.val (OV.move rfl) rfl rfl rfl ?_
          refine WL.val (OV.nilCheck rfl) rfl rfl rfl ?_
          refine WL.val (OV.fieldAddr0 rfl tf_field_43_0) rfl rfl rfl ?_
          refine WL.val (OV.load rfl (At.own 0 rfl) rfl tf_scal_9) rfl rfl rfl ?_
          refine WL.val (OV.move rfl) rfl rfl rfl ?_
          obtain ⟨o_24', h⟩ := h
          refine WL.val (OV.sliceL rfl rfl tf_str_9 o_24') rfl rfl rfl ?_
          refine WL.call (A := []) tf_ent_28 rfl (hasPrefix_does (s_0.drop s_1.toNat) ([62, 62] : List UInt8)) rfl trivial rfl rfl ?_
          refine WL.val (OV.assign rfl) rfl rfl rfl ?_
          refine WL.nil ?_
          refine KX.go (hK_30' [(0, Value.pointer (some ⟨b, 0, none⟩)), (3, Value.int .i64 s_1), (109, Value.bool (Lib.hasPrefix (s_0.drop s_1.toNat) ([62, 62] : List UInt8)))] _ ?_) ⟨rfl, rfl, rfl, trivial⟩
          refine wc_cond (b := Lib.hasPrefix (s_0.drop s_1.toNat) ([62, 62] : List UInt8)) rfl (fun hb => ?_) (fun hb => ?_)
          · replace h := if_T h hb
            refine wc_seq (fun K0_31' hK_31' => ?_)
            refine wc_region ?_
            refine WL.val (OV.move rfl) rfl rfl rfl ?_
            refine WL.val (OV.nilCheck rfl) rfl rfl rfl ?_
            refine WL.val (OV.fieldAddr0 rfl tf_field_43_1) rfl rfl rfl ?_
            refine WL.val (OV.load rfl (At.own 0 rfl) rfl tf_scal_3) rfl rfl rfl ?_
            obtain ⟨o_25', h⟩ := h
            refine WL.val (OV.add rfl rfl o_25') rfl rfl rfl ?_
            refine WL.val (OV.nilCheck rfl) rfl rfl rfl ?_
            refine WL.val (OV.fieldAddr0 rfl tf_field_43_1) rfl rfl rfl ?_
            refine WL.store (vs := [Value.int .i64 (s_1 + 2)]) (cs' := [st s_0, Value.int .i64 (s_1 + 2), w, Value.int .i64 s_3, Value.int .i64 s_4, st s_5]) 0 rfl rfl rfl rfl tf_size_3 (Nat.le_of_ble_eq_true rfl) rfl rfl rfl ?_
            refine WL.nil ?_
            refine KX.go (hK_31' [(0, Value.pointer (some ⟨b, 0, none⟩)), (3, Value.int .i64 s_1)] _ ?_) ⟨rfl, rfl, trivial⟩
            refine wc_seq (fun K0_32' hK_32' => ?_)
            refine wc_region ?_
            refine WL.val (OV.move rfl) rfl rfl rfl ?_
            refine WL.val (OV.move rfl) rfl rfl rfl ?_
            obtain ⟨o_26', h⟩ := h
            refine WL.callS tf_ent_16 rfl (add_does b s_0 (s_1 + 2) w s_3 s_4 s_5 sl 4 s_1 ([62, 62] : List UInt8) o_26') rfl trivial rfl rfl (fun r H' hS => ?_) (fun c H' hS => ?_)
            · obtain ⟨w_5', ho⟩ := hS
              cases ho
              refine WL.val (OV.assign rfl) rfl rfl rfl ?_
              refine WL.nil ?_
              refine KX.go (hK_32' [(2, Value.bool true)] _ ?_) ⟨rfl, trivial⟩
              refine wc_ret ?_
              exact hE.ret [0, 1] rfl rfl (.inl ⟨_, _, _, _, _, _, _, _, h, rfl⟩) (ResV.of1 rfl (RV.tmp rfl))
            · obtain ⟨w_5', ho⟩ := hS
              cases ho
          · replace h := if_F h hb
            refine wc_skip ?_
            refine KX.go (hK_2' [(0, Value.pointer (some ⟨b, 0, none⟩)), (3, Value.int .i64 s_1)] _ ?_) ⟨rfl, rfl, trivial⟩
            refine wc_seq (fun K0_33' hK_33' => ?_)
            refine wc_region ?_
            refine WL.val (OV.move rfl) rfl rfl rfl ?_
            refine WL.val (OV.move rfl) rfl rfl rfl ?_
            refine WL.call tf_ent_25 rfl (fail_does b s_0 s_1 w s_3 s_4 s_5 50 s_1) rfl trivial rfl rfl ?_
            refine WL.val (OV.assign rfl) rfl rfl rfl ?_
            refine WL.nil ?_
            refine KX.go (hK_33' [(2, Value.bool false)] _ ?_) ⟨rfl, trivial⟩
            refine wc_ret ?_
            exact hE.ret [0, 1] rfl rfl (.inl ⟨_, _, _, _, _, _, _, _, h, rfl⟩) (ResV.of1 rfl (RV.tmp rfl))

theorem nameL_at {t : List UInt8} {p : Int} (h : 0 ≤ p ∧ p < t.length) : nameL (t.drop p.toNat) = if (letterB (bt t p) || digitB (bt t p)) = true then 1 + nameL (t.drop (p + 1).toNat) else 0 := by
  obtain ⟨x, hx, hb⟩ := drop_bt h
  rw [hx, nameL, hb]
theorem name_end {t : List UInt8} {p : Int} (h : (t.length : Int) ≤ p) : nameL (t.drop p.toNat) = 0 := by
  rw [List.drop_eq_nil_of_le (by omega)]; rfl
theorem quotedF_ok {t : List UInt8} {fr : Int} : ∀ {n : Nat} {out : List UInt8} {k : Int} {x : List UInt8} {q : Int}, quotedF t fr n out k = .ok (x, q) → k < q ∧ q ≤ t.length
  | 0, _, _, _, _, h => by cases h
  | n + 1, out, k, x, q, h => by
    rw [quotedF] at h
    split at h
    · split at h
      · simp only [Except.ok.injEq, Prod.mk.injEq] at h; omega
      · split at h
        · cases h
        · split at h
          · have := quotedF_ok h; omega
          · split at h
            · cases h
            · split at h
              · cases h
              · have h1 := quotedF_ok h
                have h2 := (escM_q (t := t) (a := k) (b := (escM t k).1) (ok := (escM t k).2.1) (q := (escM t k).2.2) rfl).1
                omega
    · cases h
theorem regexF_ok {t : List UInt8} {fr : Int} : ∀ {n : Nat} {k : Int} {x : List UInt8} {q : Int}, regexF t fr n k = .ok (x, q) → k < q ∧ q ≤ t.length
  | 0, _, _, _, h => by cases h
  | n + 1, k, x, q, h => by
    rw [regexF] at h
    split at h
    · split at h
      · split at h
        · cases h
        · have := regexF_ok h; omega
      · split at h
        · cases h
        · split at h
          · simp only [Except.ok.injEq, Prod.mk.injEq] at h; omega
          · have := regexF_ok h; omega
    · cases h
theorem oneM_ok {t : List UInt8} {a : Int} (hb : 0 ≤ a ∧ a < t.length) {k : Tok} {q : Int} (h : oneM t a = .ok (k, q)) : a < q ∧ q ≤ t.length := by
  unfold oneM at h
  split at h
  · rename_i hl
    split at h
    · cases h
    · simp only [Except.ok.injEq, Prod.mk.injEq] at h
      have h1 := nameL_at hb
      rw [if_pos (by simp [hl])] at h1
      have h2 := nameL_le (t.drop a.toNat)
      rw [List.length_drop] at h2
      omega
  · split at h
    · unfold quotedM at h
      split at h
      · rename_i he
        have := quotedF_ok he
        simp only [Except.ok.injEq, Prod.mk.injEq] at h; omega
      · cases h
    · split at h
      · unfold regexM at h
        split at h
        · rename_i he
          have := regexF_ok he
          simp only [Except.ok.injEq, Prod.mk.injEq] at h; omega
        · cases h
      · split at h
        · simp only [Except.ok.injEq, Prod.mk.injEq] at h; omega
        · split at h
          · simp only [Except.ok.injEq, Prod.mk.injEq] at h; omega
          · cases h
theorem pre_iff {t : List UInt8} {a : Int} (hb : 0 ≤ a ∧ a < t.length) : Lib.hasPrefix (t.drop a.toNat) ([62, 62] : List UInt8) = decide (a + 1 < t.length ∧ bt t a = 62 ∧ bt t (a + 1) = 62) := by
  obtain ⟨x, hx, hbx⟩ := drop_bt hb
  rw [hx, hbx]
  by_cases h1 : a + 1 < t.length
  · obtain ⟨y, hy, hby⟩ := drop_bt (t := t) (p := a + 1) ⟨by omega, h1⟩
    rw [hy, hby, Bool.eq_iff_iff]
    have e1 := beq_bt x 62
    have e2 := beq_bt y 62
    simp only [Lib.hasPrefix, List.isPrefixOf, Bool.and_true, Bool.and_eq_true, decide_eq_true_eq, h1, true_and]
    constructor
    · rintro ⟨p1, p2⟩
      have p1 : x = 62 := (by simpa using p1 : (62 : UInt8) = x).symm
      have p2 : y = 62 := (by simpa using p2 : (62 : UInt8) = y).symm
      subst p1; subst p2; exact ⟨rfl, rfl⟩
    · rintro ⟨p1, p2⟩
      have p1 : x = 62 := UInt8.toNat_inj.1 (by have : (62 : UInt8).toNat = 62 := rfl; omega)
      have p2 : y = 62 := UInt8.toNat_inj.1 (by have : (62 : UInt8).toNat = 62 := rfl; omega)
      subst p1; subst p2; exact ⟨rfl, rfl⟩
  · rw [List.drop_eq_nil_of_le (by omega)]
    simp [Lib.hasPrefix, List.isPrefixOf, h1]
theorem one_does (b : Nat) (t : List UInt8) (a : Int) (w : Value) (fc fa : Int) (ft : List UInt8) (l : List Tok) (h : 0 ≤ a ∧ a < t.length ∧ t.length ≤ 4096 ∧ l.length ≤ 4096) :
    Does Tryd.prog 15 [.pointer (some ⟨b, 0, none⟩)] [] [.blk b (scB t a w fc fa ft), tokRow w l] (TookS b t l fc fa ft (oneM t a)) := by
  refine (one_wp b w t a fc fa ft l (fun ok t' q c x y l' => t' = t ∧ Took (oneM t a) t l fc fa ft ok q l' c x y) ?_).weak ?_
  · unfold one_vc
    have eb : ∀ i : Int, ((t.getD i.toNat 0).toNat : Int) = bt t i := fun _ => rfl
    simp only [eb, true_and]
    have hb : 0 ≤ a ∧ a < t.length := ⟨h.1, h.2.1⟩
    refine ⟨hb, ?_⟩
    by_cases e1 : letterB (bt t a) = true
    · rw [if_pos e1]
      refine ⟨fun q => a ≤ q ∧ q ≤ t.length ∧ q + nameL (t.drop q.toNat) = a + nameL (t.drop a.toNat), fun q => (t.length - q).toNat, ⟨Int.le_refl _, by omega, rfl⟩, ?_⟩
      rintro q ⟨q0, q1, hq⟩
      refine ⟨fun hh => ⟨⟨by omega, by simpa using hh⟩, fun _ => ⟨by omega, by simpa using hh⟩⟩, ?_⟩
      have hend : q = a + nameL (t.drop a.toNat) → (I64 (q - a)) ∧ (if decide (32 < q - a) = true then t = t ∧ Took (oneM t a) t l fc fa ft false q l 1 a [] else (0 ≤ a ∧ a ≤ q ∧ q ≤ t.length) ∧ l.length ≤ 4096 ∧ Took (oneM t a) t l fc fa ft true q (l ++ [((1 : Int), a, (t.drop a.toNat).take (q.toNat - a.toNat))]) fc fa ft) := fun hqe => by
        refine ⟨⟨by omega, by omega⟩, ?_⟩
        unfold oneM
        rw [if_pos e1]
        by_cases e2 : 32 < q - a
        · rw [if_pos (by simpa using e2), if_pos (by omega)]
          exact ⟨rfl, rfl, rfl, rfl, rfl, rfl⟩
        · rw [if_neg (by simpa using e2), if_neg (by omega)]
          refine ⟨⟨by omega, q0, q1⟩, h.2.2.2, rfl, hqe, ?_, rfl, rfl, rfl⟩
          rw [← hqe]; rfl
      simp only [true_and] at hend
      by_cases hql : q < t.length
      · have hqb : 0 ≤ q ∧ q < t.length := ⟨by omega, hql⟩
        have hs := nameL_at hqb
        by_cases e3 : (letterB (bt t q) || digitB (bt t q)) = true
        · rw [if_pos (by rw [e3]; simp; omega)]
          rw [if_pos e3] at hs
          exact ⟨⟨by omega, by omega⟩, ⟨by omega, by omega, by omega⟩, by show (t.length - (q + 1)).toNat < (t.length - q).toNat; omega⟩
        · rw [if_neg (by rw [Bool.eq_false_iff.2 e3]; simp)]
          rw [if_neg e3] at hs
          exact hend (by omega)
      · rw [if_neg (by simp; omega)]
        have := name_end (t := t) (p := q) (by omega)
        exact hend (by omega)
    · rw [if_neg e1]
      have hone : oneM t a = if bt t a = 34 then quotedM t a else if bt t a = 47 then regexM t a else if marksL.contains (bt t a).toNat.toUInt8 = true then .ok ((4, a, cut t a (a + 1)), a + 1) else if a + 1 < t.length ∧ bt t a = 62 ∧ bt t (a + 1) = 62 then .ok ((4, a, [62, 62]), a + 2) else .error (50, a) := by
        unfold oneM; rw [if_neg e1]
      by_cases e2 : bt t a = 34
      · rw [if_pos (by simpa using e2)]
        rw [if_pos e2] at hone
        rw [hone]
        exact ⟨h, fun ok q l' c x y hT => hT⟩
      · rw [if_neg (by simpa using e2)]
        rw [if_neg e2] at hone
        by_cases e3 : bt t a = 47
        · rw [if_pos (by simpa using e3)]
          rw [if_pos e3] at hone
          rw [hone]
          exact ⟨h, fun ok q l' c x y hT => hT⟩
        · rw [if_neg (by simpa using e3)]
          rw [if_neg e3] at hone
          have hm : (0 ≤ Lib.indexByte ([61, 59, 40, 41, 123, 125, 44, 124, 38, 45, 46, 126, 42, 43, 63] : List UInt8) (bt t a).toNat.toUInt8) ↔ marksL.contains (bt t a).toNat.toUInt8 = true := indexByte_nonneg _ _
          by_cases e4 : marksL.contains (bt t a).toNat.toUInt8 = true
          · rw [if_pos (by simpa using hm.2 e4)]
            rw [if_pos e4] at hone
            rw [hone]
            exact ⟨⟨by omega, by omega⟩, ⟨by omega, by omega, by omega⟩, h.2.2.2, rfl, rfl, rfl, rfl, rfl, rfl⟩
          · rw [if_neg (by simpa using fun x => e4 (hm.1 x))]
            rw [if_neg e4] at hone
            refine ⟨⟨by omega, by omega⟩, ?_⟩
            rw [pre_iff hb]
            by_cases e5 : a + 1 < t.length ∧ bt t a = 62 ∧ bt t (a + 1) = 62
            · rw [if_pos (by simpa using e5)]
              rw [if_pos e5] at hone
              rw [hone]
              exact ⟨⟨by omega, by omega⟩, h.2.2.2, rfl, rfl, rfl, rfl, rfl, rfl⟩
            · rw [if_neg (by simpa using e5)]
              rw [if_neg e5] at hone
              rw [hone]
              exact ⟨rfl, rfl, rfl, rfl, rfl⟩
  · rintro o (⟨ok, t', q, c, x, y, w', l', ⟨rfl, hT⟩, rfl⟩ | h)
    · exact ⟨w', ok, q, l', c, x, y, hT, rfl⟩
    · exact h.elim

end Go.Proofs.YtlfolgbaageknaaDoor
