/-
  What stands behind a stroke.
-/
import Derived.Test.YtlfolgbaageknaaDoorTkS
namespace Go.Proofs.YtlfolgbaageknaaDoor
open Go Go.RowKit

theorem tf_ent_19 : entB Tryd.prog 19 = true := by kernel_rfl
theorem tf_some_3 : (Tryd.prog.underlying 3).isSome = true := by kernel_rfl

def escape_vc (s_0 : List UInt8) (s_1 : Int) (s_2 : Value) (s_3 : Int) (s_4 : Int) (s_5 : List UInt8) (K : Int → Bool → (List UInt8) → Int → Value → Int → Int → (List UInt8) → Prop) : Prop :=
  (I64 (s_1 + 1)) ∧
  (if (decide (s_0.length ≤ s_1 + 1)) = true then
    K 0 false s_0 (s_1 + 1) s_2 s_3 s_4 s_5
  else
    (0 ≤ (s_1 + 1) ∧ (s_1 + 1) < s_0.length) ∧
    (if (decide (((s_0.getD (s_1 + 1).toNat 0).toNat : Int) = 110)) = true then
      K 10 true s_0 (s_1 + 1) s_2 s_3 s_4 s_5
    else
      (if (decide (((s_0.getD (s_1 + 1).toNat 0).toNat : Int) = 114)) = true then
        K 13 true s_0 (s_1 + 1) s_2 s_3 s_4 s_5
      else
        (if (decide (((s_0.getD (s_1 + 1).toNat 0).toNat : Int) = 116)) = true then
          K 9 true s_0 (s_1 + 1) s_2 s_3 s_4 s_5
        else
          ∃ (J0 : Bool → Prop),
            (∀ (t32 : Bool), J0 t32 →
              (if t32 = true then
                K ((s_0.getD (s_1 + 1).toNat 0).toNat : Int) true s_0 (s_1 + 1) s_2 s_3 s_4 s_5
              else
                (if (decide (((s_0.getD (s_1 + 1).toNat 0).toNat : Int) = 120)) = true then
                  (I64 ((s_1 + 1) + 1)) ∧
                  (if (decide (s_0.length ≤ (s_1 + 1) + 1)) = true then
                    K 0 false s_0 ((s_1 + 1) + 1) s_2 s_3 s_4 s_5
                  else
                    (0 ≤ ((s_1 + 1) + 1) ∧ ((s_1 + 1) + 1) < s_0.length) ∧
                    (if (decide (Lib.indexByte ([48, 49, 50, 51, 52, 53, 54, 55, 56, 57, 97, 98, 99, 100, 101, 102] : List UInt8) (((s_0.getD ((s_1 + 1) + 1).toNat 0).toNat : Int)).toNat.toUInt8 < 0)) = true then
                      K 0 false s_0 ((s_1 + 1) + 1) s_2 s_3 s_4 s_5
                    else
                      (I64 (0 + (Lib.indexByte ([48, 49, 50, 51, 52, 53, 54, 55, 56, 57, 97, 98, 99, 100, 101, 102] : List UInt8) (((s_0.getD ((s_1 + 1) + 1).toNat 0).toNat : Int)).toNat.toUInt8))) ∧
                      (I64 (((s_1 + 1) + 1) + 1)) ∧
                      (if (decide (s_0.length ≤ ((s_1 + 1) + 1) + 1)) = true then
                        K 0 false s_0 (((s_1 + 1) + 1) + 1) s_2 s_3 s_4 s_5
                      else
                        (0 ≤ (((s_1 + 1) + 1) + 1) ∧ (((s_1 + 1) + 1) + 1) < s_0.length) ∧
                        (if (decide (Lib.indexByte ([48, 49, 50, 51, 52, 53, 54, 55, 56, 57, 97, 98, 99, 100, 101, 102] : List UInt8) (((s_0.getD (((s_1 + 1) + 1) + 1).toNat 0).toNat : Int)).toNat.toUInt8 < 0)) = true then
                          K 0 false s_0 (((s_1 + 1) + 1) + 1) s_2 s_3 s_4 s_5
                        else
                          (I64 (16 * (0 + (Lib.indexByte ([48, 49, 50, 51, 52, 53, 54, 55, 56, 57, 97, 98, 99, 100, 101, 102] : List UInt8) (((s_0.getD ((s_1 + 1) + 1).toNat 0).toNat : Int)).toNat.toUInt8)))) ∧
                          (I64 ((16 * (0 + (Lib.indexByte ([48, 49, 50, 51, 52, 53, 54, 55, 56, 57, 97, 98, 99, 100, 101, 102] : List UInt8) (((s_0.getD ((s_1 + 1) + 1).toNat 0).toNat : Int)).toNat.toUInt8))) + (Lib.indexByte ([48, 49, 50, 51, 52, 53, 54, 55, 56, 57, 97, 98, 99, 100, 101, 102] : List UInt8) (((s_0.getD (((s_1 + 1) + 1) + 1).toNat 0).toNat : Int)).toNat.toUInt8))) ∧
                          K (IntKind.wrap .u8 ((16 * (0 + (Lib.indexByte ([48, 49, 50, 51, 52, 53, 54, 55, 56, 57, 97, 98, 99, 100, 101, 102] : List UInt8) (((s_0.getD ((s_1 + 1) + 1).toNat 0).toNat : Int)).toNat.toUInt8))) + (Lib.indexByte ([48, 49, 50, 51, 52, 53, 54, 55, 56, 57, 97, 98, 99, 100, 101, 102] : List UInt8) (((s_0.getD (((s_1 + 1) + 1) + 1).toNat 0).toNat : Int)).toNat.toUInt8))) true s_0 (((s_1 + 1) + 1) + 1) s_2 s_3 s_4 s_5))))
                else
                  K 0 false s_0 (s_1 + 1) s_2 s_3 s_4 s_5))) ∧
            (if (decide (((s_0.getD (s_1 + 1).toNat 0).toNat : Int) = 34)) = true then
              J0 (decide (((s_0.getD (s_1 + 1).toNat 0).toNat : Int) = 34))
            else
              J0 (decide (((s_0.getD (s_1 + 1).toNat 0).toNat : Int) = 92)))))))
set_option maxRecDepth 100000 in
theorem escape_wp (b : Nat) (s_0 : List UInt8) (s_1 : Int) (s_2 : Value) (s_3 : Int) (s_4 : Int) (s_5 : List UInt8) (K : Int → Bool → (List UInt8) → Int → Value → Int → Int → (List UInt8) → Prop) (h : escape_vc s_0 s_1 s_2 s_3 s_4 s_5 K) :
    Does Tryd.prog 37 [Value.pointer (some ⟨b, 0, none⟩)] [] [HA.blk b (.cells [st s_0, Value.int .i64 s_1, s_2, Value.int .i64 s_3, Value.int .i64 s_4, st s_5].toArray 43 (0, 0))] (fun o => (∃ (v : Int) (v_1' : Bool) (d_0 : List UInt8) (d_1 : Int) (d_2 : Value) (d_3 : Int) (d_4 : Int) (d_5 : List UInt8), K v v_1' d_0 d_1 d_2 d_3 d_4 d_5 ∧ o = .ret (Value.tuple #[Value.int .u8 v, Value.bool v_1']) [HA.blk b (.cells [st d_0, Value.int .i64 d_1, d_2, Value.int .i64 d_3, Value.int .i64 d_4, st d_5].toArray 43 (0, 0))]) ∨ (False)) := by
  unfold escape_vc at h
  refine does_of_wc (n := 68) (L0 := [(0, Value.pointer (some ⟨b, 0, none⟩))]) Tryd.func37 rfl rfl rfl rfl (fun w0 M Q hE => ?_)
  refine wc_seq (fun K0 hK => ?_)
  refine wc_region ?_
  refine WL.val (OV.assign rfl) rfl rfl rfl ?_
  refine WL.val (OV.assign rfl) rfl rfl rfl ?_
  refine WL.nil ?_
  refine KX.go (hK [(0, Value.pointer (some ⟨b, 0, none⟩))] _ ?_) ⟨rfl, trivial⟩
  refine wc_seq (fun K0_1' hK_1' => ?_)
  refine wc_region ?_
  refine WL.val (OV.move rfl) rfl rfl rfl ?_
  refine WL.val (OV.nilCheck rfl) rfl rfl rfl ?_
  refine WL.val (OV.fieldAddr0 rfl tf_field_43_1) rfl rfl rfl ?_
  refine WL.val (OV.load rfl (At.own 0 rfl) rfl tf_scal_3) rfl rfl rfl ?_
  obtain ⟨o, h⟩ := h
  refine WL.val (OV.add rfl rfl o) rfl rfl rfl ?_
  refine WL.val (OV.nilCheck rfl) rfl rfl rfl ?_
  refine WL.val (OV.fieldAddr0 rfl tf_field_43_1) rfl rfl rfl ?_
  refine WL.store (vs := [Value.int .i64 (s_1 + 1)]) (cs' := [st s_0, Value.int .i64 (s_1 + 1), s_2, Value.int .i64 s_3, Value.int .i64 s_4, st s_5]) 0 rfl rfl rfl rfl tf_size_3 (Nat.le_of_ble_eq_true rfl) rfl rfl rfl ?_
  refine WL.nil ?_
  refine KX.go (hK_1' [(0, Value.pointer (some ⟨b, 0, none⟩))] _ ?_) ⟨rfl, trivial⟩
  refine wc_seq (fun K0_2' hK_2' => ?_)
  refine wc_seq (fun K0_3' hK_3' => ?_)
  refine wc_region ?_
  refine WL.val (OV.move rfl) rfl rfl rfl ?_
  refine WL.call (A := []) tf_ent_14 rfl (ended_does b s_0 (s_1 + 1) s_2 s_3 s_4 s_5) rfl ⟨.inl ⟨0, rfl⟩, trivial⟩ rfl rfl ?_
  refine WL.nil ?_
  refine KX.go (hK_3' [(0, Value.pointer (some ⟨b, 0, none⟩)), (15, Value.bool (decide (s_0.length ≤ s_1 + 1)))] _ ?_) ⟨rfl, rfl, trivial⟩
  refine wc_cond (b := decide (s_0.length ≤ s_1 + 1)) rfl (fun hb => ?_) (fun hb => ?_)
  · replace h := if_T h hb
    refine wc_seq (fun K0_4' hK_4' => ?_)
    refine wc_region ?_
    refine WL.val (OV.assign rfl) rfl rfl rfl ?_
    refine WL.val (OV.assign rfl) rfl rfl rfl ?_
    refine WL.nil ?_
    refine KX.go (hK_4' [(2, Value.int .u8 0), (3, Value.bool false)] _ ?_) ⟨rfl, rfl, trivial⟩
    refine wc_ret ?_
    exact hE.ret [0] rfl rfl (.inl ⟨_, _, _, _, _, _, _, _, h, rfl⟩) (ResV.of2 rfl (RV.tmp rfl) (RV.tmp rfl))
  · replace h := if_F h hb
    refine wc_skip ?_
    refine KX.go (hK_2' [(0, Value.pointer (some ⟨b, 0, none⟩))] _ ?_) ⟨rfl, trivial⟩
    refine wc_seq (fun K0_5' hK_5' => ?_)
    refine wc_seq (fun K0_6' hK_6' => ?_)
    refine wc_draw 8 [] tf_mixed (by kernel_rfl) rfl (fun T hT => ?_)
    refine FL.val (fun _ => OV.move rfl) rfl (fun _ => rfl) rfl rfl ?_
    refine FL.val (fun _ => OV.nilCheck rfl) rfl (fun _ => rfl) rfl rfl ?_
    refine FL.val (fun _ => OV.fieldAddr0 rfl tf_field_43_0) rfl (fun _ => rfl) rfl rfl ?_
    refine FL.val (fun _ => OV.load rfl (At.own 0 rfl) rfl tf_scal_9) rfl (fun _ => rfl) rfl rfl ?_
    refine FL.val (fun _ => OV.move rfl) rfl (fun _ => rfl) rfl rfl ?_
    refine FL.val (fun _ => OV.nilCheck rfl) rfl (fun _ => rfl) rfl rfl ?_
    refine FL.val (fun _ => OV.fieldAddr0 rfl tf_field_43_1) rfl (fun _ => rfl) rfl rfl ?_
    refine FL.val (fun _ => OV.load rfl (At.own 0 rfl) rfl tf_scal_3) rfl (fun _ => rfl) rfl rfl ?_
    refine FL.weak (L' := fun γ => [(0, Value.pointer (some ⟨b, 0, none⟩)), (19, st s_0), (23, Value.int .i64 (s_1 + 1))]) (fun γ => ⟨rfl, rfl, rfl, trivial⟩) (FL.nil (hT (fun γ => [(0, Value.pointer (some ⟨b, 0, none⟩)), (19, st s_0), (23, Value.int .i64 (s_1 + 1))]) (fun γ => ?_)))
    obtain ⟨o_1', h⟩ := h
    refine WL.val (OV.index rfl rfl tf_str_9 o_1') rfl rfl rfl ?_
    refine WL.val (OV.assign rfl) rfl rfl rfl ?_
    refine WL.nil ?_
    refine KX.go (hK_6' [(0, Value.pointer (some ⟨b, 0, none⟩)), (4, Value.int .u8 ((s_0.getD (s_1 + 1).toNat 0).toNat : Int))] _ ?_) ⟨rfl, rfl, trivial⟩
    refine wc_seq (fun K0_7' hK_7' => ?_)
    refine wc_region ?_
    refine WL.val (OV.move rfl) rfl rfl rfl ?_
    refine WL.nil ?_
    refine KX.go (hK_7' [(0, Value.pointer (some ⟨b, 0, none⟩)), (4, Value.int .u8 ((s_0.getD (s_1 + 1).toNat 0).toNat : Int)), (25, Value.int .u8 ((s_0.getD (s_1 + 1).toNat 0).toNat : Int))] _ ?_) ⟨rfl, rfl, rfl, trivial⟩
    refine wc_block ?_
    refine wc_seq (fun K0_8' hK_8' => ?_)
    refine wc_region ?_
    refine WL.val (OV.eql rfl rfl) rfl rfl rfl ?_
    refine WL.val (OV.assign rfl) rfl rfl rfl ?_
    refine WL.nil ?_
    refine KX.go (hK_8' [(0, Value.pointer (some ⟨b, 0, none⟩)), (4, Value.int .u8 ((s_0.getD (s_1 + 1).toNat 0).toNat : Int)), (25, Value.int .u8 ((s_0.getD (s_1 + 1).toNat 0).toNat : Int)), (26, Value.bool (decide (((s_0.getD (s_1 + 1).toNat 0).toNat : Int) = 110)))] _ ?_) ⟨rfl, rfl, rfl, rfl, trivial⟩
    refine wc_cond (b := decide (((s_0.getD (s_1 + 1).toNat 0).toNat : Int) = 110)) rfl (fun hb => ?_) (fun hb => ?_)
    · replace h := if_T h hb
      refine wc_seq (fun K0_9' hK_9' => ?_)
      refine wc_region ?_
      refine WL.val (OV.assign rfl) rfl rfl rfl ?_
      refine WL.val (OV.assign rfl) rfl rfl rfl ?_
      refine WL.nil ?_
      refine KX.go (hK_9' [(2, Value.int .u8 10), (3, Value.bool true)] _ ?_) ⟨rfl, rfl, trivial⟩
      refine wc_ret ?_
      exact hE.ret [0] rfl rfl (.inl ⟨_, _, _, _, _, _, _, _, h, rfl⟩) (ResV.of2 rfl (RV.tmp rfl) (RV.tmp rfl))
    · replace h := if_F h hb
      refine wc_seq (fun K0_10' hK_10' => ?_)
      refine wc_region ?_
      refine WL.val (OV.eql rfl rfl) rfl rfl rfl ?_
      refine WL.val (OV.assign rfl) rfl rfl rfl ?_
      refine WL.nil ?_
      refine KX.go (hK_10' [(0, Value.pointer (some ⟨b, 0, none⟩)), (4, Value.int .u8 ((s_0.getD (s_1 + 1).toNat 0).toNat : Int)), (25, Value.int .u8 ((s_0.getD (s_1 + 1).toNat 0).toNat : Int)), (28, Value.bool (decide (((s_0.getD (s_1 + 1).toNat 0).toNat : Int) = 114)))] _ ?_) ⟨rfl, rfl, rfl, rfl, trivial⟩
      refine wc_cond (b := decide (((s_0.getD (s_1 + 1).toNat 0).toNat : Int) = 114)) rfl (fun hb => ?_) (fun hb => ?_)
      · replace h := if_T h hb
        refine wc_seq (fun K0_11' hK_11' => ?_)
        refine wc_region ?_
        refine WL.val (OV.assign rfl) rfl rfl rfl ?_
        refine WL.val (OV.assign rfl) rfl rfl rfl ?_
        refine WL.nil ?_
        refine KX.go (hK_11' [(2, Value.int .u8 13), (3, Value.bool true)] _ ?_) ⟨rfl, rfl, trivial⟩
        refine wc_ret ?_
        exact hE.ret [0] rfl rfl (.inl ⟨_, _, _, _, _, _, _, _, h, rfl⟩) (ResV.of2 rfl (RV.tmp rfl) (RV.tmp rfl))
      · replace h := if_F h hb
        refine wc_seq (fun K0_12' hK_12' => ?_)
        refine wc_region ?_
        refine WL.val (OV.eql rfl rfl) rfl rfl rfl ?_
        refine WL.val (OV.assign rfl) rfl rfl rfl ?_
        refine WL.nil ?_
        refine KX.go (hK_12' [(0, Value.pointer (some ⟨b, 0, none⟩)), (4, Value.int .u8 ((s_0.getD (s_1 + 1).toNat 0).toNat : Int)), (25, Value.int .u8 ((s_0.getD (s_1 + 1).toNat 0).toNat : Int)), (30, Value.bool (decide (((s_0.getD (s_1 + 1).toNat 0).toNat : Int) = 116)))] _ ?_) ⟨rfl, rfl, rfl, rfl, trivial⟩
        refine wc_cond (b := decide (((s_0.getD (s_1 + 1).toNat 0).toNat : Int) = 116)) rfl (fun hb => ?_) (fun hb => ?_)
        · replace h := if_T h hb
          refine wc_seq (fun K0_13' hK_13' => ?_)
          refine wc_region ?_
          refine WL.val (OV.assign rfl) rfl rfl rfl ?_
          refine WL.val (OV.assign rfl) rfl rfl rfl ?_
          refine WL.nil ?_
          refine KX.go (hK_13' [(2, Value.int .u8 9), (3, Value.bool true)] _ ?_) ⟨rfl, rfl, trivial⟩
          refine wc_ret ?_
          exact hE.ret [0] rfl rfl (.inl ⟨_, _, _, _, _, _, _, _, h, rfl⟩) (ResV.of2 rfl (RV.tmp rfl) (RV.tmp rfl))
        · replace h := if_F h hb
          obtain ⟨J0, hJ, h⟩ := h
          refine wc_seqJ (X := Bool) (fun σ => J0 σ) (fun σ => [(0, Value.pointer (some ⟨b, 0, none⟩)), (4, Value.int .u8 ((s_0.getD (s_1 + 1).toNat 0).toNat : Int)), (25, Value.int .u8 ((s_0.getD (s_1 + 1).toNat 0).toNat : Int)), (32, Value.bool σ)]) (fun σ => [HA.blk b (.cells [st s_0, Value.int .i64 (s_1 + 1), s_2, Value.int .i64 s_3, Value.int .i64 s_4, st s_5].toArray 43 (0, 0))]) ?_ (fun K0_15' hK_15' => ?_)
          · rintro t32 hj
            replace h := hJ t32 hj
            show WC _ _ _ _ [(0, Value.pointer (some ⟨b, 0, none⟩)), (4, Value.int .u8 ((s_0.getD (s_1 + 1).toNat 0).toNat : Int)), (25, Value.int .u8 ((s_0.getD (s_1 + 1).toNat 0).toNat : Int)), (32, Value.bool t32)] [HA.blk b (.cells [st s_0, Value.int .i64 (s_1 + 1), s_2, Value.int .i64 s_3, Value.int .i64 s_4, st s_5].toArray 43 (0, 0))]
            refine wc_cond (b := t32) rfl (fun hb => ?_) (fun hb => ?_)
            · replace h := if_T h hb
              refine wc_seq (fun K0_16' hK_16' => ?_)
              refine wc_region ?_
              refine WL.val (OV.move rfl) rfl rfl rfl ?_
              refine WL.val (OV.assign rfl) rfl rfl rfl ?_
              refine WL.val (OV.assign rfl) rfl rfl rfl ?_
              refine WL.nil ?_
              refine KX.go (hK_16' [(2, Value.int .u8 ((s_0.getD (s_1 + 1).toNat 0).toNat : Int)), (3, Value.bool true)] _ ?_) ⟨rfl, rfl, trivial⟩
              refine wc_ret ?_
              exact hE.ret [0] rfl rfl (.inl ⟨_, _, _, _, _, _, _, _, h, rfl⟩) (ResV.of2 rfl (RV.tmp rfl) (RV.tmp rfl))
            · replace h := if_F h hb
              refine wc_seq (fun K0_17' hK_17' => ?_)
              refine wc_region ?_
              refine WL.val (OV.eql rfl rfl) rfl rfl rfl ?_
              refine WL.val (OV.assign rfl) rfl rfl rfl ?_
              refine WL.nil ?_
              refine KX.go (hK_17' [(0, Value.pointer (some ⟨b, 0, none⟩)), (36, Value.bool (decide (((s_0.getD (s_1 + 1).toNat 0).toNat : Int) = 120)))] _ ?_) ⟨rfl, rfl, trivial⟩
              refine wc_cond (b := decide (((s_0.getD (s_1 + 1).toNat 0).toNat : Int) = 120)) rfl (fun hb => ?_) (fun hb => ?_)
              · replace h := if_T h hb
                refine wc_seq (fun K0_18' hK_18' => ?_)
                refine wc_region ?_
                refine WL.val (OV.assign rfl) rfl rfl rfl ?_
                refine WL.nil ?_
                refine KX.go (hK_18' [(0, Value.pointer (some ⟨b, 0, none⟩)), (5, Value.int .i64 0)] _ ?_) ⟨rfl, rfl, trivial⟩
                refine wc_seq (fun K0_19' hK_19' => ?_)
                refine wc_seq (fun K0_20' hK_20' => ?_)
                refine wc_region ?_
                refine WL.val (OV.move rfl) rfl rfl rfl ?_
                refine WL.nil ?_
                refine KX.go (hK_20' [(0, Value.pointer (some ⟨b, 0, none⟩)), (5, Value.int .i64 0), (38, Value.int .i64 0)] _ ?_) ⟨rfl, rfl, rfl, trivial⟩
                refine wc_block ?_
                refine wc_rounds 3 ?_
                refine RC.succ (fun K0_21' hK_21' => ?_)
                refine wc_seq (fun K0_22' hK_22' => ?_)
                refine wc_region ?_
                refine WL.val (OV.lss rfl rfl) rfl rfl rfl ?_
                refine WL.nil ?_
                refine KX.go (hK_22' [(0, Value.pointer (some ⟨b, 0, none⟩)), (5, Value.int .i64 0), (38, Value.int .i64 0), (39, Value.bool true)] _ ?_) ⟨rfl, rfl, rfl, rfl, trivial⟩
                refine wc_seq (fun K0_23' hK_23' => ?_)
                refine wc_condT rfl ?_
                refine wc_skip ?_
                refine KX.go (hK_23' [(0, Value.pointer (some ⟨b, 0, none⟩)), (5, Value.int .i64 0), (38, Value.int .i64 0)] _ ?_) ⟨rfl, rfl, rfl, trivial⟩
                refine wc_seq (fun K0_24' hK_24' => ?_)
                refine wc_block ?_
                refine wc_seq (fun K0_25' hK_25' => ?_)
                refine wc_region ?_
                refine WL.val (OV.move rfl) rfl rfl rfl ?_
                refine WL.val (OV.nilCheck rfl) rfl rfl rfl ?_
                refine WL.val (OV.fieldAddr0 rfl tf_field_43_1) rfl rfl rfl ?_
                refine WL.val (OV.load rfl (At.own 0 rfl) rfl tf_scal_3) rfl rfl rfl ?_
                obtain ⟨o_2', h⟩ := h
                refine WL.val (OV.add rfl rfl o_2') rfl rfl rfl ?_
                refine WL.val (OV.nilCheck rfl) rfl rfl rfl ?_
                refine WL.val (OV.fieldAddr0 rfl tf_field_43_1) rfl rfl rfl ?_
                refine WL.store (vs := [Value.int .i64 ((s_1 + 1) + 1)]) (cs' := [st s_0, Value.int .i64 ((s_1 + 1) + 1), s_2, Value.int .i64 s_3, Value.int .i64 s_4, st s_5]) 0 rfl rfl rfl rfl tf_size_3 (Nat.le_of_ble_eq_true rfl) rfl rfl rfl ?_
                refine WL.nil ?_
                refine KX.go (hK_25' [(0, Value.pointer (some ⟨b, 0, none⟩)), (5, Value.int .i64 0), (38, Value.int .i64 0)] _ ?_) ⟨rfl, rfl, rfl, trivial⟩
                refine wc_seq (fun K0_26' hK_26' => ?_)
                refine wc_seq (fun K0_27' hK_27' => ?_)
                refine wc_region ?_
                refine WL.val (OV.move rfl) rfl rfl rfl ?_
                refine WL.call (A := []) tf_ent_14 rfl (ended_does b s_0 ((s_1 + 1) + 1) s_2 s_3 s_4 s_5) rfl ⟨.inl ⟨0, rfl⟩, trivial⟩ rfl rfl ?_
                refine WL.nil ?_
                refine KX.go (hK_27' [(0, Value.pointer (some ⟨b, 0, none⟩)), (5, Value.int .i64 0), (38, Value.int .i64 0), (48, Value.bool (decide (s_0.length ≤ (s_1 + 1) + 1)))] _ ?_) ⟨rfl, rfl, rfl, rfl, trivial⟩
                refine wc_cond (b := decide (s_0.length ≤ (s_1 + 1) + 1)) rfl (fun hb => ?_) (fun hb => ?_)
                · replace h := if_T h hb
                  refine wc_seq (fun K0_28' hK_28' => ?_)
                  refine wc_region ?_
                  refine WL.val (OV.assign rfl) rfl rfl rfl ?_
                  refine WL.val (OV.assign rfl) rfl rfl rfl ?_
                  refine WL.nil ?_
                  refine KX.go (hK_28' [(2, Value.int .u8 0), (3, Value.bool false)] _ ?_) ⟨rfl, rfl, trivial⟩
                  refine wc_ret ?_
                  exact hE.ret [0] rfl rfl (.inl ⟨_, _, _, _, _, _, _, _, h, rfl⟩) (ResV.of2 rfl (RV.tmp rfl) (RV.tmp rfl))
                · replace h := if_F h hb
                  refine wc_skip ?_
                  refine KX.go (hK_26' [(0, Value.pointer (some ⟨b, 0, none⟩)), (5, Value.int .i64 0), (38, Value.int .i64 0)] _ ?_) ⟨rfl, rfl, rfl, trivial⟩
                  refine wc_seq (fun K0_29' hK_29' => ?_)
                  refine wc_draw 8 [] tf_mixed (by kernel_rfl) rfl (fun T_1' hT_1' => ?_)
                  refine FL.val (fun _ => OV.move rfl) rfl (fun _ => rfl) rfl rfl ?_
                  refine FL.val (fun _ => OV.nilCheck rfl) rfl (fun _ => rfl) rfl rfl ?_
                  refine FL.val (fun _ => OV.fieldAddr0 rfl tf_field_43_0) rfl (fun _ => rfl) rfl rfl ?_
                  refine FL.val (fun _ => OV.load rfl (At.own 0 rfl) rfl tf_scal_9) rfl (fun _ => rfl) rfl rfl ?_
                  refine FL.val (fun _ => OV.move rfl) rfl (fun _ => rfl) rfl rfl ?_
                  refine FL.val (fun _ => OV.nilCheck rfl) rfl (fun _ => rfl) rfl rfl ?_
                  refine FL.val (fun _ => OV.fieldAddr0 rfl tf_field_43_1) rfl (fun _ => rfl) rfl rfl ?_
                  refine FL.val (fun _ => OV.load rfl (At.own 0 rfl) rfl tf_scal_3) rfl (fun _ => rfl) rfl rfl ?_
                  refine FL.weak (L' := fun γ => [(0, Value.pointer (some ⟨b, 0, none⟩)), (5, Value.int .i64 0), (38, Value.int .i64 0), (52, st s_0), (56, Value.int .i64 ((s_1 + 1) + 1))]) (fun γ => ⟨rfl, rfl, rfl, rfl, rfl, trivial⟩) (FL.nil (hT_1' (fun γ => [(0, Value.pointer (some ⟨b, 0, none⟩)), (5, Value.int .i64 0), (38, Value.int .i64 0), (52, st s_0), (56, Value.int .i64 ((s_1 + 1) + 1))]) (fun γ => ?_)))
                  obtain ⟨o_3', h⟩ := h
                  refine WL.val (OV.index rfl rfl tf_str_9 o_3') rfl rfl rfl ?_
                  refine WL.call (A := []) tf_ent_19 rfl (indexByte_does ([48, 49, 50, 51, 52, 53, 54, 55, 56, 57, 97, 98, 99, 100, 101, 102] : List UInt8) ((s_0.getD ((s_1 + 1) + 1).toNat 0).toNat : Int)) rfl trivial rfl rfl ?_
                  refine WL.val (OV.assign rfl) rfl rfl rfl ?_
                  refine WL.nil ?_
                  refine KX.go (hK_29' [(0, Value.pointer (some ⟨b, 0, none⟩)), (5, Value.int .i64 0), (6, Value.int .i64 (Lib.indexByte ([48, 49, 50, 51, 52, 53, 54, 55, 56, 57, 97, 98, 99, 100, 101, 102] : List UInt8) (((s_0.getD ((s_1 + 1) + 1).toNat 0).toNat : Int)).toNat.toUInt8)), (38, Value.int .i64 0)] _ ?_) ⟨rfl, rfl, rfl, rfl, trivial⟩
                  refine wc_seq (fun K0_30' hK_30' => ?_)
                  refine wc_seq (fun K0_31' hK_31' => ?_)
                  refine wc_region ?_
                  refine WL.val (OV.move rfl) rfl rfl rfl ?_
                  refine WL.val (OV.lss rfl rfl) rfl rfl rfl ?_
                  refine WL.nil ?_
                  refine KX.go (hK_31' [(0, Value.pointer (some ⟨b, 0, none⟩)), (5, Value.int .i64 0), (6, Value.int .i64 (Lib.indexByte ([48, 49, 50, 51, 52, 53, 54, 55, 56, 57, 97, 98, 99, 100, 101, 102] : List UInt8) (((s_0.getD ((s_1 + 1) + 1).toNat 0).toNat : Int)).toNat.toUInt8)), (38, Value.int .i64 0), (60, Value.bool (decide (Lib.indexByte ([48, 49, 50, 51, 52, 53, 54, 55, 56, 57, 97, 98, 99, 100, 101, 102] : List UInt8) (((s_0.getD ((s_1 + 1) + 1).toNat 0).toNat : Int)).toNat.toUInt8 < 0)))] _ ?_) ⟨rfl, rfl, rfl, rfl, rfl, trivial⟩
                  refine wc_cond (b := decide (Lib.indexByte ([48, 49, 50, 51, 52, 53, 54, 55, 56, 57, 97, 98, 99, 100, 101, 102] : List UInt8) (((s_0.getD ((s_1 + 1) + 1).toNat 0).toNat : Int)).toNat.toUInt8 < 0)) rfl (fun hb => ?_) (fun hb => ?_)
                  · replace h := if_T h hb
                    refine wc_seq (fun K0_32' hK_32' => ?_)
                    refine wc_region ?_
                    refine WL.val (OV.assign rfl) rfl rfl rfl ?_
                    refine WL.val (OV.assign rfl) rfl rfl rfl ?_
                    refine WL.nil ?_
                    refine KX.go (hK_32' [(2, Value.int .u8 0), (3, Value.bool false)] _ ?_) ⟨rfl, rfl, trivial⟩
                    refine wc_ret ?_
                    exact hE.ret [0] rfl rfl (.inl ⟨_, _, _, _, _, _, _, _, h, rfl⟩) (ResV.of2 rfl (RV.tmp rfl) (RV.tmp rfl))
                  · replace h := if_F h hb
                    refine wc_skip ?_
                    refine KX.go (hK_30' [(0, Value.pointer (some ⟨b, 0, none⟩)), (5, Value.int .i64 0), (6, Value.int .i64 (Lib.indexByte ([48, 49, 50, 51, 52, 53, 54, 55, 56, 57, 97, 98, 99, 100, 101, 102] : List UInt8) (((s_0.getD ((s_1 + 1) + 1).toNat 0).toNat : Int)).toNat.toUInt8)), (38, Value.int .i64 0)] _ ?_) ⟨rfl, rfl, rfl, rfl, trivial⟩
                    refine wc_region ?_
                    refine WL.val (OV.move rfl) rfl rfl rfl ?_
                    refine WL.val (OV.mul rfl rfl ⟨by decide, by decide⟩) rfl rfl rfl ?_
                    refine WL.val (OV.move rfl) rfl rfl rfl ?_
                    obtain ⟨o_4', h⟩ := h
                    refine WL.val (OV.add rfl rfl o_4') rfl rfl rfl ?_
                    refine WL.val (OV.assign rfl) rfl rfl rfl ?_
                    refine WL.nil ?_
                    refine KX.go (hK_24' [(0, Value.pointer (some ⟨b, 0, none⟩)), (5, Value.int .i64 (0 + (Lib.indexByte ([48, 49, 50, 51, 52, 53, 54, 55, 56, 57, 97, 98, 99, 100, 101, 102] : List UInt8) (((s_0.getD ((s_1 + 1) + 1).toNat 0).toNat : Int)).toNat.toUInt8))), (38, Value.int .i64 0)] _ ?_) ⟨rfl, rfl, rfl, trivial⟩
                    refine wc_region ?_
                    refine WL.val (OV.add rfl rfl ⟨by decide, by decide⟩) rfl rfl rfl ?_
                    refine WL.val (OV.move rfl) rfl rfl rfl ?_
                    refine WL.nil ?_
                    refine KX.go (hK_21' [(0, Value.pointer (some ⟨b, 0, none⟩)), (5, Value.int .i64 (0 + (Lib.indexByte ([48, 49, 50, 51, 52, 53, 54, 55, 56, 57, 97, 98, 99, 100, 101, 102] : List UInt8) (((s_0.getD ((s_1 + 1) + 1).toNat 0).toNat : Int)).toNat.toUInt8))), (38, Value.int .i64 1)] _ ?_) ⟨rfl, rfl, rfl, trivial⟩
                    refine RC.succ (fun K0_33' hK_33' => ?_)
                    refine wc_seq (fun K0_34' hK_34' => ?_)
                    refine wc_region ?_
                    refine WL.val (OV.lss rfl rfl) rfl rfl rfl ?_
                    refine WL.nil ?_
                    refine KX.go (hK_34' [(0, Value.pointer (some ⟨b, 0, none⟩)), (5, Value.int .i64 (0 + (Lib.indexByte ([48, 49, 50, 51, 52, 53, 54, 55, 56, 57, 97, 98, 99, 100, 101, 102] : List UInt8) (((s_0.getD ((s_1 + 1) + 1).toNat 0).toNat : Int)).toNat.toUInt8))), (38, Value.int .i64 1), (39, Value.bool true)] _ ?_) ⟨rfl, rfl, rfl, rfl, trivial⟩
                    refine wc_seq (fun K0_35' hK_35' => ?_)
                    refine wc_condT rfl ?_
                    refine wc_skip ?_
                    refine KX.go (hK_35' [(0, Value.pointer (some ⟨b, 0, none⟩)), (5, Value.int .i64 (0 + (Lib.indexByte ([48, 49, 50, 51, 52, 53, 54, 55, 56, 57, 97, 98, 99, 100, 101, 102] : List UInt8) (((s_0.getD ((s_1 + 1) + 1).toNat 0).toNat : Int)).toNat.toUInt8))), (38, Value.int .i64 1)] _ ?_) ⟨rfl, rfl, rfl, trivial⟩
                    refine wc_seq (fun K0_36' hK_36' => ?_)
                    refine wc_block ?_
                    refine wc_seq (fun K0_37' hK_37' => ?_)
                    refine wc_region ?_
                    refine WL.val (OV.move rfl) rfl rfl rfl ?_
                    refine WL.val (OV.nilCheck rfl) rfl rfl rfl ?_
                    refine WL.val (OV.fieldAddr0 rfl tf_field_43_1) rfl rfl rfl ?_
                    refine WL.val (OV.load rfl (At.own 0 rfl) rfl tf_scal_3) rfl rfl rfl ?_
                    obtain ⟨o_5', h⟩ := h
                    refine WL.val (OV.add rfl rfl o_5') rfl rfl rfl ?_
                    refine WL.val (OV.nilCheck rfl) rfl rfl rfl ?_
                    refine WL.val (OV.fieldAddr0 rfl tf_field_43_1) rfl rfl rfl ?_
                    refine WL.store (vs := [Value.int .i64 (((s_1 + 1) + 1) + 1)]) (cs' := [st s_0, Value.int .i64 (((s_1 + 1) + 1) + 1), s_2, Value.int .i64 s_3, Value.int .i64 s_4, st s_5]) 0 rfl rfl rfl rfl tf_size_3 (Nat.le_of_ble_eq_true rfl) rfl rfl rfl ?_
                    refine WL.nil ?_
                    refine KX.go (hK_37' [(0, Value.pointer (some ⟨b, 0, none⟩)), (5, Value.int .i64 (0 + (Lib.indexByte ([48, 49, 50, 51, 52, 53, 54, 55, 56, 57, 97, 98, 99, 100, 101, 102] : List UInt8) (((s_0.getD ((s_1 + 1) + 1).toNat 0).toNat : Int)).toNat.toUInt8))), (38, Value.int .i64 1)] _ ?_) ⟨rfl, rfl, rfl, trivial⟩
                    refine wc_seq (fun K0_38' hK_38' => ?_)
                    refine wc_seq (fun K0_39' hK_39' => ?_)
                    refine wc_region ?_
                    refine WL.val (OV.move rfl) rfl rfl rfl ?_
                    refine WL.call (A := []) tf_ent_14 rfl (ended_does b s_0 (((s_1 + 1) + 1) + 1) s_2 s_3 s_4 s_5) rfl ⟨.inl ⟨0, rfl⟩, trivial⟩ rfl rfl ?_
                    refine WL.nil ?_
                    refine KX.go (hK_39' [(0, Value.pointer (some ⟨b, 0, none⟩)), (5, Value.int .i64 (0 + (Lib.indexByte ([48, 49, 50, 51, 52, 53, 54, 55, 56, 57, 97, 98, 99, 100, 101, 102] : List UInt8) (((s_0.getD ((s_1 + 1) + 1).toNat 0).toNat : Int)).toNat.toUInt8))), (38, Value.int .i64 1), (48, Value.bool (decide (s_0.length ≤ ((s_1 + 1) + 1) + 1)))] _ ?_) ⟨rfl, rfl, rfl, rfl, trivial⟩
                    refine wc_cond (b := decide (s_0.length ≤ ((s_1 + 1) + 1) + 1)) rfl (fun hb => ?_) (fun hb => ?_)
                    · replace h := if_T h hb
                      refine wc_seq (fun K0_40' hK_40' => ?_)
                      refine wc_region ?_
                      refine WL.val (OV.assign rfl) rfl rfl rfl ?_
                      refine WL.val (OV.assign rfl) rfl rfl rfl ?_
                      refine WL.nil ?_
                      refine KX.go (hK_40' [(2, Value.int .u8 0), (3, Value.bool false)] _ ?_) ⟨rfl, rfl, trivial⟩
                      refine wc_ret ?_
                      exact hE.ret [0] rfl rfl (.inl ⟨_, _, _, _, _, _, _, _, h, rfl⟩) (ResV.of2 rfl (RV.tmp rfl) (RV.tmp rfl))
                    · replace h := if_F h hb
                      refine wc_skip ?_
                      refine KX.go (hK_38' [(0, Value.pointer (some ⟨b, 0, none⟩)), (5, Value.int .i64 (0 + (Lib.indexByte ([48, 49, 50, 51, 52, 53, 54, 55, 56, 57, 97, 98, 99, 100, 101, 102] : List UInt8) (((s_0.getD ((s_1 + 1) + 1).toNat 0).toNat : Int)).toNat.toUInt8))), (38, Value.int .i64 1)] _ ?_) ⟨rfl, rfl, rfl, trivial⟩
                      refine wc_seq (fun K0_41' hK_41' => ?_)
                      refine wc_draw 8 [] tf_mixed (by kernel_rfl) rfl (fun T_2' hT_2' => ?_)
                      refine FL.val (fun _ => OV.move rfl) rfl (fun _ => rfl) rfl rfl ?_
                      refine FL.val (fun _ => OV.nilCheck rfl) rfl (fun _ => rfl) rfl rfl ?_
                      refine FL.val (fun _ => OV.fieldAddr0 rfl tf_field_43_0) rfl (fun _ => rfl) rfl rfl ?_
                      refine FL.val (fun _ => OV.load rfl (At.own 0 rfl) rfl tf_scal_9) rfl (fun _ => rfl) rfl rfl ?_
                      refine FL.val (fun _ => OV.move rfl) rfl (fun _ => rfl) rfl rfl ?_
                      refine FL.val (fun _ => OV.nilCheck rfl) rfl (fun _ => rfl) rfl rfl ?_
                      refine FL.val (fun _ => OV.fieldAddr0 rfl tf_field_43_1) rfl (fun _ => rfl) rfl rfl ?_
                      refine FL.val (fun _ => OV.load rfl (At.own 0 rfl) rfl tf_scal_3) rfl (fun _ => rfl) rfl rfl ?_
                      refine FL.weak (L' := fun γ => [(0, Value.pointer (some ⟨b, 0, none⟩)), (5, Value.int .i64 (0 + (Lib.indexByte ([48, 49, 50, 51, 52, 53, 54, 55, 56, 57, 97, 98, 99, 100, 101, 102] : List UInt8) (((s_0.getD ((s_1 + 1) + 1).toNat 0).toNat : Int)).toNat.toUInt8))), (38, Value.int .i64 1), (52, st s_0), (56, Value.int .i64 (((s_1 + 1) + 1) + 1))]) (fun γ => ⟨rfl, rfl, rfl, rfl, rfl, trivial⟩) (FL.nil (hT_2' (fun γ => [(0, Value.pointer (some ⟨b, 0, none⟩)), (5, Value.int .i64 (0 + (Lib.indexByte ([48, 49, 50, 51, 52, 53, 54, 55, 56, 57, 97, 98, 99, 100, 101, 102] : List UInt8) (((s_0.getD ((s_1 + 1) + 1).toNat 0).toNat : Int)).toNat.toUInt8))), (38, Value.int .i64 1), (52, st s_0), (56, Value.int .i64 (((s_1 + 1) + 1) + 1))]) (fun γ => ?_)))
                      obtain ⟨o_6', h⟩ := h
                      refine WL.val (OV.index rfl rfl tf_str_9 o_6') rfl rfl rfl ?_
                      refine WL.call (A := []) tf_ent_19 rfl (indexByte_does ([48, 49, 50, 51, 52, 53, 54, 55, 56, 57, 97, 98, 99, 100, 101, 102] : List UInt8) ((s_0.getD (((s_1 + 1) + 1) + 1).toNat 0).toNat : Int)) rfl trivial rfl rfl ?_
                      refine WL.val (OV.assign rfl) rfl rfl rfl ?_
                      refine WL.nil ?_
                      refine KX.go (hK_41' [(0, Value.pointer (some ⟨b, 0, none⟩)), (5, Value.int .i64 (0 + (Lib.indexByte ([48, 49, 50, 51, 52, 53, 54, 55, 56, 57, 97, 98, 99, 100, 101, 102] : List UInt8) (((s_0.getD ((s_1 + 1) + 1).toNat 0).toNat : Int)).toNat.toUInt8))), (6, Value.int .i64 (Lib.indexByte ([48, 49, 50, 51, 52, 53, 54, 55, 56, 57, 97, 98, 99, 100, 101, 102] : List UInt8) (((s_0.getD (((s_1 + 1) + 1) + 1).toNat 0).toNat : Int)).toNat.toUInt8)), (38, Value.int .i64 1)] _ ?_) ⟨rfl, rfl, rfl, rfl, trivial⟩
                      refine wc_seq (fun K0_42' hK_42' => ?_)
                      refine wc_seq (fun K0_43' hK_43' => ?_)
                      refine wc_region ?_
                      refine WL.val (OV.move rfl) rfl rfl rfl ?_
                      refine WL.val (OV.lss rfl rfl) rfl rfl rfl ?_
                      refine WL.nil ?_
                      refine KX.go (hK_43' [(0, Value.pointer (some ⟨b, 0, none⟩)), (5, Value.int .i64 (0 + (Lib.indexByte ([48, 49, 50, 51, 52, 53, 54, 55, 56, 57, 97, 98, 99, 100, 101, 102] : List UInt8) (((s_0.getD ((s_1 + 1) + 1).toNat 0).toNat : Int)).toNat.toUInt8))), (6, Value.int .i64 (Lib.indexByte ([48, 49, 50, 51, 52, 53, 54, 55, 56, 57, 97, 98, 99, 100, 101, 102] : List UInt8) (((s_0.getD (((s_1 + 1) + 1) + 1).toNat 0).toNat : Int)).toNat.toUInt8)), (38, Value.int .i64 1), (60, Value.bool (decide (Lib.indexByte ([48, 49, 50, 51, 52, 53, 54, 55, 56, 57, 97, 98, 99, 100, 101, 102] : List UInt8) (((s_0.getD (((s_1 + 1) + 1) + 1).toNat 0).toNat : Int)).toNat.toUInt8 < 0)))] _ ?_) ⟨rfl, rfl, rfl, rfl, rfl, trivial⟩
                      refine wc_cond (b := decide (Lib.indexByte ([48, 49, 50, 51, 52, 53, 54, 55, 56, 57, 97, 98, 99, 100, 101, 102] : List UInt8) (((s_0.getD (((s_1 + 1) + 1) + 1).toNat 0).toNat : Int)).toNat.toUInt8 < 0)) rfl (fun hb => ?_) (fun hb => ?_)
                      · replace h := if_T h hb
                        refine wc_seq (fun K0_44' hK_44' => ?_)
                        refine wc_region ?_
                        refine WL.val (OV.assign rfl) rfl rfl rfl ?_
                        refine WL.val (OV.assign rfl) rfl rfl rfl ?_
                        refine WL.nil ?_
                        refine KX.go (hK_44' [(2, Value.int .u8 0), (3, Value.bool false)] _ ?_) ⟨rfl, rfl, trivial⟩
                        refine wc_ret ?_
                        exact hE.ret [0] rfl rfl (.inl ⟨_, _, _, _, _, _, _, _, h, rfl⟩) (ResV.of2 rfl (RV.tmp rfl) (RV.tmp rfl))
                      · replace h := if_F h hb
                        refine wc_skip ?_
                        refine KX.go (hK_42' [(0, Value.pointer (some ⟨b, 0, none⟩)), (5, Value.int .i64 (0 + (Lib.indexByte ([48, 49, 50, 51, 52, 53, 54, 55, 56, 57, 97, 98, 99, 100, 101, 102] : List UInt8) (((s_0.getD ((s_1 + 1) + 1).toNat 0).toNat : Int)).toNat.toUInt8))), (6, Value.int .i64 (Lib.indexByte ([48, 49, 50, 51, 52, 53, 54, 55, 56, 57, 97, 98, 99, 100, 101, 102] : List UInt8) (((s_0.getD (((s_1 + 1) + 1) + 1).toNat 0).toNat : Int)).toNat.toUInt8)), (38, Value.int .i64 1)] _ ?_) ⟨rfl, rfl, rfl, rfl, trivial⟩
                        refine wc_region ?_
                        refine WL.val (OV.move rfl) rfl rfl rfl ?_
                        obtain ⟨o_7', h⟩ := h
                        refine WL.val (OV.mul rfl rfl o_7') rfl rfl rfl ?_
                        refine WL.val (OV.move rfl) rfl rfl rfl ?_
                        obtain ⟨o_8', h⟩ := h
                        refine WL.val (OV.add rfl rfl o_8') rfl rfl rfl ?_
                        refine WL.val (OV.assign rfl) rfl rfl rfl ?_
                        refine WL.nil ?_
                        refine KX.go (hK_36' [(0, Value.pointer (some ⟨b, 0, none⟩)), (5, Value.int .i64 ((16 * (0 + (Lib.indexByte ([48, 49, 50, 51, 52, 53, 54, 55, 56, 57, 97, 98, 99, 100, 101, 102] : List UInt8) (((s_0.getD ((s_1 + 1) + 1).toNat 0).toNat : Int)).toNat.toUInt8))) + (Lib.indexByte ([48, 49, 50, 51, 52, 53, 54, 55, 56, 57, 97, 98, 99, 100, 101, 102] : List UInt8) (((s_0.getD (((s_1 + 1) + 1) + 1).toNat 0).toNat : Int)).toNat.toUInt8))), (38, Value.int .i64 1)] _ ?_) ⟨rfl, rfl, rfl, trivial⟩
                        refine wc_region ?_
                        refine WL.val (OV.add rfl rfl ⟨by decide, by decide⟩) rfl rfl rfl ?_
                        refine WL.val (OV.move rfl) rfl rfl rfl ?_
                        refine WL.nil ?_
                        refine KX.go (hK_33' [(0, Value.pointer (some ⟨b, 0, none⟩)), (5, Value.int .i64 ((16 * (0 + (Lib.indexByte ([48, 49, 50, 51, 52, 53, 54, 55, 56, 57, 97, 98, 99, 100, 101, 102] : List UInt8) (((s_0.getD ((s_1 + 1) + 1).toNat 0).toNat : Int)).toNat.toUInt8))) + (Lib.indexByte ([48, 49, 50, 51, 52, 53, 54, 55, 56, 57, 97, 98, 99, 100, 101, 102] : List UInt8) (((s_0.getD (((s_1 + 1) + 1) + 1).toNat 0).toNat : Int)).toNat.toUInt8))), (38, Value.int .i64 2)] _ ?_) ⟨rfl, rfl, rfl, trivial⟩
                        refine RC.succ (fun K0_45' hK_45' => ?_)
                        refine wc_seq (fun K0_46' hK_46' => ?_)
                        refine wc_region ?_
                        refine WL.val (OV.lss rfl rfl) rfl rfl rfl ?_
                        refine WL.nil ?_
                        refine KX.go (hK_46' [(0, Value.pointer (some ⟨b, 0, none⟩)), (5, Value.int .i64 ((16 * (0 + (Lib.indexByte ([48, 49, 50, 51, 52, 53, 54, 55, 56, 57, 97, 98, 99, 100, 101, 102] : List UInt8) (((s_0.getD ((s_1 + 1) + 1).toNat 0).toNat : Int)).toNat.toUInt8))) + (Lib.indexByte ([48, 49, 50, 51, 52, 53, 54, 55, 56, 57, 97, 98, 99, 100, 101, 102] : List UInt8) (((s_0.getD (((s_1 + 1) + 1) + 1).toNat 0).toNat : Int)).toNat.toUInt8))), (38, Value.int .i64 2), (39, Value.bool false)] _ ?_) ⟨rfl, rfl, rfl, rfl, trivial⟩
                        refine wc_seq (fun K0_47' hK_47' => ?_)
                        refine wc_condF rfl ?_
                        refine wc_exit ?_
                        refine KX.go (hK_19' [(5, Value.int .i64 ((16 * (0 + (Lib.indexByte ([48, 49, 50, 51, 52, 53, 54, 55, 56, 57, 97, 98, 99, 100, 101, 102] : List UInt8) (((s_0.getD ((s_1 + 1) + 1).toNat 0).toNat : Int)).toNat.toUInt8))) + (Lib.indexByte ([48, 49, 50, 51, 52, 53, 54, 55, 56, 57, 97, 98, 99, 100, 101, 102] : List UInt8) (((s_0.getD (((s_1 + 1) + 1) + 1).toNat 0).toNat : Int)).toNat.toUInt8)))] _ ?_) ⟨rfl, trivial⟩
                        refine wc_seq (fun K0_48' hK_48' => ?_)
                        refine wc_region ?_
                        refine WL.val (OV.move rfl) rfl rfl rfl ?_
                        refine WL.val (OV.conv rfl tf_some_3 Tryd.underlying5) rfl rfl rfl ?_
                        refine WL.val (OV.assign rfl) rfl rfl rfl ?_
                        refine WL.val (OV.assign rfl) rfl rfl rfl ?_
                        refine WL.nil ?_
                        refine KX.go (hK_48' [(2, Value.int .u8 (IntKind.wrap .u8 ((16 * (0 + (Lib.indexByte ([48, 49, 50, 51, 52, 53, 54, 55, 56, 57, 97, 98, 99, 100, 101, 102] : List UInt8) (((s_0.getD ((s_1 + 1) + 1).toNat 0).toNat : Int)).toNat.toUInt8))) + (Lib.indexByte ([48, 49, 50, 51, 52, 53, 54, 55, 56, 57, 97, 98, 99, 100, 101, 102] : List UInt8) (((s_0.getD (((s_1 + 1) + 1) + 1).toNat 0).toNat : Int)).toNat.toUInt8)))), (3, Value.bool true)] _ ?_) ⟨rfl, rfl, trivial⟩
                        refine wc_ret ?_
                        exact hE.ret [0] rfl rfl (.inl ⟨_, _, _, _, _, _, _, _, h, rfl⟩) (ResV.of2 rfl (RV.tmp rfl) (RV.tmp rfl))
              · replace h := if_F h hb
                refine wc_skip ?_
                refine KX.go (hK_5' [] _ ?_) trivial
                refine wc_seq (fun K0_49' hK_49' => ?_)
                refine wc_region ?_
                refine WL.val (OV.assign rfl) rfl rfl rfl ?_
                refine WL.val (OV.assign rfl) rfl rfl rfl ?_
                refine WL.nil ?_
                refine KX.go (hK_49' [(2, Value.int .u8 0), (3, Value.bool false)] _ ?_) ⟨rfl, rfl, trivial⟩
                refine wc_ret ?_
                exact hE.ret [0] rfl rfl (.inl ⟨_, _, _, _, _, _, _, _, h, rfl⟩) (ResV.of2 rfl (RV.tmp rfl) (RV.tmp rfl))
          · skip
            refine wc_seq (fun K0_50' hK_50' => ?_)
            refine wc_region ?_
            refine WL.val (OV.eql rfl rfl) rfl rfl rfl ?_
            refine WL.val (OV.assign rfl) rfl rfl rfl ?_
            refine WL.nil ?_
            refine KX.go (hK_50' [(0, Value.pointer (some ⟨b, 0, none⟩)), (4, Value.int .u8 ((s_0.getD (s_1 + 1).toNat 0).toNat : Int)), (25, Value.int .u8 ((s_0.getD (s_1 + 1).toNat 0).toNat : Int)), (32, Value.bool (decide (((s_0.getD (s_1 + 1).toNat 0).toNat : Int) = 34)))] _ ?_) ⟨rfl, rfl, rfl, rfl, trivial⟩
            refine wc_cond (b := decide (((s_0.getD (s_1 + 1).toNat 0).toNat : Int) = 34)) rfl (fun hb => ?_) (fun hb => ?_)
            · replace h := if_T h hb
              refine wc_skip ?_
              exact KX.goH (hK_15' (decide (((s_0.getD (s_1 + 1).toNat 0).toNat : Int) = 34)) h) ⟨rfl, rfl, rfl, rfl, trivial⟩ [0] rfl rfl
            · replace h := if_F h hb
              refine wc_region ?_
              refine WL.val (OV.eql rfl rfl) rfl rfl rfl ?_
              refine WL.val (OV.assign rfl) rfl rfl rfl ?_
              refine WL.nil ?_
              exact KX.goH (hK_15' (decide (((s_0.getD (s_1 + 1).toNat 0).toNat : Int) = 92)) h) ⟨rfl, rfl, rfl, rfl, trivial⟩ [0] rfl rfl

theorem escM_q {t : List UInt8} {a : Int} {b : Int} {ok : Bool} {q : Int} (h : escM t a = (b, ok, q)) : a + 1 ≤ q ∧ q ≤ a + 3 ∧ 0 ≤ b ∧ b < 256 ∧ (ok = true → q < t.length) ∧ (q ≤ t.length ∨ q = a + 1) := by
  have c1 := bt_bd t (a + 1)
  have r2 := refHex_bd (c := bt t (a + 2))
  have r3 := refHex_bd (c := bt t (a + 3))
  unfold escM at h
  simp only at h
  repeat' split at h
  all_goals (simp only [Prod.mk.injEq] at h; obtain ⟨rfl, rfl, rfl⟩ := h; first | (refine ⟨by omega, by omega, by omega, by omega, ?_, ?_⟩ <;> first | (intro _; omega) | (intro hx; cases hx; done) | (left; omega) | (right; omega) | omega))
theorem escape_does (b : Nat) (t : List UInt8) (a : Int) (w : Value) (fc fa : Int) (ft : List UInt8) (h : 0 ≤ a ∧ a < t.length ∧ t.length ≤ 4096) :
    Does Tryd.prog 37 [.pointer (some ⟨b, 0, none⟩)] [] [.blk b (scB t a w fc fa ft)] (fun o => ∃ r ok q, escM t a = (r, ok, q) ∧ o = .ret (.tuple #[.int .u8 r, .bool ok]) [.blk b (scB t q w fc fa ft)]) := by
  refine (escape_wp b t a w fc fa ft (fun r ok t' a' w' c' p' x => escM t a = (r, ok, a') ∧ t' = t ∧ w' = w ∧ c' = fc ∧ p' = fa ∧ x = ft) ?_).weak ?_
  · unfold escape_vc
    have eb : ∀ i : Int, ((t.getD i.toNat 0).toNat : Int) = bt t i := fun _ => rfl
    simp only [eb, show a + 1 + 1 = a + 2 from by omega, show a + 2 + 1 = a + 3 from by omega]
    have hI : ∀ k : Int, 0 ≤ k → k ≤ 4 → I64 (a + k) := fun k _ _ => ⟨by omega, by omega⟩
    have c2 := bt_bd t (a + 2)
    have c3 := bt_bd t (a + 3)
    have r2 := refHex_bd (c := bt t (a + 2))
    have r3 := refHex_bd (c := bt t (a + 3))
    rw [idx_hex _ c2, idx_hex _ c3]
    unfold escM
    simp only
    refine ⟨hI 1 (by omega) (by omega), ?_⟩
    by_cases h1 : (t.length : Int) ≤ a + 1
    · rw [if_pos (by simpa using h1), if_pos h1]; (refine ⟨?_, ?_, ?_, ?_, ?_, ?_⟩ <;> first | rfl | trivial)
    · rw [if_neg (by simpa using h1)]
      simp only [if_neg h1]
      refine ⟨⟨by omega, by omega⟩, ?_⟩
      generalize bt t (a + 1) = c
      by_cases e1 : c = 110
      · rw [if_pos (by simpa using e1)]; simp only [if_pos e1]; (refine ⟨?_, ?_, ?_, ?_, ?_, ?_⟩ <;> first | rfl | trivial)
      · rw [if_neg (by simpa using e1)]; simp only [if_neg e1]
        by_cases e2 : c = 114
        · rw [if_pos (by simpa using e2)]; simp only [if_pos e2]; (refine ⟨?_, ?_, ?_, ?_, ?_, ?_⟩ <;> first | rfl | trivial)
        · rw [if_neg (by simpa using e2)]; simp only [if_neg e2]
          by_cases e3 : c = 116
          · rw [if_pos (by simpa using e3)]; simp only [if_pos e3]; (refine ⟨?_, ?_, ?_, ?_, ?_, ?_⟩ <;> first | rfl | trivial)
          · rw [if_neg (by simpa using e3)]; simp only [if_neg e3]
            refine ⟨fun r => r = decide (c = 34 ∨ c = 92), fun r hr => ?_, ?_⟩
            · by_cases e4 : c = 34 ∨ c = 92
              · rw [hr, if_pos (by simpa using e4)]; simp only [if_pos e4]; (refine ⟨?_, ?_, ?_, ?_, ?_, ?_⟩ <;> first | rfl | trivial)
              · rw [hr, if_neg (by simpa using e4)]; simp only [if_neg e4]
                by_cases e5 : c = 120
                · rw [if_pos (by simpa using e5)]; simp only [if_pos e5]
                  refine ⟨hI 2 (by omega) (by omega), ?_⟩
                  by_cases h2 : (t.length : Int) ≤ a + 2
                  · rw [if_pos (by simpa using h2)]; simp only [if_pos h2]; (refine ⟨?_, ?_, ?_, ?_, ?_, ?_⟩ <;> first | rfl | trivial)
                  · rw [if_neg (by simpa using h2)]; simp only [if_neg h2]
                    refine ⟨⟨by omega, by omega⟩, ?_⟩
                    by_cases h3 : refHex (bt t (a + 2)) < 0
                    · rw [if_pos (by simpa using h3)]; simp only [if_pos h3]; (refine ⟨?_, ?_, ?_, ?_, ?_, ?_⟩ <;> first | rfl | trivial)
                    · rw [if_neg (by simpa using h3)]; simp only [if_neg h3]
                      refine ⟨⟨by omega, by omega⟩, hI 3 (by omega) (by omega), ?_⟩
                      by_cases h4 : (t.length : Int) ≤ a + 3
                      · rw [if_pos (by simpa using h4)]; simp only [if_pos h4]; (refine ⟨?_, ?_, ?_, ?_, ?_, ?_⟩ <;> first | rfl | trivial)
                      · rw [if_neg (by simpa using h4)]; simp only [if_neg h4]
                        refine ⟨⟨by omega, by omega⟩, ?_⟩
                        by_cases h5 : refHex (bt t (a + 3)) < 0
                        · rw [if_pos (by simpa using h5)]; simp only [if_pos h5]; (refine ⟨?_, ?_, ?_, ?_, ?_, ?_⟩ <;> first | rfl | trivial)
                        · rw [if_neg (by simpa using h5)]; simp only [if_neg h5]
                          refine ⟨⟨by omega, by omega⟩, ⟨by omega, by omega⟩, ?_, by first | rfl | trivial, by first | rfl | trivial, by first | rfl | trivial, by first | rfl | trivial, by first | rfl | trivial⟩
                          rw [IntWalk.u8_in _ (by omega), Int.zero_add]
                · rw [if_neg (by simpa using e5)]; simp only [if_neg e5]; (refine ⟨?_, ?_, ?_, ?_, ?_, ?_⟩ <;> first | rfl | trivial)
            · by_cases e4 : c = 34
              · simp [e4]
              · simp [e4]
  · rintro o (⟨r, ok, t', q, w', c', p', x, ⟨he, rfl, rfl, rfl, rfl, rfl⟩, rfl⟩ | h)
    · exact ⟨r, ok, q, he, rfl⟩
    · exact h.elim

end Go.Proofs.YtlfolgbaageknaaDoor
