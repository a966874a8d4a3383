/-
  Texts in quotes, regular expressions.
-/
import Derived.Test.YtlfolgbaageknaaDoorTkE
namespace Go.Proofs.YtlfolgbaageknaaDoor
open Go Go.RowKit

theorem tf_sl_49 : slB Tryd.prog 49 5 1 = true := by kernel_rfl
theorem tf_ent_16 : entB Tryd.prog 16 = true := by kernel_rfl
theorem tf_ent_36 : entB Tryd.prog 36 = true := by kernel_rfl
theorem tf_ent_25 : entB Tryd.prog 25 = true := by kernel_rfl
theorem tf_info_5 : infoB Tryd.prog 5 = some ([Value.int .u8 0], 1, 1) := by kernel_rfl
theorem tf_ent_37 : entB Tryd.prog 37 = true := by kernel_rfl

def quoted_vc (s_0 : List UInt8) (s_1 : Int) (s_3 : Int) (s_4 : Int) (s_5 : List UInt8) (sl : List Tok) (K : Bool → (List UInt8) → Int → Int → Int → (List UInt8) → (List Tok) → Prop) : Prop :=
  (I64 (s_1 + 1)) ∧
  ∃ (Inv : (List UInt8) → Int → Prop) (mu : (List UInt8) → Int → Nat),
    Inv [] (s_1 + 1) ∧ ∀ (l_3' : List UInt8) (s_1_4' : Int), Inv l_3' s_1_4' →
      (if (!(decide (s_0.length ≤ s_1_4'))) = true then
        ∃ (J0_2' : (List UInt8) → Int → Prop),
          (∀ (l_4' : List UInt8) (s_1_5' : Int), J0_2' l_4' s_1_5' →
            (I64 (s_1_5' + 1)) ∧
            Inv l_4' (s_1_5' + 1) ∧ mu l_4' (s_1_5' + 1) < mu l_3' s_1_4') ∧
          (0 ≤ s_1_4' ∧ s_1_4' < s_0.length) ∧
          (if (decide (((s_0.getD s_1_4'.toNat 0).toNat : Int) = 34)) = true then
            (I64 (s_1_4' + 1)) ∧
            (sl.length ≤ 4096) ∧
            (
              K true s_0 (s_1_4' + 1) s_3 s_4 s_5 (sl ++ [((2 : Int), s_1, l_3')]))
          else
            (if (!(printB ((s_0.getD s_1_4'.toNat 0).toNat : Int))) = true then
              K false s_0 s_1_4' 50 s_1_4' [] sl
            else
              (if (!decide (((s_0.getD s_1_4'.toNat 0).toNat : Int) = 92)) = true then
                (((l_3'.length + 1) + (l_3'.length + 1) / 4 + 192) * 1 ≤ 281474976710656 ∧ l_3'.length + 1 ≤ 9223372036854775807) ∧
                J0_2' (l_3' ++ [(s_0.getD s_1_4'.toNat 0)]) s_1_4'
              else
                (0 ≤ s_1_4' ∧ s_1_4' < s_0.length ∧ s_0.length ≤ 4096) ∧
                (∀ (b_17' : Int) (ok_5' : Bool) (at0_5' : Int), escM s_0 s_1_4' = (b_17', ok_5', at0_5') →
                  (if (decide (s_0.length ≤ at0_5')) = true then
                    K false s_0 at0_5' 51 s_1 [] sl
                  else
                    (if (!ok_5') = true then
                      K false s_0 at0_5' 50 at0_5' [] sl
                    else
                      (0 ≤ b_17' ∧ b_17' < 256) ∧
                      (((l_3'.length + 1) + (l_3'.length + 1) / 4 + 192) * 1 ≤ 281474976710656 ∧ l_3'.length + 1 ≤ 9223372036854775807) ∧
                      J0_2' (l_3' ++ [(b_17').toNat.toUInt8]) at0_5'))))))
      else
        K false s_0 s_1_4' 51 s_1 [] sl)
set_option maxRecDepth 100000 in
theorem quoted_wp (b : Nat) (w : Value) (s_0 : List UInt8) (s_1 : Int) (s_3 : Int) (s_4 : Int) (s_5 : List UInt8) (sl : List Tok) (K : Bool → (List UInt8) → Int → Int → Int → (List UInt8) → (List Tok) → Prop) (h : quoted_vc s_0 s_1 s_3 s_4 s_5 sl K) :
    Does Tryd.prog 26 [Value.pointer (some ⟨b, 0, none⟩)] [] [HA.blk b (.cells [st s_0, Value.int .i64 s_1, w, Value.int .i64 s_3, Value.int .i64 s_4, st s_5].toArray 43 (0, 0)), HA.row w 34 3 sl.length (sl.flatMap tokC)] (fun o => (∃ (v : Bool) (d_1' : List UInt8) (d_2' : Int) (d_3' : Int) (d_4' : Int) (d_5' : List UInt8) (w_24' : Value) (d : List Tok), K v d_1' d_2' d_3' d_4' d_5' d ∧ o = .ret (Value.bool v) [HA.blk b (.cells [st d_1', Value.int .i64 d_2', w_24', Value.int .i64 d_3', Value.int .i64 d_4', st d_5'].toArray 43 (0, 0)), HA.row w_24' 34 3 d.length (d.flatMap tokC)]) ∨ (False)) := by
  unfold quoted_vc at h
  refine does_of_wc (n := 95) (L0 := [(0, Value.pointer (some ⟨b, 0, none⟩))]) Tryd.func26 rfl rfl rfl rfl (fun w0 M Q hE => ?_)
  refine wc_seq (fun K0 hK => ?_)
  refine wc_region ?_
  refine WL.val (OV.assign rfl) rfl rfl rfl ?_
  refine WL.nil ?_
  refine KX.go (hK [(0, Value.pointer (some ⟨b, 0, none⟩))] _ ?_) ⟨rfl, trivial⟩
  refine wc_seq (fun K0_1' hK_1' => ?_)
  refine wc_region ?_
  refine WL.val (OV.move rfl) rfl rfl rfl ?_
  refine WL.val (OV.nilCheck rfl) rfl rfl rfl ?_
  refine WL.val (OV.fieldAddr0 rfl tf_field_43_1) rfl rfl rfl ?_
  refine WL.val (OV.load rfl (At.own 0 rfl) rfl tf_scal_3) rfl rfl rfl ?_
  refine WL.val (OV.assign rfl) rfl rfl rfl ?_
  refine WL.nil ?_
  refine KX.go (hK_1' [(0, Value.pointer (some ⟨b, 0, none⟩)), (3, Value.int .i64 s_1)] _ ?_) ⟨rfl, rfl, trivial⟩
  refine wc_seq (fun K0_2' hK_2' => ?_)
  refine wc_region ?_
  refine WL.val (OV.assign rfl) rfl rfl rfl ?_
  refine WL.nilRow 5 1 byteC ?_
  refine WL.nil ?_
  refine KX.go (hK_2' [(0, Value.pointer (some ⟨b, 0, none⟩)), (3, Value.int .i64 s_1), (4, Value.slice none 0 0)] _ ?_) ⟨rfl, rfl, rfl, trivial⟩
  refine wc_seq (fun K0_3' hK_3' => ?_)
  refine wc_seq (fun K0_4' hK_4' => ?_)
  refine wc_region ?_
  refine WL.val (OV.move rfl) rfl rfl rfl ?_
  refine WL.val (OV.nilCheck rfl) rfl rfl rfl ?_
  refine WL.val (OV.fieldAddr0 rfl tf_field_43_1) rfl rfl rfl ?_
  refine WL.val (OV.load rfl (At.own 1 rfl) rfl tf_scal_3) rfl rfl rfl ?_
  obtain ⟨o, h⟩ := h
  refine WL.val (OV.add rfl rfl o) rfl rfl rfl ?_
  refine WL.val (OV.nilCheck rfl) rfl rfl rfl ?_
  refine WL.val (OV.fieldAddr0 rfl tf_field_43_1) rfl rfl rfl ?_
  refine WL.store (vs := [Value.int .i64 (s_1 + 1)]) (cs' := [st s_0, Value.int .i64 (s_1 + 1), w, Value.int .i64 s_3, Value.int .i64 s_4, st s_5]) 1 rfl rfl rfl rfl tf_size_3 (Nat.le_of_ble_eq_true rfl) rfl rfl rfl ?_
  refine WL.nil ?_
  refine KX.go (hK_4' [(0, Value.pointer (some ⟨b, 0, none⟩)), (3, Value.int .i64 s_1), (4, Value.slice none 0 0)] _ ?_) ⟨rfl, rfl, rfl, trivial⟩
  refine wc_block ?_
  obtain ⟨Inv, mu, h0, hr⟩ := h
  refine wc_loop (S := Value × (List UInt8) × Int) (fun σ => Inv σ.2.1 σ.2.2) (fun σ => mu σ.2.1 σ.2.2) (fun σ => [(0, Value.pointer (some ⟨b, 0, none⟩)), (3, Value.int .i64 s_1), (4, σ.1)]) (fun σ => [HA.row σ.1 5 1 σ.2.1.length (σ.2.1.flatMap byteC), HA.blk b (.cells [st s_0, Value.int .i64 σ.2.2, w, Value.int .i64 s_3, Value.int .i64 s_4, st s_5].toArray 43 (0, 0)), HA.row w 34 3 sl.length (sl.flatMap tokC)]) (Value.slice none 0 0, [], s_1 + 1) h0 ⟨rfl, rfl, rfl, trivial⟩ rfl ?_
  rintro ⟨w_16', l_3', s_1_4'⟩ hi K0_75' hK_75'
  have h := hr l_3' s_1_4' hi
  show WC _ _ _ _ [(0, Value.pointer (some ⟨b, 0, none⟩)), (3, Value.int .i64 s_1), (4, w_16')] [HA.row w_16' 5 1 l_3'.length (l_3'.flatMap byteC), HA.blk b (.cells [st s_0, Value.int .i64 s_1_4', w, Value.int .i64 s_3, Value.int .i64 s_4, st s_5].toArray 43 (0, 0)), HA.row w 34 3 sl.length (sl.flatMap tokC)]
  refine wc_seq (fun K0_76' hK_76' => ?_)
  refine wc_seq (fun K0_77' hK_77' => ?_)
  refine wc_region ?_
  refine WL.val (OV.move rfl) rfl rfl rfl ?_
  refine WL.call (A := []) tf_ent_14 rfl (ended_does b s_0 s_1_4' w s_3 s_4 s_5) rfl ⟨.inl ⟨1, rfl⟩, trivial⟩ rfl rfl ?_
  refine WL.val (OV.not rfl) rfl rfl rfl ?_
  refine WL.nil ?_
  refine KX.go (hK_77' [(0, Value.pointer (some ⟨b, 0, none⟩)), (3, Value.int .i64 s_1), (4, w_16'), (21, Value.bool (!(decide (s_0.length ≤ s_1_4'))))] _ ?_) ⟨rfl, rfl, rfl, rfl, trivial⟩
  refine wc_cond (b := !(decide (s_0.length ≤ s_1_4'))) rfl (fun hb => ?_) (fun hb => ?_)
  · replace h := if_T h hb
    refine wc_skip ?_
    refine KX.go (hK_76' [(0, Value.pointer (some ⟨b, 0, none⟩)), (3, Value.int .i64 s_1), (4, w_16')] _ ?_) ⟨rfl, rfl, rfl, trivial⟩
    obtain ⟨J0_2', hJ_2', h⟩ := h
    refine wc_seqJ (X := Value × (List UInt8) × Int) (fun σ => J0_2' σ.2.1 σ.2.2) (fun σ => [(0, Value.pointer (some ⟨b, 0, none⟩)), (3, Value.int .i64 s_1), (4, σ.1)]) (fun σ => [HA.row σ.1 5 1 σ.2.1.length (σ.2.1.flatMap byteC), HA.blk b (.cells [st s_0, Value.int .i64 σ.2.2, w, Value.int .i64 s_3, Value.int .i64 s_4, st s_5].toArray 43 (0, 0)), HA.row w 34 3 sl.length (sl.flatMap tokC)]) ?_ (fun K0_94' hK_94' => ?_)
    · rintro ⟨w_20', l_4', s_1_5'⟩ hj
      replace h := hJ_2' l_4' s_1_5' hj
      show WC _ _ _ _ [(0, Value.pointer (some ⟨b, 0, none⟩)), (3, Value.int .i64 s_1), (4, w_20')] [HA.row w_20' 5 1 l_4'.length (l_4'.flatMap byteC), HA.blk b (.cells [st s_0, Value.int .i64 s_1_5', w, Value.int .i64 s_3, Value.int .i64 s_4, st s_5].toArray 43 (0, 0)), HA.row w 34 3 sl.length (sl.flatMap tokC)]
      refine wc_region ?_
      refine WL.val (OV.move rfl) rfl rfl rfl ?_
      refine WL.val (OV.nilCheck rfl) rfl rfl rfl ?_
      refine WL.val (OV.fieldAddr0 rfl tf_field_43_1) rfl rfl rfl ?_
      refine WL.val (OV.load rfl (At.own 1 rfl) rfl tf_scal_3) rfl rfl rfl ?_
      obtain ⟨o_38', h⟩ := h
      refine WL.val (OV.add rfl rfl o_38') rfl rfl rfl ?_
      refine WL.val (OV.nilCheck rfl) rfl rfl rfl ?_
      refine WL.val (OV.fieldAddr0 rfl tf_field_43_1) rfl rfl rfl ?_
      refine WL.store (vs := [Value.int .i64 (s_1_5' + 1)]) (cs' := [st s_0, Value.int .i64 (s_1_5' + 1), w, Value.int .i64 s_3, Value.int .i64 s_4, st s_5]) 1 rfl rfl rfl rfl tf_size_3 (Nat.le_of_ble_eq_true rfl) rfl rfl rfl ?_
      refine WL.nil ?_
      exact KX.goH (hK_75' (w_20', l_4', s_1_5' + 1) h.1 h.2) ⟨rfl, rfl, rfl, trivial⟩ [0, 1, 2] rfl rfl
    · skip
      refine wc_block ?_
      refine wc_seq (fun K0_95' hK_95' => ?_)
      refine wc_draw 8 [] tf_mixed (by kernel_rfl) rfl (fun T_5' hT_5' => ?_)
      refine FL.val (fun _ => OV.move rfl) rfl (fun _ => rfl) rfl rfl ?_
      refine FL.val (fun _ => OV.nilCheck rfl) rfl (fun _ => rfl) rfl rfl ?_
      refine FL.val (fun _ => OV.fieldAddr0 rfl tf_field_43_0) rfl (fun _ => rfl) rfl rfl ?_
      refine FL.val (fun _ => OV.load rfl (At.own 1 rfl) rfl tf_scal_9) rfl (fun _ => rfl) rfl rfl ?_
      refine FL.val (fun _ => OV.move rfl) rfl (fun _ => rfl) rfl rfl ?_
      refine FL.val (fun _ => OV.nilCheck rfl) rfl (fun _ => rfl) rfl rfl ?_
      refine FL.val (fun _ => OV.fieldAddr0 rfl tf_field_43_1) rfl (fun _ => rfl) rfl rfl ?_
      refine FL.val (fun _ => OV.load rfl (At.own 1 rfl) rfl tf_scal_3) rfl (fun _ => rfl) rfl rfl ?_
      refine FL.weak (L' := fun γ => [(0, Value.pointer (some ⟨b, 0, none⟩)), (3, Value.int .i64 s_1), (4, w_16'), (32, st s_0), (36, Value.int .i64 s_1_4')]) (fun γ => ⟨rfl, rfl, rfl, rfl, rfl, trivial⟩) (FL.nil (hT_5' (fun γ => [(0, Value.pointer (some ⟨b, 0, none⟩)), (3, Value.int .i64 s_1), (4, w_16'), (32, st s_0), (36, Value.int .i64 s_1_4')]) (fun γ => ?_)))
      obtain ⟨o_39', h⟩ := h
      refine WL.val (OV.index rfl rfl tf_str_9 o_39') rfl rfl rfl ?_
      refine WL.val (OV.assign rfl) rfl rfl rfl ?_
      refine WL.nil ?_
      refine KX.go (hK_95' [(0, Value.pointer (some ⟨b, 0, none⟩)), (3, Value.int .i64 s_1), (4, w_16'), (5, Value.int .u8 ((s_0.getD s_1_4'.toNat 0).toNat : Int))] _ ?_) ⟨rfl, rfl, rfl, rfl, trivial⟩
      refine wc_seq (fun K0_96' hK_96' => ?_)
      refine wc_block ?_
      refine wc_seq (fun K0_97' hK_97' => ?_)
      refine wc_region ?_
      refine WL.val (OV.move rfl) rfl rfl rfl ?_
      refine WL.val (OV.eql rfl rfl) rfl rfl rfl ?_
      refine WL.val (OV.assign rfl) rfl rfl rfl ?_
      refine WL.nil ?_
      refine KX.go (hK_97' [(0, Value.pointer (some ⟨b, 0, none⟩)), (3, Value.int .i64 s_1), (4, w_16'), (5, Value.int .u8 ((s_0.getD s_1_4'.toNat 0).toNat : Int)), (38, Value.bool (decide (((s_0.getD s_1_4'.toNat 0).toNat : Int) = 34)))] _ ?_) ⟨rfl, rfl, rfl, rfl, rfl, trivial⟩
      refine wc_cond (b := decide (((s_0.getD s_1_4'.toNat 0).toNat : Int) = 34)) rfl (fun hb => ?_) (fun hb => ?_)
      · replace h := if_T h hb
        refine wc_seq (fun K0_98' hK_98' => ?_)
        refine wc_region ?_
        refine WL.val (OV.move rfl) rfl rfl rfl ?_
        refine WL.val (OV.nilCheck rfl) rfl rfl rfl ?_
        refine WL.val (OV.fieldAddr0 rfl tf_field_43_1) rfl rfl rfl ?_
        refine WL.val (OV.load rfl (At.own 1 rfl) rfl tf_scal_3) rfl rfl rfl ?_
        obtain ⟨o_40', h⟩ := h
        refine WL.val (OV.add rfl rfl o_40') rfl rfl rfl ?_
        refine WL.val (OV.nilCheck rfl) rfl rfl rfl ?_
        refine WL.val (OV.fieldAddr0 rfl tf_field_43_1) rfl rfl rfl ?_
        refine WL.store (vs := [Value.int .i64 (s_1_4' + 1)]) (cs' := [st s_0, Value.int .i64 (s_1_4' + 1), w, Value.int .i64 s_3, Value.int .i64 s_4, st s_5]) 1 rfl rfl rfl rfl tf_size_3 (Nat.le_of_ble_eq_true rfl) rfl rfl rfl ?_
        refine WL.nil ?_
        refine KX.go (hK_98' [(0, Value.pointer (some ⟨b, 0, none⟩)), (3, Value.int .i64 s_1), (4, w_16')] _ ?_) ⟨rfl, rfl, rfl, trivial⟩
        refine wc_seq (fun K0_99' hK_99' => ?_)
        refine wc_region ?_
        refine WL.val (OV.move rfl) rfl rfl rfl ?_
        refine WL.val (OV.move rfl) rfl rfl rfl ?_
        refine WL.val (OV.move rfl) rfl rfl rfl ?_
        refine WL.val (OV.bytesRow (l := l_3') 0 rfl rfl tf_sl_49 Tryd.underlying5 tf_str_9) rfl rfl rfl ?_
        obtain ⟨o_41', h⟩ := h
        refine WL.pick (H' := [HA.blk b (.cells [st s_0, Value.int .i64 (s_1_4' + 1), w, Value.int .i64 s_3, Value.int .i64 s_4, st s_5].toArray 43 (0, 0)), HA.row w 34 3 sl.length (sl.flatMap tokC), HA.row w_16' 5 1 l_3'.length (l_3'.flatMap byteC)]) [1, 2, 0] rfl rfl ?_
        refine WL.callS tf_ent_16 rfl (add_does b s_0 (s_1_4' + 1) w s_3 s_4 s_5 sl 2 s_1 l_3' o_41') rfl trivial rfl rfl (fun r H' hS => ?_) (fun c H' hS => ?_)
        · obtain ⟨w_21', ho⟩ := hS
          cases ho
          refine WL.val (OV.assign rfl) rfl rfl rfl ?_
          refine WL.nil ?_
          refine KX.go (hK_99' [(2, Value.bool true)] _ ?_) ⟨rfl, trivial⟩
          refine wc_ret ?_
          exact hE.ret [0, 1] rfl rfl (.inl ⟨_, _, _, _, _, _, _, _, h, rfl⟩) (ResV.of1 rfl (RV.tmp rfl))
        · obtain ⟨w_21', ho⟩ := hS
          cases ho
      · replace h := if_F h hb
        refine wc_seq (fun K0_100' hK_100' => ?_)
        refine wc_region ?_
        refine WL.val (OV.move rfl) rfl rfl rfl ?_
        refine WL.call (A := []) tf_ent_36 rfl (tokprintable_does ((s_0.getD s_1_4'.toNat 0).toNat : Int)) rfl trivial rfl rfl ?_
        refine WL.val (OV.not rfl) rfl rfl rfl ?_
        refine WL.val (OV.assign rfl) rfl rfl rfl ?_
        refine WL.nil ?_
        refine KX.go (hK_100' [(0, Value.pointer (some ⟨b, 0, none⟩)), (3, Value.int .i64 s_1), (4, w_16'), (5, Value.int .u8 ((s_0.getD s_1_4'.toNat 0).toNat : Int)), (53, Value.bool (!(printB ((s_0.getD s_1_4'.toNat 0).toNat : Int))))] _ ?_) ⟨rfl, rfl, rfl, rfl, rfl, trivial⟩
        refine wc_cond (b := !(printB ((s_0.getD s_1_4'.toNat 0).toNat : Int))) rfl (fun hb => ?_) (fun hb => ?_)
        · replace h := if_T h hb
          refine wc_seq (fun K0_101' hK_101' => ?_)
          refine wc_region ?_
          refine WL.val (OV.move rfl) rfl rfl rfl ?_
          refine WL.val (OV.move rfl) rfl rfl rfl ?_
          refine WL.val (OV.nilCheck rfl) rfl rfl rfl ?_
          refine WL.val (OV.fieldAddr0 rfl tf_field_43_1) rfl rfl rfl ?_
          refine WL.val (OV.load rfl (At.own 1 rfl) rfl tf_scal_3) rfl rfl rfl ?_
          refine WL.pick (H' := [HA.blk b (.cells [st s_0, Value.int .i64 s_1_4', w, Value.int .i64 s_3, Value.int .i64 s_4, st s_5].toArray 43 (0, 0)), HA.row w_16' 5 1 l_3'.length (l_3'.flatMap byteC), HA.row w 34 3 sl.length (sl.flatMap tokC)]) [1, 0, 2] rfl rfl ?_
          refine WL.call tf_ent_25 rfl (fail_does b s_0 s_1_4' w s_3 s_4 s_5 50 s_1_4') rfl trivial rfl rfl ?_
          refine WL.val (OV.assign rfl) rfl rfl rfl ?_
          refine WL.nil ?_
          refine KX.go (hK_101' [(2, Value.bool false)] _ ?_) ⟨rfl, trivial⟩
          refine wc_ret ?_
          exact hE.ret [0, 2] rfl rfl (.inl ⟨_, _, _, _, _, _, _, _, h, rfl⟩) (ResV.of1 rfl (RV.tmp rfl))
        · replace h := if_F h hb
          refine wc_seq (fun K0_102' hK_102' => ?_)
          refine wc_region ?_
          refine WL.val (OV.move rfl) rfl rfl rfl ?_
          refine WL.val (OV.neq rfl rfl) rfl rfl rfl ?_
          refine WL.val (OV.assign rfl) rfl rfl rfl ?_
          refine WL.nil ?_
          refine KX.go (hK_102' [(0, Value.pointer (some ⟨b, 0, none⟩)), (3, Value.int .i64 s_1), (4, w_16'), (5, Value.int .u8 ((s_0.getD s_1_4'.toNat 0).toNat : Int)), (63, Value.bool (!decide (((s_0.getD s_1_4'.toNat 0).toNat : Int) = 92)))] _ ?_) ⟨rfl, rfl, rfl, rfl, rfl, trivial⟩
          refine wc_cond (b := !decide (((s_0.getD s_1_4'.toNat 0).toNat : Int) = 92)) rfl (fun hb => ?_) (fun hb => ?_)
          · replace h := if_T h hb
            refine wc_seq (fun K0_103' hK_103' => ?_)
            refine wc_region ?_
            refine WL.val (OV.move rfl) rfl rfl rfl ?_
            refine WL.val (OV.move rfl) rfl rfl rfl ?_
            refine WL.make (MV.buildSlice (cs := [Value.int .u8 ((s_0.getD s_1_4'.toNat 0).toNat : Int)]) rfl tf_sl_49 (by kernel_rfl)) rfl rfl rfl (fun b_16' => ?_)
            obtain ⟨o_42', h⟩ := h
            refine WL.append (f := byteC) (ms := [(s_0.getD s_1_4'.toNat 0)]) 1 0 rfl rfl rfl rfl rfl rfl byteC_len (by decide) rfl tf_sl_49 tf_info_5 rfl o_42' rfl rfl (fun w_22' => ?_)
            refine WL.val (OV.assign rfl) rfl rfl rfl ?_
            refine WL.nil ?_
            refine KX.go (hK_103' [(0, Value.pointer (some ⟨b, 0, none⟩)), (3, Value.int .i64 s_1), (4, w_22')] _ ?_) ⟨rfl, rfl, rfl, trivial⟩
            refine wc_exit ?_
            exact KX.goH (hK_94' (w_22', l_3' ++ [(s_0.getD s_1_4'.toNat 0)], s_1_4') h) ⟨rfl, rfl, rfl, trivial⟩ [1, 2, 3] rfl rfl
          · replace h := if_F h hb
            refine wc_skip ?_
            refine KX.go (hK_96' [(0, Value.pointer (some ⟨b, 0, none⟩)), (3, Value.int .i64 s_1), (4, w_16')] _ ?_) ⟨rfl, rfl, rfl, trivial⟩
            refine wc_seq (fun K0_104' hK_104' => ?_)
            refine wc_region ?_
            refine WL.val (OV.move rfl) rfl rfl rfl ?_
            obtain ⟨o_43', h⟩ := h
            refine WL.pick (H' := [HA.blk b (.cells [st s_0, Value.int .i64 s_1_4', w, Value.int .i64 s_3, Value.int .i64 s_4, st s_5].toArray 43 (0, 0)), HA.row w_16' 5 1 l_3'.length (l_3'.flatMap byteC), HA.row w 34 3 sl.length (sl.flatMap tokC)]) [1, 0, 2] rfl rfl ?_
            refine WL.callS tf_ent_37 rfl (escape_does b s_0 s_1_4' w s_3 s_4 s_5 o_43') rfl trivial rfl rfl (fun r H' hS => ?_) (fun c H' hS => ?_)
            · obtain ⟨b_17', ok_5', at0_5', hc, ho⟩ := hS
              cases ho
              replace h := h b_17' ok_5' at0_5' hc
              refine WL.val (OV.move rfl) rfl rfl rfl ?_
              refine WL.val (OV.extract 0 rfl rfl) rfl rfl rfl ?_
              refine WL.val (OV.extract 1 rfl rfl) rfl rfl rfl ?_
              refine WL.val (OV.assign rfl) rfl rfl rfl ?_
              refine WL.val (OV.assign rfl) rfl rfl rfl ?_
              refine WL.nil ?_
              refine KX.go (hK_104' [(0, Value.pointer (some ⟨b, 0, none⟩)), (3, Value.int .i64 s_1), (4, w_16'), (6, Value.int .u8 b_17'), (7, Value.bool ok_5')] _ ?_) ⟨rfl, rfl, rfl, rfl, rfl, trivial⟩
              refine wc_seq (fun K0_105' hK_105' => ?_)
              refine wc_seq (fun K0_106' hK_106' => ?_)
              refine wc_region ?_
              refine WL.val (OV.move rfl) rfl rfl rfl ?_
              refine WL.call (A := []) tf_ent_14 rfl (ended_does b s_0 at0_5' w s_3 s_4 s_5) rfl ⟨.inl ⟨0, rfl⟩, trivial⟩ rfl rfl ?_
              refine WL.nil ?_
              refine KX.go (hK_106' [(0, Value.pointer (some ⟨b, 0, none⟩)), (3, Value.int .i64 s_1), (4, w_16'), (6, Value.int .u8 b_17'), (7, Value.bool ok_5'), (76, Value.bool (decide (s_0.length ≤ at0_5')))] _ ?_) ⟨rfl, rfl, rfl, rfl, rfl, rfl, trivial⟩
              refine wc_cond (b := decide (s_0.length ≤ at0_5')) rfl (fun hb => ?_) (fun hb => ?_)
              · replace h := if_T h hb
                refine wc_seq (fun K0_107' hK_107' => ?_)
                refine wc_region ?_
                refine WL.val (OV.move rfl) rfl rfl rfl ?_
                refine WL.val (OV.move rfl) rfl rfl rfl ?_
                refine WL.call tf_ent_25 rfl (fail_does b s_0 at0_5' w s_3 s_4 s_5 51 s_1) rfl trivial rfl rfl ?_
                refine WL.val (OV.assign rfl) rfl rfl rfl ?_
                refine WL.nil ?_
                refine KX.go (hK_107' [(2, Value.bool false)] _ ?_) ⟨rfl, trivial⟩
                refine wc_ret ?_
                exact hE.ret [0, 2] rfl rfl (.inl ⟨_, _, _, _, _, _, _, _, h, rfl⟩) (ResV.of1 rfl (RV.tmp rfl))
              · replace h := if_F h hb
                refine wc_skip ?_
                refine KX.go (hK_105' [(0, Value.pointer (some ⟨b, 0, none⟩)), (3, Value.int .i64 s_1), (4, w_16'), (6, Value.int .u8 b_17'), (7, Value.bool ok_5')] _ ?_) ⟨rfl, rfl, rfl, rfl, rfl, trivial⟩
                refine wc_seq (fun K0_108' hK_108' => ?_)
                refine wc_seq (fun K0_109' hK_109' => ?_)
                refine wc_region ?_
                refine WL.val (OV.move rfl) rfl rfl rfl ?_
                refine WL.val (OV.not rfl) rfl rfl rfl ?_
                refine WL.nil ?_
                refine KX.go (hK_109' [(0, Value.pointer (some ⟨b, 0, none⟩)), (3, Value.int .i64 s_1), (4, w_16'), (6, Value.int .u8 b_17'), (81, Value.bool (!ok_5'))] _ ?_) ⟨rfl, rfl, rfl, rfl, rfl, trivial⟩
                refine wc_cond (b := !ok_5') rfl (fun hb => ?_) (fun hb => ?_)
                · replace h := if_T h hb
                  refine wc_seq (fun K0_110' hK_110' => ?_)
                  refine wc_region ?_
                  refine WL.val (OV.move rfl) rfl rfl rfl ?_
                  refine WL.val (OV.move rfl) rfl rfl rfl ?_
                  refine WL.val (OV.nilCheck rfl) rfl rfl rfl ?_
                  refine WL.val (OV.fieldAddr0 rfl tf_field_43_1) rfl rfl rfl ?_
                  refine WL.val (OV.load rfl (At.own 0 rfl) rfl tf_scal_3) rfl rfl rfl ?_
                  refine WL.call tf_ent_25 rfl (fail_does b s_0 at0_5' w s_3 s_4 s_5 50 at0_5') rfl trivial rfl rfl ?_
                  refine WL.val (OV.assign rfl) rfl rfl rfl ?_
                  refine WL.nil ?_
                  refine KX.go (hK_110' [(2, Value.bool false)] _ ?_) ⟨rfl, trivial⟩
                  refine wc_ret ?_
                  exact hE.ret [0, 2] rfl rfl (.inl ⟨_, _, _, _, _, _, _, _, h, rfl⟩) (ResV.of1 rfl (RV.tmp rfl))
                · replace h := if_F h hb
                  refine wc_skip ?_
                  refine KX.go (hK_108' [(0, Value.pointer (some ⟨b, 0, none⟩)), (3, Value.int .i64 s_1), (4, w_16'), (6, Value.int .u8 b_17')] _ ?_) ⟨rfl, rfl, rfl, rfl, trivial⟩
                  refine wc_region ?_
                  refine WL.val (OV.move rfl) rfl rfl rfl ?_
                  refine WL.val (OV.move rfl) rfl rfl rfl ?_
                  refine WL.make (MV.buildSlice (cs := [Value.int .u8 b_17']) rfl tf_sl_49 (by kernel_rfl)) rfl rfl rfl (fun b_18' => ?_)
                  obtain ⟨o_44', h⟩ := h
                  obtain ⟨o_45', h⟩ := h
                  refine WL.append (f := byteC) (ms := [(b_17').toNat.toUInt8]) 2 0 rfl rfl rfl rfl (byte_cell o_44') rfl byteC_len (by decide) rfl tf_sl_49 tf_info_5 rfl o_45' rfl rfl (fun w_23' => ?_)
                  refine WL.val (OV.assign rfl) rfl rfl rfl ?_
                  refine WL.nil ?_
                  exact KX.goH (hK_94' (w_23', l_3' ++ [(b_17').toNat.toUInt8], at0_5') h) ⟨rfl, rfl, rfl, trivial⟩ [2, 1, 3] rfl rfl
            · obtain ⟨b_17', ok_5', at0_5', hc, ho⟩ := hS
              cases ho
  · replace h := if_F h hb
    refine wc_exit ?_
    refine KX.go (hK_3' [(0, Value.pointer (some ⟨b, 0, none⟩)), (3, Value.int .i64 s_1)] _ ?_) ⟨rfl, rfl, trivial⟩
    refine wc_seq (fun K0_111' hK_111' => ?_)
    refine wc_region ?_
    refine WL.val (OV.move rfl) rfl rfl rfl ?_
    refine WL.val (OV.move rfl) rfl rfl rfl ?_
    refine WL.pick (H' := [HA.blk b (.cells [st s_0, Value.int .i64 s_1_4', w, Value.int .i64 s_3, Value.int .i64 s_4, st s_5].toArray 43 (0, 0)), HA.row w_16' 5 1 l_3'.length (l_3'.flatMap byteC), HA.row w 34 3 sl.length (sl.flatMap tokC)]) [1, 0, 2] rfl rfl ?_
    refine WL.call tf_ent_25 rfl (fail_does b s_0 s_1_4' w s_3 s_4 s_5 51 s_1) rfl trivial rfl rfl ?_
    refine WL.val (OV.assign rfl) rfl rfl rfl ?_
    refine WL.nil ?_
    refine KX.go (hK_111' [(2, Value.bool false)] _ ?_) ⟨rfl, trivial⟩
    refine wc_ret ?_
    exact hE.ret [0, 2] rfl rfl (.inl ⟨_, _, _, _, _, _, _, _, h, rfl⟩) (ResV.of1 rfl (RV.tmp rfl))

def regex_vc (s_0 : List UInt8) (s_1 : Int) (s_3 : Int) (s_4 : Int) (s_5 : List UInt8) (sl : List Tok) (K : Bool → (List UInt8) → Int → Int → Int → (List UInt8) → (List Tok) → Prop) : Prop :=
  (I64 (s_1 + 1)) ∧
  ∃ (Inv : Int → Prop) (mu : Int → Nat),
    Inv (s_1 + 1) ∧ ∀ (s_1_4' : Int), Inv s_1_4' →
      (if (!(decide (s_0.length ≤ s_1_4'))) = true then
        (0 ≤ s_1_4' ∧ s_1_4' < s_0.length) ∧
        ∃ (J0_2' : Int → Int → Prop),
          (∀ (c_2' : Int) (s_1_5' : Int), J0_2' c_2' s_1_5' →
            (if (!(printB c_2')) = true then
              K false s_0 s_1_5' 50 s_1_5' [] sl
            else
              (if (decide (c_2' = 47)) = true then
                (I64 (s_1_5' + 1)) ∧
                (I64 (s_1 + 1)) ∧
                (I64 ((s_1_5' + 1) - 1)) ∧
                (0 ≤ (s_1 + 1) ∧ (s_1 + 1) ≤ ((s_1_5' + 1) - 1) ∧ ((s_1_5' + 1) - 1) ≤ s_0.length) ∧
                (sl.length ≤ 4096) ∧
                (
                  K true s_0 (s_1_5' + 1) s_3 s_4 s_5 (sl ++ [((3 : Int), s_1, (s_0.drop (s_1 + 1).toNat).take (((s_1_5' + 1) - 1).toNat - (s_1 + 1).toNat))]))
              else
                (I64 (s_1_5' + 1)) ∧
                Inv (s_1_5' + 1) ∧ mu (s_1_5' + 1) < mu s_1_4'))) ∧
          ((decide (((s_0.getD s_1_4'.toNat 0).toNat : Int) = 92)) = true → (I64 (s_1_4' + 1))) ∧
          (if ((decide (((s_0.getD s_1_4'.toNat 0).toNat : Int) = 92)) && (decide (s_1_4' + 1 < (s_0.length : Int)))) = true then
            (I64 (s_1_4' + 1)) ∧
            (0 ≤ (s_1_4' + 1) ∧ (s_1_4' + 1) < s_0.length) ∧
            (if (!(printB ((s_0.getD (s_1_4' + 1).toNat 0).toNat : Int))) = true then
              K false s_0 (s_1_4' + 1) 50 (s_1_4' + 1) [] sl
            else
              J0_2' 32 (s_1_4' + 1))
          else
            J0_2' ((s_0.getD s_1_4'.toNat 0).toNat : Int) s_1_4')
      else
        K false s_0 s_1_4' 52 s_1 [] sl)
set_option maxRecDepth 100000 in
theorem regex_wp (b : Nat) (w : Value) (s_0 : List UInt8) (s_1 : Int) (s_3 : Int) (s_4 : Int) (s_5 : List UInt8) (sl : List Tok) (K : Bool → (List UInt8) → Int → Int → Int → (List UInt8) → (List Tok) → Prop) (h : regex_vc s_0 s_1 s_3 s_4 s_5 sl K) :
    Does Tryd.prog 27 [Value.pointer (some ⟨b, 0, none⟩)] [] [HA.blk b (.cells [st s_0, Value.int .i64 s_1, w, Value.int .i64 s_3, Value.int .i64 s_4, st s_5].toArray 43 (0, 0)), HA.row w 34 3 sl.length (sl.flatMap tokC)] (fun o => (∃ (v : Bool) (d_1' : List UInt8) (d_2' : Int) (d_3' : Int) (d_4' : Int) (d_5' : List UInt8) (w_4' : Value) (d : List Tok), K v d_1' d_2' d_3' d_4' d_5' d ∧ o = .ret (Value.bool v) [HA.blk b (.cells [st d_1', Value.int .i64 d_2', w_4', Value.int .i64 d_3', Value.int .i64 d_4', st d_5'].toArray 43 (0, 0)), HA.row w_4' 34 3 d.length (d.flatMap tokC)]) ∨ (False)) := by
  unfold regex_vc at h
  refine does_of_wc (n := 112) (L0 := [(0, Value.pointer (some ⟨b, 0, none⟩))]) Tryd.func27 rfl rfl rfl rfl (fun w0 M Q hE => ?_)
  refine wc_seq (fun K0 hK => ?_)
  refine wc_region ?_
  refine WL.val (OV.assign rfl) rfl rfl rfl ?_
  refine WL.nil ?_
  refine KX.go (hK [(0, Value.pointer (some ⟨b, 0, none⟩))] _ ?_) ⟨rfl, trivial⟩
  refine wc_seq (fun K0_1' hK_1' => ?_)
  refine wc_region ?_
  refine WL.val (OV.move rfl) rfl rfl rfl ?_
  refine WL.val (OV.nilCheck rfl) rfl rfl rfl ?_
  refine WL.val (OV.fieldAddr0 rfl tf_field_43_1) rfl rfl rfl ?_
  refine WL.val (OV.load rfl (At.own 0 rfl) rfl tf_scal_3) rfl rfl rfl ?_
  refine WL.val (OV.assign rfl) rfl rfl rfl ?_
  refine WL.nil ?_
  refine KX.go (hK_1' [(0, Value.pointer (some ⟨b, 0, none⟩)), (3, Value.int .i64 s_1)] _ ?_) ⟨rfl, rfl, trivial⟩
  refine wc_seq (fun K0_2' hK_2' => ?_)
  refine wc_seq (fun K0_3' hK_3' => ?_)
  refine wc_region ?_
  refine WL.val (OV.move rfl) rfl rfl rfl ?_
  refine WL.val (OV.nilCheck rfl) rfl rfl rfl ?_
  refine WL.val (OV.fieldAddr0 rfl tf_field_43_1) rfl rfl rfl ?_
  refine WL.val (OV.load rfl (At.own 0 rfl) rfl tf_scal_3) rfl rfl rfl ?_
  obtain ⟨o, h⟩ := h
  refine WL.val (OV.add rfl rfl o) rfl rfl rfl ?_
  refine WL.val (OV.nilCheck rfl) rfl rfl rfl ?_
  refine WL.val (OV.fieldAddr0 rfl tf_field_43_1) rfl rfl rfl ?_
  refine WL.store (vs := [Value.int .i64 (s_1 + 1)]) (cs' := [st s_0, Value.int .i64 (s_1 + 1), w, Value.int .i64 s_3, Value.int .i64 s_4, st s_5]) 0 rfl rfl rfl rfl tf_size_3 (Nat.le_of_ble_eq_true rfl) rfl rfl rfl ?_
  refine WL.nil ?_
  refine KX.go (hK_3' [(0, Value.pointer (some ⟨b, 0, none⟩)), (3, Value.int .i64 s_1)] _ ?_) ⟨rfl, rfl, trivial⟩
  refine wc_block ?_
  obtain ⟨Inv, mu, h0, hr⟩ := h
  refine wc_loop (S := Int) (fun σ => Inv σ) (fun σ => mu σ) (fun σ => [(0, Value.pointer (some ⟨b, 0, none⟩)), (3, Value.int .i64 s_1)]) (fun σ => [HA.blk b (.cells [st s_0, Value.int .i64 σ, w, Value.int .i64 s_3, Value.int .i64 s_4, st s_5].toArray 43 (0, 0)), HA.row w 34 3 sl.length (sl.flatMap tokC)]) (s_1 + 1) h0 ⟨rfl, rfl, trivial⟩ rfl ?_
  rintro s_1_4' hi K0_48' hK_48'
  have h := hr s_1_4' hi
  show WC _ _ _ _ [(0, Value.pointer (some ⟨b, 0, none⟩)), (3, Value.int .i64 s_1)] [HA.blk b (.cells [st s_0, Value.int .i64 s_1_4', w, Value.int .i64 s_3, Value.int .i64 s_4, st s_5].toArray 43 (0, 0)), HA.row w 34 3 sl.length (sl.flatMap tokC)]
  refine wc_seq (fun K0_49' hK_49' => ?_)
  refine wc_seq (fun K0_50' hK_50' => ?_)
  refine wc_region ?_
  refine WL.val (OV.move rfl) rfl rfl rfl ?_
  refine WL.call (A := []) tf_ent_14 rfl (ended_does b s_0 s_1_4' w s_3 s_4 s_5) rfl ⟨.inl ⟨0, rfl⟩, trivial⟩ rfl rfl ?_
  refine WL.val (OV.not rfl) rfl rfl rfl ?_
  refine WL.nil ?_
  refine KX.go (hK_50' [(0, Value.pointer (some ⟨b, 0, none⟩)), (3, Value.int .i64 s_1), (18, Value.bool (!(decide (s_0.length ≤ s_1_4'))))] _ ?_) ⟨rfl, rfl, rfl, trivial⟩
  refine wc_cond (b := !(decide (s_0.length ≤ s_1_4'))) rfl (fun hb => ?_) (fun hb => ?_)
  · replace h := if_T h hb
    refine wc_skip ?_
    refine KX.go (hK_49' [(0, Value.pointer (some ⟨b, 0, none⟩)), (3, Value.int .i64 s_1)] _ ?_) ⟨rfl, rfl, trivial⟩
    refine wc_seq (fun K0_51' hK_51' => ?_)
    refine wc_block ?_
    refine wc_seq (fun K0_52' hK_52' => ?_)
    refine wc_draw 8 [] tf_mixed (by kernel_rfl) rfl (fun T_12' hT_12' => ?_)
    refine FL.val (fun _ => OV.move rfl) rfl (fun _ => rfl) rfl rfl ?_
    refine FL.val (fun _ => OV.nilCheck rfl) rfl (fun _ => rfl) rfl rfl ?_
    refine FL.val (fun _ => OV.fieldAddr0 rfl tf_field_43_0) rfl (fun _ => rfl) rfl rfl ?_
    refine FL.val (fun _ => OV.load rfl (At.own 0 rfl) rfl tf_scal_9) rfl (fun _ => rfl) rfl rfl ?_
    refine FL.val (fun _ => OV.move rfl) rfl (fun _ => rfl) rfl rfl ?_
    refine FL.val (fun _ => OV.nilCheck rfl) rfl (fun _ => rfl) rfl rfl ?_
    refine FL.val (fun _ => OV.fieldAddr0 rfl tf_field_43_1) rfl (fun _ => rfl) rfl rfl ?_
    refine FL.val (fun _ => OV.load rfl (At.own 0 rfl) rfl tf_scal_3) rfl (fun _ => rfl) rfl rfl ?_
    refine FL.weak (L' := fun γ => [(0, Value.pointer (some ⟨b, 0, none⟩)), (3, Value.int .i64 s_1), (29, st s_0), (33, Value.int .i64 s_1_4')]) (fun γ => ⟨rfl, rfl, rfl, rfl, trivial⟩) (FL.nil (hT_12' (fun γ => [(0, Value.pointer (some ⟨b, 0, none⟩)), (3, Value.int .i64 s_1), (29, st s_0), (33, Value.int .i64 s_1_4')]) (fun γ => ?_)))
    obtain ⟨o_31', h⟩ := h
    refine WL.val (OV.index rfl rfl tf_str_9 o_31') rfl rfl rfl ?_
    refine WL.val (OV.assign rfl) rfl rfl rfl ?_
    refine WL.nil ?_
    refine KX.go (hK_52' [(0, Value.pointer (some ⟨b, 0, none⟩)), (3, Value.int .i64 s_1), (4, Value.int .u8 ((s_0.getD s_1_4'.toNat 0).toNat : Int))] _ ?_) ⟨rfl, rfl, rfl, trivial⟩
    obtain ⟨J0_2', hJ_2', h⟩ := h
    refine wc_seqJ (X := Int × Int) (fun σ => J0_2' σ.1 σ.2) (fun σ => [(0, Value.pointer (some ⟨b, 0, none⟩)), (3, Value.int .i64 s_1), (4, Value.int .u8 σ.1)]) (fun σ => [HA.blk b (.cells [st s_0, Value.int .i64 σ.2, w, Value.int .i64 s_3, Value.int .i64 s_4, st s_5].toArray 43 (0, 0)), HA.row w 34 3 sl.length (sl.flatMap tokC)]) ?_ (fun K0_59' hK_59' => ?_)
    · rintro ⟨c_2', s_1_5'⟩ hj
      replace h := hJ_2' c_2' s_1_5' hj
      show WC _ _ _ _ [(0, Value.pointer (some ⟨b, 0, none⟩)), (3, Value.int .i64 s_1), (4, Value.int .u8 c_2')] [HA.blk b (.cells [st s_0, Value.int .i64 s_1_5', w, Value.int .i64 s_3, Value.int .i64 s_4, st s_5].toArray 43 (0, 0)), HA.row w 34 3 sl.length (sl.flatMap tokC)]
      refine wc_block ?_
      refine wc_seq (fun K0_60' hK_60' => ?_)
      refine wc_region ?_
      refine WL.val (OV.move rfl) rfl rfl rfl ?_
      refine WL.call (A := []) tf_ent_36 rfl (tokprintable_does c_2') rfl trivial rfl rfl ?_
      refine WL.val (OV.not rfl) rfl rfl rfl ?_
      refine WL.val (OV.assign rfl) rfl rfl rfl ?_
      refine WL.nil ?_
      refine KX.go (hK_60' [(0, Value.pointer (some ⟨b, 0, none⟩)), (3, Value.int .i64 s_1), (4, Value.int .u8 c_2'), (74, Value.bool (!(printB c_2')))] _ ?_) ⟨rfl, rfl, rfl, rfl, trivial⟩
      refine wc_cond (b := !(printB c_2')) rfl (fun hb => ?_) (fun hb => ?_)
      · replace h := if_T h hb
        refine wc_seq (fun K0_61' hK_61' => ?_)
        refine wc_region ?_
        refine WL.val (OV.move rfl) rfl rfl rfl ?_
        refine WL.val (OV.move rfl) rfl rfl rfl ?_
        refine WL.val (OV.nilCheck rfl) rfl rfl rfl ?_
        refine WL.val (OV.fieldAddr0 rfl tf_field_43_1) rfl rfl rfl ?_
        refine WL.val (OV.load rfl (At.own 0 rfl) rfl tf_scal_3) rfl rfl rfl ?_
        refine WL.call tf_ent_25 rfl (fail_does b s_0 s_1_5' w s_3 s_4 s_5 50 s_1_5') rfl trivial rfl rfl ?_
        refine WL.val (OV.assign rfl) rfl rfl rfl ?_
        refine WL.nil ?_
        refine KX.go (hK_61' [(2, Value.bool false)] _ ?_) ⟨rfl, trivial⟩
        refine wc_ret ?_
        exact hE.ret [0, 1] rfl rfl (.inl ⟨_, _, _, _, _, _, _, _, h, rfl⟩) (ResV.of1 rfl (RV.tmp rfl))
      · replace h := if_F h hb
        refine wc_seq (fun K0_62' hK_62' => ?_)
        refine wc_region ?_
        refine WL.val (OV.move rfl) rfl rfl rfl ?_
        refine WL.val (OV.eql rfl rfl) rfl rfl rfl ?_
        refine WL.val (OV.assign rfl) rfl rfl rfl ?_
        refine WL.nil ?_
        refine KX.go (hK_62' [(0, Value.pointer (some ⟨b, 0, none⟩)), (3, Value.int .i64 s_1), (84, Value.bool (decide (c_2' = 47)))] _ ?_) ⟨rfl, rfl, rfl, trivial⟩
        refine wc_cond (b := decide (c_2' = 47)) rfl (fun hb => ?_) (fun hb => ?_)
        · replace h := if_T h hb
          refine wc_seq (fun K0_63' hK_63' => ?_)
          refine wc_region ?_
          refine WL.val (OV.move rfl) rfl rfl rfl ?_
          refine WL.val (OV.nilCheck rfl) rfl rfl rfl ?_
          refine WL.val (OV.fieldAddr0 rfl tf_field_43_1) rfl rfl rfl ?_
          refine WL.val (OV.load rfl (At.own 0 rfl) rfl tf_scal_3) rfl rfl rfl ?_
          obtain ⟨o_36', h⟩ := h
          refine WL.val (OV.add rfl rfl o_36') rfl rfl rfl ?_
          refine WL.val (OV.nilCheck rfl) rfl rfl rfl ?_
          refine WL.val (OV.fieldAddr0 rfl tf_field_43_1) rfl rfl rfl ?_
          refine WL.store (vs := [Value.int .i64 (s_1_5' + 1)]) (cs' := [st s_0, Value.int .i64 (s_1_5' + 1), w, Value.int .i64 s_3, Value.int .i64 s_4, st s_5]) 0 rfl rfl rfl rfl tf_size_3 (Nat.le_of_ble_eq_true rfl) rfl rfl rfl ?_
          refine WL.nil ?_
          refine KX.go (hK_63' [(0, Value.pointer (some ⟨b, 0, none⟩)), (3, Value.int .i64 s_1)] _ ?_) ⟨rfl, rfl, trivial⟩
          refine wc_seq (fun K0_64' hK_64' => ?_)
          refine wc_draw 14 [] tf_mixed (by kernel_rfl) rfl (fun T_15' hT_15' => ?_)
          refine FL.val (fun _ => OV.move rfl) rfl (fun _ => rfl) rfl rfl ?_
          refine FL.val (fun _ => OV.move rfl) rfl (fun _ => rfl) rfl rfl ?_
          refine FL.val (fun _ => OV.move rfl) rfl (fun _ => rfl) rfl rfl ?_
          refine FL.val (fun _ => OV.nilCheck rfl) rfl (fun _ => rfl) rfl rfl ?_
          refine FL.val (fun _ => OV.fieldAddr0 rfl tf_field_43_0) rfl (fun _ => rfl) rfl rfl ?_
          refine FL.val (fun _ => OV.load rfl (At.own 0 rfl) rfl tf_scal_9) rfl (fun _ => rfl) rfl rfl ?_
          refine FL.val (fun _ => OV.move rfl) rfl (fun _ => rfl) rfl rfl ?_
          obtain ⟨o_37', h⟩ := h
          refine FL.val (fun _ => OV.add rfl rfl o_37') rfl (fun _ => rfl) rfl rfl ?_
          refine FL.val (fun _ => OV.move rfl) rfl (fun _ => rfl) rfl rfl ?_
          refine FL.val (fun _ => OV.nilCheck rfl) rfl (fun _ => rfl) rfl rfl ?_
          refine FL.val (fun _ => OV.fieldAddr0 rfl tf_field_43_1) rfl (fun _ => rfl) rfl rfl ?_
          refine FL.val (fun _ => OV.load rfl (At.own 0 rfl) rfl tf_scal_3) rfl (fun _ => rfl) rfl rfl ?_
          obtain ⟨o_38', h⟩ := h
          refine FL.val (fun _ => OV.sub rfl rfl o_38') rfl (fun _ => rfl) rfl rfl ?_
          obtain ⟨o_39', h⟩ := h
          refine FL.val (fun _ => OV.sliceS rfl rfl rfl tf_str_9 o_39') rfl (fun _ => rfl) rfl rfl ?_
          refine FL.weak (L' := fun γ => [(94, Value.pointer (some ⟨b, 0, none⟩)), (95, Value.int .i64 s_1), (107, st ((s_0.drop (s_1 + 1).toNat).take (((s_1_5' + 1) - 1).toNat - (s_1 + 1).toNat)))]) (fun γ => ⟨rfl, rfl, rfl, trivial⟩) (FL.nil (hT_15' (fun γ => [(94, Value.pointer (some ⟨b, 0, none⟩)), (95, Value.int .i64 s_1), (107, st ((s_0.drop (s_1 + 1).toNat).take (((s_1_5' + 1) - 1).toNat - (s_1 + 1).toNat)))]) (fun γ => ?_)))
          obtain ⟨o_40', h⟩ := h
          refine WL.callS tf_ent_16 rfl (add_does b s_0 (s_1_5' + 1) w s_3 s_4 s_5 sl 3 s_1 ((s_0.drop (s_1 + 1).toNat).take (((s_1_5' + 1) - 1).toNat - (s_1 + 1).toNat)) o_40') rfl trivial rfl rfl (fun r H' hS => ?_) (fun c H' hS => ?_)
          · obtain ⟨w_3', ho⟩ := hS
            cases ho
            refine WL.val (OV.assign rfl) rfl rfl rfl ?_
            refine WL.nil ?_
            refine KX.go (hK_64' [(2, Value.bool true)] _ ?_) ⟨rfl, trivial⟩
            refine wc_ret ?_
            exact hE.ret [0, 1] rfl rfl (.inl ⟨_, _, _, _, _, _, _, _, h, rfl⟩) (ResV.of1 rfl (RV.tmp rfl))
          · obtain ⟨w_3', ho⟩ := hS
            cases ho
        · replace h := if_F h hb
          refine wc_skip ?_
          refine KX.go (hK_51' [(0, Value.pointer (some ⟨b, 0, none⟩)), (3, Value.int .i64 s_1)] _ ?_) ⟨rfl, rfl, trivial⟩
          refine wc_region ?_
          refine WL.val (OV.move rfl) rfl rfl rfl ?_
          refine WL.val (OV.nilCheck rfl) rfl rfl rfl ?_
          refine WL.val (OV.fieldAddr0 rfl tf_field_43_1) rfl rfl rfl ?_
          refine WL.val (OV.load rfl (At.own 0 rfl) rfl tf_scal_3) rfl rfl rfl ?_
          obtain ⟨o_41', h⟩ := h
          refine WL.val (OV.add rfl rfl o_41') rfl rfl rfl ?_
          refine WL.val (OV.nilCheck rfl) rfl rfl rfl ?_
          refine WL.val (OV.fieldAddr0 rfl tf_field_43_1) rfl rfl rfl ?_
          refine WL.store (vs := [Value.int .i64 (s_1_5' + 1)]) (cs' := [st s_0, Value.int .i64 (s_1_5' + 1), w, Value.int .i64 s_3, Value.int .i64 s_4, st s_5]) 0 rfl rfl rfl rfl tf_size_3 (Nat.le_of_ble_eq_true rfl) rfl rfl rfl ?_
          refine WL.nil ?_
          exact KX.goH (hK_48' (s_1_5' + 1) h.1 h.2) ⟨rfl, rfl, trivial⟩ [0, 1] rfl rfl
    · skip
      refine wc_seq (fun K0_65' hK_65' => ?_)
      refine wc_draw_all [] tf_mixed (by kernel_rfl) rfl (fun T_16' hT_16' => ?_)
      refine FL.val (fun _ => OV.move rfl) rfl (fun _ => rfl) rfl rfl ?_
      refine FL.val (fun _ => OV.eql rfl rfl) rfl (fun _ => rfl) rfl rfl ?_
      refine FL.val (fun _ => OV.move rfl) rfl (fun _ => rfl) rfl rfl ?_
      obtain ⟨o_43', h⟩ := h
      refine FL.cut 12 rfl (fun _ => [(0, Value.pointer (some ⟨b, 0, none⟩)), (3, Value.int .i64 s_1), (4, Value.int .u8 ((s_0.getD s_1_4'.toNat 0).toNat : Int)), (49, Value.bool ((decide (((s_0.getD s_1_4'.toNat 0).toNat : Int) = 92)) && (decide (s_1_4' + 1 < (s_0.length : Int)))))]) ?_ (fun K0_66' hK_66' => ?_)
      rotate_left
      · refine FL.split (decide (((s_0.getD s_1_4'.toNat 0).toNat : Int) = 92)) (fun hb => ?_) (fun hb => ?_)
        · have o_42' := o_43' hb
          refine FL.set 37 (fun _ => rfl) (congrArg Value.bool hb) ?_
          refine FL.val (fun _ => OV.move rfl) rfl (fun _ => rfl) rfl rfl ?_
          refine FL.val (fun _ => OV.nilCheck rfl) rfl (fun _ => rfl) rfl rfl ?_
          refine FL.val (fun _ => OV.fieldAddr0 rfl tf_field_43_1) rfl (fun _ => rfl) rfl rfl ?_
          refine FL.val (fun _ => OV.load rfl (At.own 0 rfl) rfl tf_scal_3) rfl (fun _ => rfl) rfl rfl ?_
          refine FL.val (fun _ => OV.add rfl rfl o_42') rfl (fun _ => rfl) rfl rfl ?_
          refine FL.val (fun _ => OV.move rfl) rfl (fun _ => rfl) rfl rfl ?_
          refine FL.val (fun _ => OV.nilCheck rfl) rfl (fun _ => rfl) rfl rfl ?_
          refine FL.val (fun _ => OV.fieldAddr0 rfl tf_field_43_0) rfl (fun _ => rfl) rfl rfl ?_
          refine FL.val (fun _ => OV.load rfl (At.own 0 rfl) rfl tf_scal_9) rfl (fun _ => rfl) rfl rfl ?_
          refine FL.val (fun _ => OV.len rfl tf_str_9) rfl (fun _ => rfl) rfl rfl ?_
          refine FL.val (fun _ => OV.lss rfl rfl) rfl (fun _ => rfl) rfl rfl ?_
          refine FL.val (fun _ => OV.pickT rfl rfl) rfl (fun _ => rfl) rfl rfl ?_
          refine FL.set 49 (fun _ => rfl) (bT (v := decide (s_1_4' + 1 < (s_0.length : Int))) hb) ?_
          exact FL.weak (L' := fun _ => [(0, Value.pointer (some ⟨b, 0, none⟩)), (3, Value.int .i64 s_1), (4, Value.int .u8 ((s_0.getD s_1_4'.toNat 0).toNat : Int)), (49, Value.bool ((decide (((s_0.getD s_1_4'.toNat 0).toNat : Int) = 92)) && (decide (s_1_4' + 1 < (s_0.length : Int)))))]) (fun _ => ⟨rfl, rfl, rfl, rfl, trivial⟩) (FL.nil hK_66')
        · refine FL.set 37 (fun _ => rfl) (congrArg Value.bool hb) ?_
          refine FL.skip rfl (fun _ => rfl) rfl rfl ?_
          refine FL.skip rfl (fun _ => rfl) rfl rfl ?_
          refine FL.skip rfl (fun _ => rfl) rfl rfl ?_
          refine FL.skip rfl (fun _ => rfl) rfl rfl ?_
          refine FL.skip rfl (fun _ => rfl) rfl rfl ?_
          refine FL.skip rfl (fun _ => rfl) rfl rfl ?_
          refine FL.skip rfl (fun _ => rfl) rfl rfl ?_
          refine FL.skip rfl (fun _ => rfl) rfl rfl ?_
          refine FL.skip rfl (fun _ => rfl) rfl rfl ?_
          refine FL.skip rfl (fun _ => rfl) rfl rfl ?_
          refine FL.skip rfl (fun _ => rfl) rfl rfl ?_
          refine FL.val (fun _ => OV.pickF rfl rfl) rfl (fun _ => rfl) rfl rfl ?_
          refine FL.set 49 (fun _ => rfl) (bF (v := decide (s_1_4' + 1 < (s_0.length : Int))) hb) ?_
          exact FL.weak (L' := fun _ => [(0, Value.pointer (some ⟨b, 0, none⟩)), (3, Value.int .i64 s_1), (4, Value.int .u8 ((s_0.getD s_1_4'.toNat 0).toNat : Int)), (49, Value.bool ((decide (((s_0.getD s_1_4'.toNat 0).toNat : Int) = 92)) && (decide (s_1_4' + 1 < (s_0.length : Int)))))]) (fun _ => ⟨rfl, rfl, rfl, rfl, trivial⟩) (FL.nil hK_66')
      refine FL.weak (L' := fun _ => [(0, Value.pointer (some ⟨b, 0, none⟩)), (3, Value.int .i64 s_1), (4, Value.int .u8 ((s_0.getD s_1_4'.toNat 0).toNat : Int)), (49, Value.bool ((decide (((s_0.getD s_1_4'.toNat 0).toNat : Int) = 92)) && (decide (s_1_4' + 1 < (s_0.length : Int)))))]) (fun _ => ⟨rfl, rfl, rfl, rfl, trivial⟩) (FL.nil (hT_16' (fun _ => [(0, Value.pointer (some ⟨b, 0, none⟩)), (3, Value.int .i64 s_1), (4, Value.int .u8 ((s_0.getD s_1_4'.toNat 0).toNat : Int)), (49, Value.bool ((decide (((s_0.getD s_1_4'.toNat 0).toNat : Int) = 92)) && (decide (s_1_4' + 1 < (s_0.length : Int)))))]) (fun _ => ?_)))
      refine KX.go (hK_65' [(0, Value.pointer (some ⟨b, 0, none⟩)), (3, Value.int .i64 s_1), (4, Value.int .u8 ((s_0.getD s_1_4'.toNat 0).toNat : Int)), (49, Value.bool ((decide (((s_0.getD s_1_4'.toNat 0).toNat : Int) = 92)) && (decide (s_1_4' + 1 < (s_0.length : Int)))))] _ ?_) ⟨rfl, rfl, rfl, rfl, trivial⟩
      refine wc_cond (b := (decide (((s_0.getD s_1_4'.toNat 0).toNat : Int) = 92)) && (decide (s_1_4' + 1 < (s_0.length : Int)))) rfl (fun hb => ?_) (fun hb => ?_)
      · replace h := if_T h hb
        refine wc_seq (fun K0_67' hK_67' => ?_)
        refine wc_region ?_
        refine WL.val (OV.move rfl) rfl rfl rfl ?_
        refine WL.val (OV.nilCheck rfl) rfl rfl rfl ?_
        refine WL.val (OV.fieldAddr0 rfl tf_field_43_1) rfl rfl rfl ?_
        refine WL.val (OV.load rfl (At.own 0 rfl) rfl tf_scal_3) rfl rfl rfl ?_
        obtain ⟨o_44', h⟩ := h
        refine WL.val (OV.add rfl rfl o_44') rfl rfl rfl ?_
        refine WL.val (OV.nilCheck rfl) rfl rfl rfl ?_
        refine WL.val (OV.fieldAddr0 rfl tf_field_43_1) rfl rfl rfl ?_
        refine WL.store (vs := [Value.int .i64 (s_1_4' + 1)]) (cs' := [st s_0, Value.int .i64 (s_1_4' + 1), w, Value.int .i64 s_3, Value.int .i64 s_4, st s_5]) 0 rfl rfl rfl rfl tf_size_3 (Nat.le_of_ble_eq_true rfl) rfl rfl rfl ?_
        refine WL.nil ?_
        refine KX.go (hK_67' [(0, Value.pointer (some ⟨b, 0, none⟩)), (3, Value.int .i64 s_1)] _ ?_) ⟨rfl, rfl, trivial⟩
        refine wc_seq (fun K0_68' hK_68' => ?_)
        refine wc_region ?_
        refine WL.val (OV.assign rfl) rfl rfl rfl ?_
        refine WL.nil ?_
        refine KX.go (hK_68' [(0, Value.pointer (some ⟨b, 0, none⟩)), (3, Value.int .i64 s_1), (4, Value.int .u8 32)] _ ?_) ⟨rfl, rfl, rfl, trivial⟩
        refine wc_seq (fun K0_69' hK_69' => ?_)
        refine wc_draw 8 [] tf_mixed (by kernel_rfl) rfl (fun T_17' hT_17' => ?_)
        refine FL.val (fun _ => OV.move rfl) rfl (fun _ => rfl) rfl rfl ?_
        refine FL.val (fun _ => OV.nilCheck rfl) rfl (fun _ => rfl) rfl rfl ?_
        refine FL.val (fun _ => OV.fieldAddr0 rfl tf_field_43_0) rfl (fun _ => rfl) rfl rfl ?_
        refine FL.val (fun _ => OV.load rfl (At.own 0 rfl) rfl tf_scal_9) rfl (fun _ => rfl) rfl rfl ?_
        refine FL.val (fun _ => OV.move rfl) rfl (fun _ => rfl) rfl rfl ?_
        refine FL.val (fun _ => OV.nilCheck rfl) rfl (fun _ => rfl) rfl rfl ?_
        refine FL.val (fun _ => OV.fieldAddr0 rfl tf_field_43_1) rfl (fun _ => rfl) rfl rfl ?_
        refine FL.val (fun _ => OV.load rfl (At.own 0 rfl) rfl tf_scal_3) rfl (fun _ => rfl) rfl rfl ?_
        refine FL.weak (L' := fun γ => [(0, Value.pointer (some ⟨b, 0, none⟩)), (3, Value.int .i64 s_1), (4, Value.int .u8 32), (60, st s_0), (64, Value.int .i64 (s_1_4' + 1))]) (fun γ => ⟨rfl, rfl, rfl, rfl, rfl, trivial⟩) (FL.nil (hT_17' (fun γ => [(0, Value.pointer (some ⟨b, 0, none⟩)), (3, Value.int .i64 s_1), (4, Value.int .u8 32), (60, st s_0), (64, Value.int .i64 (s_1_4' + 1))]) (fun γ => ?_)))
        obtain ⟨o_45', h⟩ := h
        refine WL.val (OV.index rfl rfl tf_str_9 o_45') rfl rfl rfl ?_
        refine WL.call (A := []) tf_ent_36 rfl (tokprintable_does ((s_0.getD (s_1_4' + 1).toNat 0).toNat : Int)) rfl trivial rfl rfl ?_
        refine WL.val (OV.not rfl) rfl rfl rfl ?_
        refine WL.nil ?_
        refine KX.go (hK_69' [(0, Value.pointer (some ⟨b, 0, none⟩)), (3, Value.int .i64 s_1), (4, Value.int .u8 32), (67, Value.bool (!(printB ((s_0.getD (s_1_4' + 1).toNat 0).toNat : Int))))] _ ?_) ⟨rfl, rfl, rfl, rfl, trivial⟩
        refine wc_cond (b := !(printB ((s_0.getD (s_1_4' + 1).toNat 0).toNat : Int))) rfl (fun hb => ?_) (fun hb => ?_)
        · replace h := if_T h hb
          refine wc_seq (fun K0_70' hK_70' => ?_)
          refine wc_region ?_
          refine WL.val (OV.move rfl) rfl rfl rfl ?_
          refine WL.val (OV.move rfl) rfl rfl rfl ?_
          refine WL.val (OV.nilCheck rfl) rfl rfl rfl ?_
          refine WL.val (OV.fieldAddr0 rfl tf_field_43_1) rfl rfl rfl ?_
          refine WL.val (OV.load rfl (At.own 0 rfl) rfl tf_scal_3) rfl rfl rfl ?_
          refine WL.call tf_ent_25 rfl (fail_does b s_0 (s_1_4' + 1) w s_3 s_4 s_5 50 (s_1_4' + 1)) rfl trivial rfl rfl ?_
          refine WL.val (OV.assign rfl) rfl rfl rfl ?_
          refine WL.nil ?_
          refine KX.go (hK_70' [(2, Value.bool false)] _ ?_) ⟨rfl, trivial⟩
          refine wc_ret ?_
          exact hE.ret [0, 1] rfl rfl (.inl ⟨_, _, _, _, _, _, _, _, h, rfl⟩) (ResV.of1 rfl (RV.tmp rfl))
        · replace h := if_F h hb
          refine wc_skip ?_
          exact KX.goH (hK_59' (32, s_1_4' + 1) h) ⟨rfl, rfl, rfl, trivial⟩ [0, 1] rfl rfl
      · replace h := if_F h hb
        refine wc_skip ?_
        exact KX.goH (hK_59' (((s_0.getD s_1_4'.toNat 0).toNat : Int), s_1_4') h) ⟨rfl, rfl, rfl, trivial⟩ [0, 1] rfl rfl
  · replace h := if_F h hb
    refine wc_exit ?_
    refine KX.go (hK_2' [(0, Value.pointer (some ⟨b, 0, none⟩)), (3, Value.int .i64 s_1)] _ ?_) ⟨rfl, rfl, trivial⟩
    refine wc_seq (fun K0_71' hK_71' => ?_)
    refine wc_region ?_
    refine WL.val (OV.move rfl) rfl rfl rfl ?_
    refine WL.val (OV.move rfl) rfl rfl rfl ?_
    refine WL.call tf_ent_25 rfl (fail_does b s_0 s_1_4' w s_3 s_4 s_5 52 s_1) rfl trivial rfl rfl ?_
    refine WL.val (OV.assign rfl) rfl rfl rfl ?_
    refine WL.nil ?_
    refine KX.go (hK_71' [(2, Value.bool false)] _ ?_) ⟨rfl, trivial⟩
    refine wc_ret ?_
    exact hE.ret [0, 1] rfl rfl (.inl ⟨_, _, _, _, _, _, _, _, h, rfl⟩) (ResV.of1 rfl (RV.tmp rfl))

/-- What a function that takes a token leaves in memory. -/
def TookS (b : Nat) (t : List UInt8) (l : List Tok) (fc fa : Int) (ft : List UInt8) (m : Except (Int × Int) (Tok × Int)) : Out → Prop := fun o =>
  ∃ (w' : Value) (ok : Bool) (q : Int) (l' : List Tok) (c x : Int) (y : List UInt8), Took m t l fc fa ft ok q l' c x y ∧ o = .ret (.bool ok) [.blk b (scB t q w' c x y), tokRow w' l']
theorem quoted_does (b : Nat) (t : List UInt8) (a : Int) (w : Value) (fc fa : Int) (ft : List UInt8) (l : List Tok) (h : 0 ≤ a ∧ a < t.length ∧ t.length ≤ 4096 ∧ l.length ≤ 4096) :
    Does Tryd.prog 26 [.pointer (some ⟨b, 0, none⟩)] [] [.blk b (scB t a w fc fa ft), tokRow w l] (TookS b t l fc fa ft (quotedM t a)) := by
  refine (quoted_wp b w t a fc fa ft l (fun ok t' q c x y l' => t' = t ∧ Took (quotedM t a) t l fc fa ft ok q l' c x y) ?_).weak ?_
  · unfold quoted_vc
    have eb : ∀ i : Int, ((t.getD i.toNat 0).toNat : Int) = bt t i := fun _ => rfl
    have eb2 : ∀ i : Int, t.getD i.toNat 0 = (bt t i).toNat.toUInt8 := fun i => by unfold bt; simp
    simp only [eb, true_and]
    refine ⟨⟨by omega, by omega⟩, fun out k => a < k ∧ k ≤ t.length + 1 ∧ out.length ≤ k ∧ ∃ n, (t.length + 1 - k).toNat < n ∧ quotedF t a (t.length + 1) [] (a + 1) = quotedF t a n out k, fun _ k => (t.length + 1 - k).toNat, ⟨by omega, by omega, by simp; omega, t.length + 1, by omega, rfl⟩, ?_⟩
    rintro out k ⟨k0, k1, k2, n, hn, hF⟩
    obtain ⟨n, rfl⟩ : ∃ m, n = m + 1 := ⟨n - 1, by omega⟩
    have hM : ∀ r, quotedF t a (n + 1) out k = r → quotedM t a = (match r with | .ok (x, q) => .ok ((2, a, x), q) | .error e => .error e) := fun r hr => by unfold quotedM; rw [hF, hr]; rfl
    by_cases hk : k < t.length
    · rw [if_pos (by simp; omega)]
      have hr : out.length ≤ 4096 := by omega
      refine ⟨fun out' q => k ≤ q ∧ q < t.length ∧ out'.length ≤ k + 1 ∧ quotedF t a (n + 1) out k = quotedF t a n out' (q + 1), fun out' q hq => ⟨⟨by omega, by omega⟩, ⟨by omega, by omega, by omega, n, by omega, by rw [hF]; exact hq.2.2.2⟩, by show (t.length + 1 - (q + 1)).toNat < (t.length + 1 - k).toNat; omega⟩, ⟨by omega, hk⟩, ?_⟩
      by_cases e1 : bt t k = 34
      · rw [if_pos (by simpa using e1)]
        refine ⟨⟨by omega, by omega⟩, h.2.2.2, ?_⟩
        have := hM (.ok (out, k + 1)) (by rw [quotedF, if_pos hk, if_pos e1])
        rw [this]
        exact ⟨rfl, rfl, rfl, rfl, rfl, rfl⟩
      · rw [if_neg (by simpa using e1)]
        by_cases e2 : printB (bt t k) = true
        · rw [if_neg (by simp [e2])]
          by_cases e3 : bt t k = 92
          · rw [if_neg (by simp [e3])]
            refine ⟨⟨by omega, hk, h.2.2.1⟩, fun c ok q he => ?_⟩
            have hq := escM_q he
            by_cases e4 : (t.length : Int) ≤ q
            · rw [if_pos (by simpa using e4)]
              rw [hM (.error (51, a)) (by rw [quotedF, if_pos hk, if_neg e1, if_neg (by simp [e2]), if_neg (by simp [e3]), he, if_pos e4])]
              exact ⟨rfl, rfl, rfl, rfl, rfl⟩
            · rw [if_neg (by simpa using e4)]
              cases ok
              · rw [hM (.error (50, q)) (by rw [quotedF, if_pos hk, if_neg e1, if_neg (by simp [e2]), if_neg (by simp [e3]), he, if_neg e4, if_pos rfl])]
                exact ⟨rfl, rfl, rfl, rfl, rfl⟩
              · refine ⟨⟨hq.2.2.1, hq.2.2.2.1⟩, ⟨by omega, by omega⟩, by omega, by omega, by simp; omega, ?_⟩
                rw [quotedF, if_pos hk, if_neg e1, if_neg (by simp [e2]), if_neg (by simp [e3]), he, if_neg e4, if_neg (by simp)]
          · rw [if_pos (by simpa using e3)]
            refine ⟨⟨by omega, by omega⟩, by omega, hk, by simp; omega, ?_⟩
            rw [quotedF, if_pos hk, if_neg e1, if_neg (by simp [e2]), if_pos e3, eb2 k]
        · rw [if_pos (by simpa using e2)]
          rw [hM (.error (50, k)) (by rw [quotedF, if_pos hk, if_neg e1, if_pos (by simpa using e2)])]
          exact ⟨rfl, rfl, rfl, rfl, rfl⟩
    · rw [if_neg (by simp; omega)]
      rw [hM (.error (51, a)) (by rw [quotedF, if_neg hk])]
      exact ⟨rfl, rfl, rfl, rfl, rfl⟩
  · rintro o (⟨ok, t', q, c, x, y, w', l', ⟨rfl, hT⟩, rfl⟩ | h)
    · exact ⟨w', ok, q, l', c, x, y, hT, rfl⟩
    · exact h.elim
theorem regex_does (b : Nat) (t : List UInt8) (a : Int) (w : Value) (fc fa : Int) (ft : List UInt8) (l : List Tok) (h : 0 ≤ a ∧ a < t.length ∧ t.length ≤ 4096 ∧ l.length ≤ 4096) :
    Does Tryd.prog 27 [.pointer (some ⟨b, 0, none⟩)] [] [.blk b (scB t a w fc fa ft), tokRow w l] (TookS b t l fc fa ft (regexM t a)) := by
  refine (regex_wp b w t a fc fa ft l (fun ok t' q c x y l' => t' = t ∧ Took (regexM t a) t l fc fa ft ok q l' c x y) ?_).weak ?_
  · unfold regex_vc
    have eb : ∀ i : Int, ((t.getD i.toNat 0).toNat : Int) = bt t i := fun _ => rfl
    simp only [eb, true_and]
    refine ⟨⟨by omega, by omega⟩, fun k => a < k ∧ k ≤ t.length + 1 ∧ ∃ n, (t.length + 1 - k).toNat < n ∧ regexF t a (t.length + 1) (a + 1) = regexF t a n k, fun k => (t.length + 1 - k).toNat, ⟨by omega, by omega, t.length + 1, by omega, rfl⟩, ?_⟩
    rintro k ⟨k0, k1, n, hn, hF⟩
    obtain ⟨n, rfl⟩ : ∃ m, n = m + 1 := ⟨n - 1, by omega⟩
    have hM : ∀ r, regexF t a (n + 1) k = r → regexM t a = (match r with | .ok (x, q) => .ok ((3, a, x), q) | .error e => .error e) := fun r hr => by unfold regexM; rw [hF, hr]; rfl
    by_cases hk : k < t.length
    · rw [if_pos (by simp; omega)]
      refine ⟨⟨by omega, hk⟩, fun c q => k ≤ q ∧ q < t.length ∧ regexF t a (n + 1) k = if printB c = false then .error (50, q) else if c = 47 then .ok (cut t (a + 1) q, q + 1) else regexF t a n (q + 1), fun c q hq => ?_, fun _ => ⟨by omega, by omega⟩, ?_⟩
      · obtain ⟨q0, q1, hR⟩ := hq
        by_cases e1 : printB c = true
        · rw [if_neg (by simp [e1])]
          rw [if_neg (by simp [e1])] at hR
          by_cases e2 : c = 47
          · rw [if_pos (by simpa using e2)]
            rw [if_pos e2] at hR
            refine ⟨⟨by omega, by omega⟩, ⟨by omega, by omega⟩, ⟨by omega, by omega⟩, ⟨by omega, by omega, by omega⟩, h.2.2.2, ?_⟩
            rw [hM _ hR, show q + 1 - 1 = q by omega]
            exact ⟨rfl, rfl, rfl, rfl, rfl, rfl⟩
          · rw [if_neg (by simpa using e2)]
            rw [if_neg e2] at hR
            exact ⟨⟨by omega, by omega⟩, ⟨by omega, by omega, n, by omega, by rw [hF, hR]⟩, by show (t.length + 1 - (q + 1)).toNat < (t.length + 1 - k).toNat; omega⟩
        · rw [if_pos (by simpa using e1)]
          rw [if_pos (by simpa using e1)] at hR
          rw [hM _ hR]
          exact ⟨rfl, rfl, rfl, rfl, rfl⟩
      · by_cases e1 : bt t k = 92 ∧ k + 1 < t.length
        · rw [if_pos (by simpa using e1)]
          refine ⟨⟨by omega, by omega⟩, ⟨by omega, e1.2⟩, ?_⟩
          by_cases e2 : printB (bt t (k + 1)) = true
          · rw [if_neg (by simp [e2])]
            refine ⟨by omega, e1.2, ?_⟩
            rw [regexF, if_pos hk, if_pos e1, if_neg (by simp [e2]), if_neg (by decide), if_neg (by decide), show k + 1 + 1 = k + 2 by omega]
          · rw [if_pos (by simpa using e2)]
            rw [hM (.error (50, k + 1)) (by rw [regexF, if_pos hk, if_pos e1, if_pos (by simpa using e2)])]
            exact ⟨rfl, rfl, rfl, rfl, rfl⟩
        · rw [if_neg (by simpa using e1)]
          refine ⟨Int.le_refl _, hk, ?_⟩
          rw [regexF, if_pos hk, if_neg e1]
    · rw [if_neg (by simp; omega)]
      rw [hM (.error (52, a)) (by rw [regexF, if_neg hk])]
      exact ⟨rfl, rfl, rfl, rfl, rfl⟩
  · rintro o (⟨ok, t', q, c, x, y, w', l', ⟨rfl, hT⟩, rfl⟩ | h)
    · exact ⟨w', ok, q, l', c, x, y, hT, rfl⟩
    · exact h.elim

end Go.Proofs.YtlfolgbaageknaaDoor
