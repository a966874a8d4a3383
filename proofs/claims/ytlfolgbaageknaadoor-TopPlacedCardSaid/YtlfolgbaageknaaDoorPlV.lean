/-
  Lines and columns.
-/
import Derived.Test.YtlfolgbaageknaaDoorChecked
import Derived.Test.YtlfolgbaageknaaDoorTkW
import Derived.Test.YtlfolgbaageknaaDoorPlE
namespace Go.Proofs.YtlfolgbaageknaaDoor
open Go Go.RowKit

theorem tf_ent_17 : entB Tryd.prog 17 = true := by kernel_rfl
theorem tf_ent_18 : entB Tryd.prog 18 = true := by kernel_rfl

def of_vc (text : List UInt8) (at0 : Int) (K : Int → Int → Prop) : Prop :=
  (0 ≤ (min (max at0 0) (text.length : Int)) ∧ (min (max at0 0) (text.length : Int)) ≤ text.length) ∧
  (I64 (1 + (((text.take (min (max at0 0) (text.length : Int)).toNat).count 10 : Nat) : Int))) ∧
  ((text.take (min (max at0 0) (text.length : Int)).toNat).length < 4611686018427387904) ∧
  (I64 (((text.take (min (max at0 0) (text.length : Int)).toNat).length : Int) - (lastL (text.take (min (max at0 0) (text.length : Int)).toNat)))) ∧
  K (1 + (((text.take (min (max at0 0) (text.length : Int)).toNat).count 10 : Nat) : Int)) (((text.take (min (max at0 0) (text.length : Int)).toNat).length : Int) - (lastL (text.take (min (max at0 0) (text.length : Int)).toNat)))
set_option maxRecDepth 100000 in
theorem of_wp  (text : List UInt8) (at0 : Int) (K : Int → Int → Prop) (h : of_vc text at0 K) :
    Does Tryd.prog 6 [st text, Value.int .i64 at0] [] [] (fun o => (∃ (v : Int) (v_1' : Int), K v v_1' ∧ o = .ret (Value.tuple #[Value.int .i64 v, Value.int .i64 v_1']) []) ∨ (False)) := by
  unfold of_vc at h
  refine does_of_wc (n := 22) (L0 := [(0, st text), (1, Value.int .i64 at0)]) Tryd.func6 rfl rfl rfl rfl (fun w0 M Q hE => ?_)
  refine wc_seq (fun K0 hK => ?_)
  refine wc_region ?_
  refine WL.val (OV.assign rfl) rfl rfl rfl ?_
  refine WL.val (OV.assign rfl) rfl rfl rfl ?_
  refine WL.nil ?_
  refine KX.go (hK [(0, st text), (1, Value.int .i64 at0)] _ ?_) ⟨rfl, rfl, trivial⟩
  refine wc_seq (fun K0_1' hK_1' => ?_)
  refine wc_region ?_
  refine WL.val (OV.move rfl) rfl rfl rfl ?_
  refine WL.val (OV.move rfl) rfl rfl rfl ?_
  refine WL.val (OV.maxI rfl rfl) rfl rfl rfl ?_
  refine WL.val (OV.move rfl) rfl rfl rfl ?_
  refine WL.val (OV.len rfl tf_str_9) rfl rfl rfl ?_
  refine WL.val (OV.minI rfl rfl) rfl rfl rfl ?_
  obtain ⟨o, h⟩ := h
  refine WL.val (OV.sliceH rfl rfl tf_str_9 o) rfl rfl rfl ?_
  refine WL.val (OV.assign rfl) rfl rfl rfl ?_
  refine WL.nil ?_
  refine KX.go (hK_1' [(6, st (text.take (min (max at0 0) (text.length : Int)).toNat))] _ ?_) ⟨rfl, trivial⟩
  refine wc_seq (fun K0_2' hK_2' => ?_)
  refine wc_region ?_
  refine WL.val (OV.move rfl) rfl rfl rfl ?_
  refine WL.call (A := []) tf_ent_17 rfl (count_does (text.take (min (max at0 0) (text.length : Int)).toNat)) rfl trivial rfl rfl ?_
  obtain ⟨o_1', h⟩ := h
  refine WL.val (OV.add rfl rfl o_1') rfl rfl rfl ?_
  refine WL.val (OV.move rfl) rfl rfl rfl ?_
  refine WL.val (OV.len rfl tf_str_9) rfl rfl rfl ?_
  refine WL.val (OV.move rfl) rfl rfl rfl ?_
  obtain ⟨o_2', h⟩ := h
  refine WL.call (A := []) tf_ent_18 rfl (lastByte_does (text.take (min (max at0 0) (text.length : Int)).toNat) o_2') rfl trivial rfl rfl ?_
  obtain ⟨o_3', h⟩ := h
  refine WL.val (OV.sub rfl rfl o_3') rfl rfl rfl ?_
  refine WL.val (OV.assign rfl) rfl rfl rfl ?_
  refine WL.val (OV.assign rfl) rfl rfl rfl ?_
  refine WL.nil ?_
  refine KX.go (hK_2' [(4, Value.int .i64 (1 + (((text.take (min (max at0 0) (text.length : Int)).toNat).count 10 : Nat) : Int))), (5, Value.int .i64 (((text.take (min (max at0 0) (text.length : Int)).toNat).length : Int) - (lastL (text.take (min (max at0 0) (text.length : Int)).toNat))))] _ ?_) ⟨rfl, rfl, trivial⟩
  refine wc_ret ?_
  exact hE.ret [] rfl rfl (.inl ⟨_, _, h, rfl⟩) (ResV.of2 rfl (RV.tmp rfl) (RV.tmp rfl))

def off_vc (text : List UInt8) (line : Int) (col : Int) (K : Int → Bool → Prop) : Prop :=
  ∃ (Inv : Int → Int → Prop) (mu : Int → Int → Nat),
    Inv 0 1 ∧ ∀ (from0_1' : Int) (k_1' : Int), Inv from0_1' k_1' →
      (if (decide (k_1' < line)) = true then
        (0 ≤ from0_1' ∧ from0_1' ≤ text.length) ∧
        (if (decide (nlL (text.drop from0_1'.toNat) < 0)) = true then
          K 0 false
        else
          (I64 ((nlL (text.drop from0_1'.toNat)) + 1)) ∧
          (I64 (from0_1' + ((nlL (text.drop from0_1'.toNat)) + 1))) ∧
          (I64 (k_1' + 1)) ∧
          Inv (from0_1' + ((nlL (text.drop from0_1'.toNat)) + 1)) (k_1' + 1) ∧ mu (from0_1' + ((nlL (text.drop from0_1'.toNat)) + 1)) (k_1' + 1) < mu from0_1' k_1')
      else
        ∃ (J0 : Int → Prop),
          (∀ (last : Int), J0 last →
            (((decide (line < 1)) || (decide (col < 1))) = false → (I64 (col - 1)) ∧ (I64 (last - from0_1'))) ∧
            (if (((decide (line < 1)) || (decide (col < 1))) || (decide (last - from0_1' < col - 1))) = true then
              K 0 false
            else
              (I64 (from0_1' + col)) ∧
              (I64 ((from0_1' + col) - 1)) ∧
              K ((from0_1' + col) - 1) true)) ∧
          (0 ≤ from0_1' ∧ from0_1' ≤ text.length) ∧
          (if (decide (0 ≤ nlL (text.drop from0_1'.toNat))) = true then
            (I64 (from0_1' + (nlL (text.drop from0_1'.toNat)))) ∧
            J0 (from0_1' + (nlL (text.drop from0_1'.toNat)))
          else
            J0 (text.length : Int)))
set_option maxRecDepth 100000 in
theorem off_wp  (text : List UInt8) (line : Int) (col : Int) (K : Int → Bool → Prop) (h : off_vc text line col K) :
    Does Tryd.prog 7 [st text, Value.int .i64 line, Value.int .i64 col] [] [] (fun o => (∃ (v : Int) (v_1' : Bool), K v v_1' ∧ o = .ret (Value.tuple #[Value.int .i64 v, Value.bool v_1']) []) ∨ (False)) := by
  unfold off_vc at h
  refine does_of_wc (n := 57) (L0 := [(0, st text), (1, Value.int .i64 line), (2, Value.int .i64 col)]) Tryd.func7 rfl rfl rfl rfl (fun w0 M Q hE => ?_)
  refine wc_seq (fun K0 hK => ?_)
  refine wc_region ?_
  refine WL.val (OV.assign rfl) rfl rfl rfl ?_
  refine WL.val (OV.assign rfl) rfl rfl rfl ?_
  refine WL.nil ?_
  refine KX.go (hK [(0, st text), (1, Value.int .i64 line), (2, Value.int .i64 col)] _ ?_) ⟨rfl, rfl, rfl, trivial⟩
  refine wc_seq (fun K0_1' hK_1' => ?_)
  refine wc_region ?_
  refine WL.val (OV.assign rfl) rfl rfl rfl ?_
  refine WL.nil ?_
  refine KX.go (hK_1' [(0, st text), (1, Value.int .i64 line), (2, Value.int .i64 col), (8, Value.int .i64 0)] _ ?_) ⟨rfl, rfl, rfl, rfl, trivial⟩
  refine wc_seq (fun K0_2' hK_2' => ?_)
  refine wc_seq (fun K0_3' hK_3' => ?_)
  refine wc_region ?_
  refine WL.val (OV.assign rfl) rfl rfl rfl ?_
  refine WL.nil ?_
  refine KX.go (hK_3' [(0, st text), (1, Value.int .i64 line), (2, Value.int .i64 col), (8, Value.int .i64 0), (9, Value.int .i64 1)] _ ?_) ⟨rfl, rfl, rfl, rfl, rfl, trivial⟩
  refine wc_block ?_
  obtain ⟨Inv, mu, h0, hr⟩ := h
  refine wc_loop (S := Int × Int) (fun σ => Inv σ.1 σ.2) (fun σ => mu σ.1 σ.2) (fun σ => [(0, st text), (1, Value.int .i64 line), (2, Value.int .i64 col), (8, Value.int .i64 σ.1), (9, Value.int .i64 σ.2)]) (fun σ => []) (0, 1) h0 ⟨rfl, rfl, rfl, rfl, rfl, trivial⟩ rfl ?_
  rintro ⟨from0_1', k_1'⟩ hi K0_18' hK_18'
  have h := hr from0_1' k_1' hi
  show WC _ _ _ _ [(0, st text), (1, Value.int .i64 line), (2, Value.int .i64 col), (8, Value.int .i64 from0_1'), (9, Value.int .i64 k_1')] []
  refine wc_seq (fun K0_19' hK_19' => ?_)
  refine wc_seq (fun K0_20' hK_20' => ?_)
  refine wc_region ?_
  refine WL.val (OV.move rfl) rfl rfl rfl ?_
  refine WL.val (OV.move rfl) rfl rfl rfl ?_
  refine WL.val (OV.lss rfl rfl) rfl rfl rfl ?_
  refine WL.nil ?_
  refine KX.go (hK_20' [(0, st text), (1, Value.int .i64 line), (2, Value.int .i64 col), (8, Value.int .i64 from0_1'), (9, Value.int .i64 k_1'), (15, Value.bool (decide (k_1' < line)))] _ ?_) ⟨rfl, rfl, rfl, rfl, rfl, rfl, trivial⟩
  refine wc_cond (b := decide (k_1' < line)) rfl (fun hb => ?_) (fun hb => ?_)
  · replace h := if_T h hb
    refine wc_skip ?_
    refine KX.go (hK_19' [(0, st text), (1, Value.int .i64 line), (2, Value.int .i64 col), (8, Value.int .i64 from0_1'), (9, Value.int .i64 k_1')] _ ?_) ⟨rfl, rfl, rfl, rfl, rfl, trivial⟩
    refine wc_seq (fun K0_21' hK_21' => ?_)
    refine wc_block ?_
    refine wc_seq (fun K0_22' hK_22' => ?_)
    refine wc_region ?_
    refine WL.val (OV.move rfl) rfl rfl rfl ?_
    refine WL.val (OV.move rfl) rfl rfl rfl ?_
    obtain ⟨o_7', h⟩ := h
    refine WL.val (OV.sliceL rfl rfl tf_str_9 o_7') rfl rfl rfl ?_
    refine WL.call (A := []) tf_ent_19 rfl (nlIndex_does (text.drop from0_1'.toNat)) rfl trivial rfl rfl ?_
    refine WL.val (OV.assign rfl) rfl rfl rfl ?_
    refine WL.nil ?_
    refine KX.go (hK_22' [(0, st text), (1, Value.int .i64 line), (2, Value.int .i64 col), (8, Value.int .i64 from0_1'), (9, Value.int .i64 k_1'), (10, Value.int .i64 (nlL (text.drop from0_1'.toNat)))] _ ?_) ⟨rfl, rfl, rfl, rfl, rfl, rfl, trivial⟩
    refine wc_seq (fun K0_23' hK_23' => ?_)
    refine wc_seq (fun K0_24' hK_24' => ?_)
    refine wc_region ?_
    refine WL.val (OV.move rfl) rfl rfl rfl ?_
    refine WL.val (OV.lss rfl rfl) rfl rfl rfl ?_
    refine WL.nil ?_
    refine KX.go (hK_24' [(0, st text), (1, Value.int .i64 line), (2, Value.int .i64 col), (8, Value.int .i64 from0_1'), (9, Value.int .i64 k_1'), (10, Value.int .i64 (nlL (text.drop from0_1'.toNat))), (23, Value.bool (decide (nlL (text.drop from0_1'.toNat) < 0)))] _ ?_) ⟨rfl, rfl, rfl, rfl, rfl, rfl, rfl, trivial⟩
    refine wc_cond (b := decide (nlL (text.drop from0_1'.toNat) < 0)) rfl (fun hb => ?_) (fun hb => ?_)
    · replace h := if_T h hb
      refine wc_seq (fun K0_25' hK_25' => ?_)
      refine wc_region ?_
      refine WL.val (OV.assign rfl) rfl rfl rfl ?_
      refine WL.val (OV.assign rfl) rfl rfl rfl ?_
      refine WL.nil ?_
      refine KX.go (hK_25' [(6, Value.int .i64 0), (7, Value.bool false)] _ ?_) ⟨rfl, rfl, trivial⟩
      refine wc_ret ?_
      exact hE.ret [] rfl rfl (.inl ⟨_, _, h, rfl⟩) (ResV.of2 rfl (RV.tmp rfl) (RV.tmp rfl))
    · replace h := if_F h hb
      refine wc_skip ?_
      refine KX.go (hK_23' [(0, st text), (1, Value.int .i64 line), (2, Value.int .i64 col), (8, Value.int .i64 from0_1'), (9, Value.int .i64 k_1'), (10, Value.int .i64 (nlL (text.drop from0_1'.toNat)))] _ ?_) ⟨rfl, rfl, rfl, rfl, rfl, rfl, trivial⟩
      refine wc_region ?_
      refine WL.val (OV.move rfl) rfl rfl rfl ?_
      refine WL.val (OV.move rfl) rfl rfl rfl ?_
      obtain ⟨o_8', h⟩ := h
      refine WL.val (OV.add rfl rfl o_8') rfl rfl rfl ?_
      obtain ⟨o_9', h⟩ := h
      refine WL.val (OV.add rfl rfl o_9') rfl rfl rfl ?_
      refine WL.val (OV.assign rfl) rfl rfl rfl ?_
      refine WL.nil ?_
      refine KX.go (hK_21' [(0, st text), (1, Value.int .i64 line), (2, Value.int .i64 col), (8, Value.int .i64 (from0_1' + ((nlL (text.drop from0_1'.toNat)) + 1))), (9, Value.int .i64 k_1')] _ ?_) ⟨rfl, rfl, rfl, rfl, rfl, trivial⟩
      refine wc_region ?_
      refine WL.val (OV.move rfl) rfl rfl rfl ?_
      obtain ⟨o_10', h⟩ := h
      refine WL.val (OV.add rfl rfl o_10') rfl rfl rfl ?_
      refine WL.val (OV.assign rfl) rfl rfl rfl ?_
      refine WL.nil ?_
      exact KX.goH (hK_18' (from0_1' + ((nlL (text.drop from0_1'.toNat)) + 1), k_1' + 1) h.1 h.2) ⟨rfl, rfl, rfl, rfl, rfl, trivial⟩ [] rfl rfl
  · replace h := if_F h hb
    refine wc_exit ?_
    refine KX.go (hK_2' [(0, st text), (1, Value.int .i64 line), (2, Value.int .i64 col), (8, Value.int .i64 from0_1')] _ ?_) ⟨rfl, rfl, rfl, rfl, trivial⟩
    refine wc_seq (fun K0_26' hK_26' => ?_)
    refine wc_region ?_
    refine WL.val (OV.move rfl) rfl rfl rfl ?_
    refine WL.val (OV.len rfl tf_str_9) rfl rfl rfl ?_
    refine WL.val (OV.assign rfl) rfl rfl rfl ?_
    refine WL.nil ?_
    refine KX.go (hK_26' [(0, st text), (1, Value.int .i64 line), (2, Value.int .i64 col), (8, Value.int .i64 from0_1'), (11, Value.int .i64 (text.length : Int))] _ ?_) ⟨rfl, rfl, rfl, rfl, rfl, trivial⟩
    obtain ⟨J0, hJ, h⟩ := h
    refine wc_seqJ (X := Int) (fun σ => J0 σ) (fun σ => [(1, Value.int .i64 line), (2, Value.int .i64 col), (8, Value.int .i64 from0_1'), (11, Value.int .i64 σ)]) (fun σ => []) ?_ (fun K0_29' hK_29' => ?_)
    · rintro last hj
      replace h := hJ last hj
      show WC _ _ _ _ [(1, Value.int .i64 line), (2, Value.int .i64 col), (8, Value.int .i64 from0_1'), (11, Value.int .i64 last)] []
      refine wc_seq (fun K0_30' hK_30' => ?_)
      refine wc_seq (fun K0_31' hK_31' => ?_)
      refine wc_region ?_
      refine WL.val (OV.move rfl) rfl rfl rfl ?_
      refine WL.val (OV.lss rfl rfl) rfl rfl rfl ?_
      refine WL.val (OV.move rfl) rfl rfl rfl ?_
      refine WL.cut 3 [(2, Value.int .i64 col), (8, Value.int .i64 from0_1'), (11, Value.int .i64 last), (44, Value.bool ((decide (line < 1)) || (decide (col < 1))))] ?_ (fun K0_32' hK_32' => ?_)
      rotate_left
      · refine WL.split (decide (line < 1)) (fun hb => ?_) (fun hb => ?_)
        · refine WL.set 41 rfl (congrArg Value.bool hb) ?_
          refine WL.skip rfl rfl rfl ?_
          refine WL.skip rfl rfl rfl ?_
          refine WL.val (OV.pickT rfl rfl) rfl rfl rfl ?_
          refine WL.set 44 rfl (oT (v := decide (col < 1)) hb) ?_
          exact WL.end_ (KX.go hK_32' ⟨rfl, rfl, rfl, rfl, trivial⟩)
        · refine WL.set 41 rfl (congrArg Value.bool hb) ?_
          refine WL.val (OV.move rfl) rfl rfl rfl ?_
          refine WL.val (OV.lss rfl rfl) rfl rfl rfl ?_
          refine WL.val (OV.pickF rfl rfl) rfl rfl rfl ?_
          refine WL.set 44 rfl (oF (v := decide (col < 1)) hb) ?_
          exact WL.end_ (KX.go hK_32' ⟨rfl, rfl, rfl, rfl, trivial⟩)
      refine WL.val (OV.move rfl) rfl rfl rfl ?_
      obtain ⟨o_16', h⟩ := h
      refine WL.cut 7 [(2, Value.int .i64 col), (8, Value.int .i64 from0_1'), (52, Value.bool (((decide (line < 1)) || (decide (col < 1))) || (decide (last - from0_1' < col - 1))))] ?_ (fun K0_33' hK_33' => ?_)
      rotate_left
      · refine WL.split ((decide (line < 1)) || (decide (col < 1))) (fun hb => ?_) (fun hb => ?_)
        · refine WL.set 45 rfl (congrArg Value.bool hb) ?_
          refine WL.skip rfl rfl rfl ?_
          refine WL.skip rfl rfl rfl ?_
          refine WL.skip rfl rfl rfl ?_
          refine WL.skip rfl rfl rfl ?_
          refine WL.skip rfl rfl rfl ?_
          refine WL.skip rfl rfl rfl ?_
          refine WL.val (OV.pickT rfl rfl) rfl rfl rfl ?_
          refine WL.set 52 rfl (oT (v := decide (last - from0_1' < col - 1)) hb) ?_
          exact WL.end_ (KX.go hK_33' ⟨rfl, rfl, rfl, trivial⟩)
        · obtain ⟨o_14', o_15'⟩ := o_16' hb
          refine WL.set 45 rfl (congrArg Value.bool hb) ?_
          refine WL.val (OV.move rfl) rfl rfl rfl ?_
          refine WL.val (OV.sub rfl rfl o_14') rfl rfl rfl ?_
          refine WL.val (OV.move rfl) rfl rfl rfl ?_
          refine WL.val (OV.move rfl) rfl rfl rfl ?_
          refine WL.val (OV.sub rfl rfl o_15') rfl rfl rfl ?_
          refine WL.val (OV.gtr rfl rfl) rfl rfl rfl ?_
          refine WL.val (OV.pickF rfl rfl) rfl rfl rfl ?_
          refine WL.set 52 rfl (oF (v := decide (last - from0_1' < col - 1)) hb) ?_
          exact WL.end_ (KX.go hK_33' ⟨rfl, rfl, rfl, trivial⟩)
      refine WL.nil ?_
      refine KX.go (hK_31' [(2, Value.int .i64 col), (8, Value.int .i64 from0_1'), (52, Value.bool (((decide (line < 1)) || (decide (col < 1))) || (decide (last - from0_1' < col - 1))))] _ ?_) ⟨rfl, rfl, rfl, trivial⟩
      refine wc_cond (b := ((decide (line < 1)) || (decide (col < 1))) || (decide (last - from0_1' < col - 1))) rfl (fun hb => ?_) (fun hb => ?_)
      · replace h := if_T h hb
        refine wc_seq (fun K0_34' hK_34' => ?_)
        refine wc_region ?_
        refine WL.val (OV.assign rfl) rfl rfl rfl ?_
        refine WL.val (OV.assign rfl) rfl rfl rfl ?_
        refine WL.nil ?_
        refine KX.go (hK_34' [(6, Value.int .i64 0), (7, Value.bool false)] _ ?_) ⟨rfl, rfl, trivial⟩
        refine wc_ret ?_
        exact hE.ret [] rfl rfl (.inl ⟨_, _, h, rfl⟩) (ResV.of2 rfl (RV.tmp rfl) (RV.tmp rfl))
      · replace h := if_F h hb
        refine wc_skip ?_
        refine KX.go (hK_30' [(2, Value.int .i64 col), (8, Value.int .i64 from0_1')] _ ?_) ⟨rfl, rfl, trivial⟩
        refine wc_seq (fun K0_35' hK_35' => ?_)
        refine wc_region ?_
        refine WL.val (OV.move rfl) rfl rfl rfl ?_
        refine WL.val (OV.move rfl) rfl rfl rfl ?_
        obtain ⟨o_17', h⟩ := h
        refine WL.val (OV.add rfl rfl o_17') rfl rfl rfl ?_
        obtain ⟨o_18', h⟩ := h
        refine WL.val (OV.sub rfl rfl o_18') rfl rfl rfl ?_
        refine WL.val (OV.assign rfl) rfl rfl rfl ?_
        refine WL.val (OV.assign rfl) rfl rfl rfl ?_
        refine WL.nil ?_
        refine KX.go (hK_35' [(6, Value.int .i64 ((from0_1' + col) - 1)), (7, Value.bool true)] _ ?_) ⟨rfl, rfl, trivial⟩
        refine wc_ret ?_
        exact hE.ret [] rfl rfl (.inl ⟨_, _, h, rfl⟩) (ResV.of2 rfl (RV.tmp rfl) (RV.tmp rfl))
    · skip
      refine wc_seq (fun K0_36' hK_36' => ?_)
      refine wc_region ?_
      refine WL.val (OV.move rfl) rfl rfl rfl ?_
      refine WL.val (OV.move rfl) rfl rfl rfl ?_
      obtain ⟨o_19', h⟩ := h
      refine WL.val (OV.sliceL rfl rfl tf_str_9 o_19') rfl rfl rfl ?_
      refine WL.call (A := []) tf_ent_19 rfl (nlIndex_does (text.drop from0_1'.toNat)) rfl trivial rfl rfl ?_
      refine WL.val (OV.assign rfl) rfl rfl rfl ?_
      refine WL.nil ?_
      refine KX.go (hK_36' [(1, Value.int .i64 line), (2, Value.int .i64 col), (8, Value.int .i64 from0_1'), (11, Value.int .i64 (text.length : Int)), (12, Value.int .i64 (nlL (text.drop from0_1'.toNat)))] _ ?_) ⟨rfl, rfl, rfl, rfl, rfl, trivial⟩
      refine wc_seq (fun K0_37' hK_37' => ?_)
      refine wc_region ?_
      refine WL.val (OV.move rfl) rfl rfl rfl ?_
      refine WL.val (OV.geq rfl rfl) rfl rfl rfl ?_
      refine WL.nil ?_
      refine KX.go (hK_37' [(1, Value.int .i64 line), (2, Value.int .i64 col), (8, Value.int .i64 from0_1'), (11, Value.int .i64 (text.length : Int)), (12, Value.int .i64 (nlL (text.drop from0_1'.toNat))), (35, Value.bool (decide (0 ≤ nlL (text.drop from0_1'.toNat))))] _ ?_) ⟨rfl, rfl, rfl, rfl, rfl, rfl, trivial⟩
      refine wc_cond (b := decide (0 ≤ nlL (text.drop from0_1'.toNat))) rfl (fun hb => ?_) (fun hb => ?_)
      · replace h := if_T h hb
        refine wc_region ?_
        refine WL.val (OV.move rfl) rfl rfl rfl ?_
        refine WL.val (OV.move rfl) rfl rfl rfl ?_
        obtain ⟨o_20', h⟩ := h
        refine WL.val (OV.add rfl rfl o_20') rfl rfl rfl ?_
        refine WL.val (OV.assign rfl) rfl rfl rfl ?_
        refine WL.nil ?_
        exact KX.goH (hK_29' (from0_1' + (nlL (text.drop from0_1'.toNat))) h) ⟨rfl, rfl, rfl, rfl, trivial⟩ [] rfl rfl
      · replace h := if_F h hb
        refine wc_skip ?_
        exact KX.goH (hK_29' (text.length : Int) h) ⟨rfl, rfl, rfl, rfl, trivial⟩ [] rfl rfl

/-- Line and column behind a byte more. -/
def stepP (p : Int × Int) (c : UInt8) : Int × Int := if c = 10 then (p.1 + 1, 1) else (p.1, p.2 + 1)
/-- Line and column of the place i. -/
def posF (t : List UInt8) (i : Nat) : Int × Int := (t.take i).foldl stepP (1, 1)
def clampI (t : List UInt8) (a : Int) : Nat := (min (max a 0) (t.length : Int)).toNat
def ofL (t : List UInt8) (a : Int) : Int × Int := posF t (clampI t a)
theorem posF_zero (t : List UInt8) : posF t 0 = (1, 1) := rfl
theorem posF_succ {t : List UInt8} {i : Nat} (h : i < t.length) : posF t (i + 1) = stepP (posF t i) (t.getD i 0) := by
  unfold posF
  rw [List.take_add_one, List.getElem?_eq_getElem h, List.getD_eq_getElem?_getD, List.getElem?_eq_getElem h, List.foldl_append]; rfl
theorem posF_bd (t : List UInt8) : ∀ i, i ≤ t.length → 1 ≤ (posF t i).1 ∧ (posF t i).1 ≤ 1 + i ∧ 1 ≤ (posF t i).2 ∧ (posF t i).2 ≤ 1 + i
  | 0, _ => by rw [posF_zero]; decide
  | i + 1, h => by
    have := posF_bd t i (by omega)
    rw [posF_succ (by omega)]
    unfold stepP
    split <;> simp only <;> omega
theorem last_congr {s t : ByteArray} : ∀ k : Nat, (∀ j, j < k → s.data[j]! = t.data[j]!) → Lib.lastIdx s 10 k = Lib.lastIdx t 10 k
  | 0, _ => rfl
  | k + 1, h => by
    unfold Lib.lastIdx
    rw [h k (by omega), last_congr k fun j hj => h j (by omega)]
theorem last_snoc (l : List UInt8) (c : UInt8) : lastL (l ++ [c]) = if c = 10 then (l.length : Int) else lastL l := by
  unfold lastL Lib.lastIndexByte
  have h1 : (⟨(l ++ [c]).toArray⟩ : ByteArray).size = l.length + 1 := by simp [ByteArray.size]
  have h2 : (⟨l.toArray⟩ : ByteArray).size = l.length := by simp [ByteArray.size]
  rw [h1, h2, Lib.lastIdx]
  have h3 : (⟨(l ++ [c]).toArray⟩ : ByteArray).data[l.length]! = c := by
    show (l ++ [c]).toArray[l.length]! = c
    simp
  rw [h3]
  have h4 : ((c.toNat : Int) = 10) ↔ c = 10 := ⟨fun h => UInt8.toNat_inj.1 (by show c.toNat = 10; omega), fun h => by rw [h]; rfl⟩
  by_cases hc : c = 10
  · rw [if_pos (h4.2 hc), if_pos hc]
  · rw [if_neg (fun h => hc (h4.1 h)), if_neg hc]
    refine last_congr _ fun j hj => ?_
    show (l ++ [c]).toArray[j]! = l.toArray[j]!
    simp [getElem!_def, List.getElem?_append_left hj]
theorem fold_head (l : List UInt8) : l.foldl stepP (1, 1) = (1 + ((l.count 10 : Nat) : Int), (l.length : Int) - lastL l) := by
  have key : ∀ n, n ≤ l.length → (l.take n).foldl stepP (1, 1) = (1 + (((l.take n).count 10 : Nat) : Int), ((l.take n).length : Int) - lastL (l.take n)) := by
    intro n
    induction n with
    | zero => intro _; rfl
    | succ n ih =>
      intro h
      have ih := ih (by omega)
      rw [List.take_add_one, List.getElem?_eq_getElem (by omega)]
      simp only [Option.toList_some]
      rw [List.foldl_append, ih, last_snoc, List.count_append, List.length_append]
      simp only [List.foldl_cons, List.foldl_nil, stepP, List.length_cons, List.length_nil]
      by_cases hc : l[n] = 10
      · rw [if_pos hc, if_pos hc, hc]
        simp only [List.count_singleton_self, Prod.mk.injEq]
        constructor <;> omega
      · rw [if_neg hc, if_neg hc]
        have : List.count 10 [l[n]] = 0 := by rw [List.count_eq_zero]; simp; exact fun h => hc h.symm
        rw [this]
        simp only [Prod.mk.injEq]
        constructor <;> omega
  have := key l.length (Nat.le_refl _)
  rwa [List.take_length] at this
theorem of_does (t : List UInt8) (a : Int) (h : t.length ≤ 140737488351232) : Does Tryd.prog 6 [st t, .int .i64 a] [] [] (Ret (.tuple #[.int .i64 (ofL t a).1, .int .i64 (ofL t a).2]) []) := by
  refine (of_wp t a (fun l c => l = (ofL t a).1 ∧ c = (ofL t a).2) ?_).weak (by rintro o (⟨v, u, ⟨rfl, rfl⟩, rfl⟩ | h) <;> first | rfl | exact h.elim)
  unfold of_vc
  have hc : ofL t a = (1 + (((t.take (clampI t a)).count 10 : Nat) : Int), ((t.take (clampI t a)).length : Int) - lastL (t.take (clampI t a))) := fold_head _
  have hle : clampI t a ≤ t.length := by unfold clampI; omega
  have hb := posF_bd t (clampI t a) hle
  have hb' : 1 ≤ (ofL t a).1 ∧ (ofL t a).1 ≤ 1 + clampI t a ∧ 1 ≤ (ofL t a).2 ∧ (ofL t a).2 ≤ 1 + clampI t a := hb
  rw [hc] at hb' ⊢
  simp only at hb'
  have hl : (t.take (clampI t a)).length ≤ t.length := by rw [List.length_take]; omega
  refine ⟨⟨by omega, by omega⟩, ⟨?_, ?_⟩, ?_, ⟨?_, ?_⟩, rfl, rfl⟩ <;> (show _ ; unfold clampI at *; omega)
theorem find_at {α : Type} {p : α → Bool} {d : α} : ∀ {l : List α} {i : Nat}, i < l.length → p (l.getD i d) = true → (∀ j, j < i → p (l.getD j d) = false) → l.find? p = some (l.getD i d)
  | [], i, h, _, _ => by simp at h
  | x :: l, 0, _, h, _ => by rw [List.find?_cons]; simp at h; simp [h]
  | x :: l, i + 1, h, hp, hn => by
    have h0 := hn 0 (by omega)
    simp at h0
    rw [List.find?_cons, h0]
    simp only [List.getD_cons_succ] at hp ⊢
    exact find_at (by simpa using h) hp fun j hj => by simpa using hn (j + 1) (by omega)
theorem find_no {α : Type} {p : α → Bool} {d : α} {l : List α} (h : ∀ j, j < l.length → p (l.getD j d) = false) : l.find? p = none := by
  rw [List.find?_eq_none]
  intro x hx
  obtain ⟨j, hj⟩ := List.mem_iff_getElem?.1 hx
  have hlt := (List.getElem?_eq_some_iff.1 hj).1
  have := h j hlt
  rw [List.getD_eq_getElem?_getD, hj] at this
  simpa using this
def offL (t : List UInt8) (line col : Int) : Int × Bool := match (List.range (t.length + 1)).find? (fun i => decide (posF t i = (line, col))) with
  | some i => ((i : Int), true)
  | none => (0, false)
theorem range_getD {n i : Nat} (h : i < n) : (List.range n).getD i 0 = i := by
  rw [List.getD_eq_getElem?_getD, List.getElem?_range h]; rfl
theorem off_some {t : List UInt8} {line col : Int} {i : Nat} (h : i ≤ t.length) (hp : posF t i = (line, col)) (hn : ∀ j, j < i → posF t j ≠ (line, col)) : offL t line col = ((i : Int), true) := by
  unfold offL
  rw [find_at (d := 0) (i := i) (by simp; omega) (by rw [range_getD (by omega)]; simpa using hp) (fun j hj => by rw [range_getD (by omega)]; simpa using hn j hj), range_getD (by omega)]
theorem off_none {t : List UInt8} {line col : Int} (hn : ∀ j, j ≤ t.length → posF t j ≠ (line, col)) : offL t line col = (0, false) := by
  unfold offL
  rw [find_no (d := 0) fun j hj => by
    have : j < t.length + 1 := by simpa using hj
    rw [range_getD this]; simpa using hn j (by omega)]
theorem pos_seg {t : List UInt8} {p : Nat} : ∀ {m : Nat}, p + m ≤ t.length → (∀ j, p ≤ j → j < p + m → t.getD j 0 ≠ 10) → posF t (p + m) = ((posF t p).1, (posF t p).2 + m)
  | 0, _, _ => by simp
  | m + 1, h, hn => by
    rw [← Nat.add_assoc, posF_succ (by omega), pos_seg (by omega) fun j h1 h2 => hn j h1 (by omega)]
    unfold stepP
    rw [if_neg (hn (p + m) (by omega) (by omega))]
    simp only [Prod.mk.injEq, true_and]; omega
theorem pos_mono {t : List UInt8} {p : Nat} : ∀ {m : Nat}, p + m ≤ t.length → (posF t p).1 ≤ (posF t (p + m)).1
  | 0, _ => by simp
  | m + 1, h => by
    have := pos_mono (t := t) (p := p) (m := m) (by omega)
    rw [← Nat.add_assoc, posF_succ (by omega)]
    unfold stepP
    split <;> simp only <;> omega
theorem pos_mono' {t : List UInt8} {p q : Nat} (h : p ≤ q) (hq : q ≤ t.length) : (posF t p).1 ≤ (posF t q).1 := by
  have := pos_mono (t := t) (p := p) (m := q - p) (by omega)
  rwa [show p + (q - p) = q by omega] at this
theorem nl_spec : ∀ l : List UInt8, (nlL l = -1 ∧ ∀ j, j < l.length → l.getD j 0 ≠ 10) ∨ (∃ i : Nat, nlL l = i ∧ i < l.length ∧ l.getD i 0 = 10 ∧ ∀ j, j < i → l.getD j 0 ≠ 10)
  | [] => .inl ⟨rfl, fun j h => by simp at h⟩
  | c :: l => by
    have ih := nl_spec l
    unfold nlL at ih ⊢
    rw [Lib.indexByte]
    by_cases hc : c = 10
    · subst hc
      exact .inr ⟨0, rfl, by simp, rfl, fun j h => by omega⟩
    · rw [if_neg (by simpa using hc)]
      rcases ih with ⟨h1, h2⟩ | ⟨i, h1, h2, h3, h4⟩
      · rw [h1]
        refine .inl ⟨rfl, fun j hj => ?_⟩
        cases j with
        | zero => simpa using hc
        | succ j => simpa using h2 j (by simpa using hj)
      · rw [h1, if_neg (by simp)]
        refine .inr ⟨i + 1, by omega, by simpa using h2, by simpa using h3, fun j hj => ?_⟩
        cases j with
        | zero => simpa using hc
        | succ j => simpa using h4 j (by omega)
theorem getD_drop {t : List UInt8} {p j : Nat} : (t.drop p).getD j 0 = t.getD (p + j) 0 := by
  rw [List.getD_eq_getElem?_getD, List.getElem?_drop, List.getD_eq_getElem?_getD]
theorem offset_does (t : List UInt8) (line col : Int) (h : t.length ≤ 140737488351232 ∧ I64 line ∧ I64 col) : Does Tryd.prog 7 [st t, .int .i64 line, .int .i64 col] [] [] (Ret (.tuple #[.int .i64 (offL t line col).1, .bool (offL t line col).2]) []) := by
  obtain ⟨h, hline, hcol⟩ := h
  have hl1 := hline.1
  have hl2 := hline.2
  have hc1 := hcol.1
  have hc2 := hcol.2
  refine (off_wp t line col (fun l c => l = (offL t line col).1 ∧ c = (offL t line col).2) ?_).weak (by rintro o (⟨v, u, ⟨rfl, rfl⟩, rfl⟩ | h) <;> first | rfl | exact h.elim)
  unfold off_vc
  refine ⟨fun f k => 0 ≤ f ∧ f ≤ t.length ∧ 1 ≤ k ∧ (k ≤ line ∨ k = 1) ∧ posF t f.toNat = (k, 1) ∧ ∀ j : Nat, (j : Int) < f → (posF t j).1 < k, fun f _ => (t.length - f).toNat, ⟨by omega, by omega, by omega, .inr rfl, rfl, fun j hj => by omega⟩, fun f k ⟨h0, h1, h2, h3, h4, h5⟩ => ?_⟩
  have hbd := posF_bd t
  have hspec := nl_spec (t.drop f.toNat)
  have hdl : (t.drop f.toNat).length = t.length - f.toNat := List.length_drop
  by_cases hk : k < line
  · rw [if_pos (by simpa using hk)]
    refine ⟨⟨h0, h1⟩, ?_⟩
    rcases hspec with ⟨e1, e2⟩ | ⟨i, e1, e2, e3, e4⟩
    · rw [e1, if_pos (by decide)]
      have : offL t line col = (0, false) := off_none fun j hj he => by
        have hle : (posF t j).1 ≤ k := by
          by_cases hjf : (j : Int) < f
          · have := h5 j hjf; omega
          · have h6 := pos_seg (t := t) (p := f.toNat) (m := j - f.toNat) (by omega) fun q hq1 hq2 => by
              have := e2 (q - f.toNat) (by omega)
              rw [getD_drop, show f.toNat + (q - f.toNat) = q by omega] at this; exact this
            rw [show f.toNat + (j - f.toNat) = j by omega, h4] at h6
            rw [h6]; simp
        rw [he] at hle; simp only at hle; omega
      rw [this]; exact ⟨rfl, rfl⟩
    · rw [e1, if_neg (by simp)]
      have hq : f.toNat + i < t.length := by omega
      have hseg := pos_seg (t := t) (p := f.toNat) (m := i) (by omega) fun q hq1 hq2 => by
        have := e4 (q - f.toNat) (by omega)
        rw [getD_drop, show f.toNat + (q - f.toNat) = q by omega] at this; exact this
      rw [h4] at hseg
      have hnext := posF_succ hq
      rw [getD_drop] at e3
      rw [hseg, e3] at hnext
      have hnext' : posF t (f.toNat + i + 1) = (k + 1, 1) := hnext
      refine ⟨⟨by omega, by omega⟩, ⟨by omega, by omega⟩, ⟨by omega, by omega⟩, ⟨by omega, by omega, by omega, .inl (by omega), ?_, fun j hj => ?_⟩, by show (t.length - (f + (i + 1))).toNat < (t.length - f).toNat; omega⟩
      · rw [show (f + ((i : Int) + 1)).toNat = f.toNat + i + 1 by omega]; exact hnext'
      · have := pos_mono' (t := t) (p := j) (q := f.toNat + i) (by omega) (by omega)
        rw [hseg] at this
        simp only at this; omega
  · rw [if_neg (by simpa using hk)]
    -- behind the loop: the line begins at f, or there is none
    have hfin : ∀ last : Int, f ≤ last → last ≤ t.length → (∀ q : Nat, f ≤ q → (q : Int) < last → t.getD q 0 ≠ 10) → (last < t.length → t.getD last.toNat 0 = 10) →
        (((decide (line < 1)) || (decide (col < 1))) = false → (I64 (col - 1)) ∧ (I64 (last - f))) ∧
            (if (((decide (line < 1)) || (decide (col < 1))) || (decide (last - f < col - 1))) = true then
              (0 : Int) = (offL t line col).1 ∧ false = (offL t line col).2
            else
              (I64 (f + col)) ∧
              (I64 ((f + col) - 1)) ∧
              (f + col) - 1 = (offL t line col).1 ∧ true = (offL t line col).2) := by
      intro last g1 g2 g3 g4
      refine ⟨fun hx => ?_, ?_⟩
      · simp at hx
        exact ⟨⟨by omega, by omega⟩, ⟨by omega, by omega⟩⟩
      · have hseg : ∀ m : Nat, f + m ≤ last → posF t (f.toNat + m) = (k, 1 + (m : Int)) := fun m hm => by
          rw [pos_seg (by omega) fun q hq1 hq2 => g3 q (by omega) (by omega), h4]
        by_cases c1 : line < 1
        · rw [if_pos (by simp [c1])]
          have : offL t line col = (0, false) := off_none fun j hj he => by
            have := (hbd j hj).1
            rw [he] at this; simp only at this; omega
          rw [this]; exact ⟨rfl, rfl⟩
        · by_cases c2 : col < 1
          · rw [if_pos (by simp [c2])]
            have : offL t line col = (0, false) := off_none fun j hj he => by
              have := (hbd j hj).2.2.1
              rw [he] at this; simp only at this; omega
            rw [this]; exact ⟨rfl, rfl⟩
          · have hkl : k = line := by
              clear hspec hdl hbd
              rcases h3 with h3 | h3 <;> omega
            by_cases c3 : last - f < col - 1
            · rw [if_pos (by simp [c3])]
              have : offL t line col = (0, false) := off_none fun j hj he => by
                by_cases j1 : (j : Int) < f
                · have := h5 j j1
                  rw [he] at this; simp only at this; omega
                · by_cases j2 : (j : Int) ≤ last
                  · have := hseg (j - f.toNat) (by omega)
                    rw [show f.toNat + (j - f.toNat) = j by omega, he] at this
                    simp only [Prod.mk.injEq] at this
                    omega
                  · have hlt : last.toNat < t.length := by omega
                    have h6 := posF_succ hlt
                    rw [g4 (by omega)] at h6
                    have h7 := hseg (last - f).toNat (by omega)
                    rw [show f.toNat + (last - f).toNat = last.toNat by omega] at h7
                    rw [h7] at h6
                    have h8 := pos_mono' (t := t) (p := last.toNat + 1) (q := j) (by omega) hj
                    rw [h6, he] at h8
                    have h9 : k + 1 ≤ line := h8
                    omega
              rw [this]; exact ⟨rfl, rfl⟩
            · rw [if_neg (by simp [c1, c2, c3])]
              have : offL t line col = (((f + col - 1).toNat : Int), true) := by
                refine off_some (by omega) ?_ fun j hj he => ?_
                · have := hseg (col - 1).toNat (by omega)
                  rw [show f.toNat + (col - 1).toNat = (f + col - 1).toNat by omega] at this
                  rw [this]
                  simp only [Prod.mk.injEq]; omega
                · by_cases j1 : (j : Int) < f
                  · have := h5 j j1
                    rw [he] at this; simp only at this; omega
                  · have := hseg (j - f.toNat) (by omega)
                    rw [show f.toNat + (j - f.toNat) = j by omega, he] at this
                    simp only [Prod.mk.injEq] at this
                    omega
              rw [this]
              exact ⟨⟨by omega, by omega⟩, ⟨by omega, by omega⟩, by simp only; omega, rfl⟩
    refine ⟨fun last => f ≤ last ∧ last ≤ t.length ∧ (∀ q : Nat, f ≤ q → (q : Int) < last → t.getD q 0 ≠ 10) ∧ (last < t.length → t.getD last.toNat 0 = 10), fun last ⟨g1, g2, g3, g4⟩ => hfin last g1 g2 g3 g4, ⟨h0, h1⟩, ?_⟩
    rcases hspec with ⟨e1, e2⟩ | ⟨i, e1, e2, e3, e4⟩
    · rw [e1, if_neg (by decide)]
      exact ⟨by omega, by omega, fun q hq1 hq2 => by
        have := e2 (q - f.toNat) (by omega)
        rw [getD_drop, show f.toNat + (q - f.toNat) = q by omega] at this; exact this, fun hx => by omega⟩
    · rw [e1, if_pos (by simp)]
      rw [getD_drop] at e3
      refine ⟨⟨by omega, by omega⟩, by omega, by omega, fun q hq1 hq2 => ?_, fun _ => by rw [show (f + (i : Int)).toNat = f.toNat + i by omega]; exact e3⟩
      have := e4 (q - f.toNat) (by omega)
      rw [getD_drop, show f.toNat + (q - f.toNat) = q by omega] at this; exact this

end Go.Proofs.YtlfolgbaageknaaDoor
