/-
  The conditions and walks of the functions that read a set's text.
-/
import Derived.Test.YtkjnhjhkaaampaaDoorChecked
import Derived.Test.YtkjnhjhkaaampaaDoorGwx
import Derived.Test.YtkjnhjhkaaampaaDoorClassD
namespace Go.Proofs.YtkjnhjhkaaampaaDoor
open Go Go.RowKit

theorem tf_some_5 : (Tryd.prog.underlying 5).isSome = true := by kernel_rfl
theorem tf_field_55_1 : fieldOff Tryd.prog 55 1 = some 1 := by kernel_rfl
theorem tf_scal_3 : scalB Tryd.prog 3 = true := by kernel_rfl
theorem tf_field_55_0 : fieldOff Tryd.prog 55 0 = some 0 := by kernel_rfl
theorem tf_scal_9 : scalB Tryd.prog 9 = true := by kernel_rfl
theorem tf_str_9 : strB Tryd.prog 9 = true := by kernel_rfl
theorem tf_mixed : Tryd.prog.follows .mixedOrders = true := by kernel_rfl
theorem tf_conc_34 : Program.concrete Tryd.prog 34 = true := by kernel_rfl

def refhex_vc (c : Int) (K : Int → Prop) : Prop :=
  (if ((decide (48 ≤ c)) && (decide (c ≤ 57))) = true then
    (I64 (IntKind.wrap .u8 (c - 48))) ∧
    K (IntKind.wrap .u8 (c - 48))
  else
    (if ((decide (97 ≤ c)) && (decide (c ≤ 102))) = true then
      (I64 (IntKind.wrap .u8 (c - 97))) ∧
      (I64 ((IntKind.wrap .u8 (c - 97)) + 10)) ∧
      K ((IntKind.wrap .u8 (c - 97)) + 10)
    else
      K (-1)))
set_option maxRecDepth 100000 in
theorem refhex_wp  (c : Int) (K : Int → Prop) (h : refhex_vc c K) :
    Does Tryd.prog 33 [Value.int .u8 c] [] [] (fun o => (∃ (v : Int), K v ∧ o = .ret (Value.int .i64 v) []) ∨ (False)) := by
  unfold refhex_vc at h
  refine does_of_wc (n := 22) (L0 := [(0, Value.int .u8 c)]) Tryd.func33 rfl rfl rfl rfl (fun w0 M Q hE => ?_)
  refine wc_seq (fun K0 hK => ?_)
  refine wc_region ?_
  refine WL.val (OV.assign rfl) rfl rfl rfl ?_
  refine WL.nil ?_
  refine KX.go (hK [(0, Value.int .u8 c)] _ ?_) ⟨rfl, trivial⟩
  refine wc_seq (fun K0_1' hK_1' => ?_)
  refine wc_seq (fun K0_2' hK_2' => ?_)
  refine wc_region ?_
  refine WL.val (OV.move rfl) rfl rfl rfl ?_
  refine WL.val (OV.geq rfl rfl) rfl rfl rfl ?_
  refine WL.val (OV.move rfl) rfl rfl rfl ?_
  refine WL.cut 3 [(0, Value.int .u8 c), (8, Value.bool ((decide (48 ≤ c)) && (decide (c ≤ 57))))] ?_ (fun K0_3' hK_3' => ?_)
  rotate_left
  · refine WL.split (decide (48 ≤ c)) (fun hb => ?_) (fun hb => ?_)
    · refine WL.set 5 rfl (congrArg Value.bool hb) ?_
      refine WL.val (OV.move rfl) rfl rfl rfl ?_
      refine WL.val (OV.leq rfl rfl) rfl rfl rfl ?_
      refine WL.val (OV.pickT rfl rfl) rfl rfl rfl ?_
      refine WL.set 8 rfl (bT (v := decide (c ≤ 57)) hb) ?_
      exact WL.end_ (KX.go hK_3' ⟨rfl, rfl, trivial⟩)
    · refine WL.set 5 rfl (congrArg Value.bool hb) ?_
      refine WL.skip rfl rfl rfl ?_
      refine WL.skip rfl rfl rfl ?_
      refine WL.val (OV.pickF rfl rfl) rfl rfl rfl ?_
      refine WL.set 8 rfl (bF (v := decide (c ≤ 57)) hb) ?_
      exact WL.end_ (KX.go hK_3' ⟨rfl, rfl, trivial⟩)
  refine WL.nil ?_
  refine KX.go (hK_2' [(0, Value.int .u8 c), (8, Value.bool ((decide (48 ≤ c)) && (decide (c ≤ 57))))] _ ?_) ⟨rfl, rfl, trivial⟩
  refine wc_cond (b := (decide (48 ≤ c)) && (decide (c ≤ 57))) rfl (fun hb => ?_) (fun hb => ?_)
  · replace h := if_T h hb
    refine wc_seq (fun K0_4' hK_4' => ?_)
    refine wc_region ?_
    refine WL.val (OV.move rfl) rfl rfl rfl ?_
    refine WL.val (OV.subW rfl rfl) rfl rfl rfl ?_
    obtain ⟨o_1', h⟩ := h
    refine WL.val (OV.conv64 rfl tf_some_5 Tryd.underlying3 o_1') rfl rfl rfl ?_
    refine WL.val (OV.assign rfl) rfl rfl rfl ?_
    refine WL.nil ?_
    refine KX.go (hK_4' [(2, Value.int .i64 (IntKind.wrap .u8 (c - 48)))] _ ?_) ⟨rfl, trivial⟩
    refine wc_ret ?_
    exact hE.ret [] rfl rfl (.inl ⟨_, h, rfl⟩) (ResV.of1 rfl (RV.tmp rfl))
  · replace h := if_F h hb
    refine wc_skip ?_
    refine KX.go (hK_1' [(0, Value.int .u8 c)] _ ?_) ⟨rfl, trivial⟩
    refine wc_seq (fun K0_5' hK_5' => ?_)
    refine wc_seq (fun K0_6' hK_6' => ?_)
    refine wc_region ?_
    refine WL.val (OV.move rfl) rfl rfl rfl ?_
    refine WL.val (OV.geq rfl rfl) rfl rfl rfl ?_
    refine WL.val (OV.move rfl) rfl rfl rfl ?_
    refine WL.cut 3 [(0, Value.int .u8 c), (17, Value.bool ((decide (97 ≤ c)) && (decide (c ≤ 102))))] ?_ (fun K0_7' hK_7' => ?_)
    rotate_left
    · refine WL.split (decide (97 ≤ c)) (fun hb => ?_) (fun hb => ?_)
      · refine WL.set 14 rfl (congrArg Value.bool hb) ?_
        refine WL.val (OV.move rfl) rfl rfl rfl ?_
        refine WL.val (OV.leq rfl rfl) rfl rfl rfl ?_
        refine WL.val (OV.pickT rfl rfl) rfl rfl rfl ?_
        refine WL.set 17 rfl (bT (v := decide (c ≤ 102)) hb) ?_
        exact WL.end_ (KX.go hK_7' ⟨rfl, rfl, trivial⟩)
      · refine WL.set 14 rfl (congrArg Value.bool hb) ?_
        refine WL.skip rfl rfl rfl ?_
        refine WL.skip rfl rfl rfl ?_
        refine WL.val (OV.pickF rfl rfl) rfl rfl rfl ?_
        refine WL.set 17 rfl (bF (v := decide (c ≤ 102)) hb) ?_
        exact WL.end_ (KX.go hK_7' ⟨rfl, rfl, trivial⟩)
    refine WL.nil ?_
    refine KX.go (hK_6' [(0, Value.int .u8 c), (17, Value.bool ((decide (97 ≤ c)) && (decide (c ≤ 102))))] _ ?_) ⟨rfl, rfl, trivial⟩
    refine wc_cond (b := (decide (97 ≤ c)) && (decide (c ≤ 102))) rfl (fun hb => ?_) (fun hb => ?_)
    · replace h := if_T h hb
      refine wc_seq (fun K0_8' hK_8' => ?_)
      refine wc_region ?_
      refine WL.val (OV.move rfl) rfl rfl rfl ?_
      refine WL.val (OV.subW rfl rfl) rfl rfl rfl ?_
      obtain ⟨o_3', h⟩ := h
      refine WL.val (OV.conv64 rfl tf_some_5 Tryd.underlying3 o_3') rfl rfl rfl ?_
      obtain ⟨o_4', h⟩ := h
      refine WL.val (OV.add rfl rfl o_4') rfl rfl rfl ?_
      refine WL.val (OV.assign rfl) rfl rfl rfl ?_
      refine WL.nil ?_
      refine KX.go (hK_8' [(2, Value.int .i64 ((IntKind.wrap .u8 (c - 97)) + 10))] _ ?_) ⟨rfl, trivial⟩
      refine wc_ret ?_
      exact hE.ret [] rfl rfl (.inl ⟨_, h, rfl⟩) (ResV.of1 rfl (RV.tmp rfl))
    · replace h := if_F h hb
      refine wc_skip ?_
      refine KX.go (hK_5' [] _ ?_) trivial
      refine wc_seq (fun K0_9' hK_9' => ?_)
      refine wc_region ?_
      refine WL.val (OV.assign rfl) rfl rfl rfl ?_
      refine WL.nil ?_
      refine KX.go (hK_9' [(2, Value.int .i64 (-1))] _ ?_) ⟨rfl, trivial⟩
      refine wc_ret ?_
      exact hE.ret [] rfl rfl (.inl ⟨_, h, rfl⟩) (ResV.of1 rfl (RV.tmp rfl))

def peek_vc (r_0 : List UInt8) (r_1 : Int) (K : Int → Bool → Prop) : Prop :=
  (if (decide (r_1 < (r_0.length : Int))) = true then
    (0 ≤ r_1 ∧ r_1 < r_0.length) ∧
    K ((r_0.getD r_1.toNat 0).toNat : Int) true
  else
    K 0 false)
set_option maxRecDepth 100000 in
theorem peek_wp (b : Nat) (r_0 : List UInt8) (r_1 : Int) (K : Int → Bool → Prop) (h : peek_vc r_0 r_1 K) :
    Does Tryd.prog 35 [Value.pointer (some ⟨b, 0, none⟩)] [(b, .cells [st r_0, Value.int .i64 r_1].toArray 55 (0, 0))] [] (fun o => (∃ (v : Int) (v_1' : Bool), K v v_1' ∧ o = .ret (Value.tuple #[Value.int .u8 v, Value.bool v_1']) []) ∨ (False)) := by
  unfold peek_vc at h
  refine does_of_wc (n := 23) (L0 := [(0, Value.pointer (some ⟨b, 0, none⟩))]) Tryd.func35 rfl rfl rfl rfl (fun w0 M Q hE => ?_)
  refine wc_seq (fun K0 hK => ?_)
  refine wc_region ?_
  refine WL.val (OV.assign rfl) rfl rfl rfl ?_
  refine WL.val (OV.assign rfl) rfl rfl rfl ?_
  refine WL.nil ?_
  refine KX.go (hK [(0, Value.pointer (some ⟨b, 0, none⟩))] _ ?_) ⟨rfl, trivial⟩
  refine wc_seq (fun K0_1' hK_1' => ?_)
  refine wc_seq (fun K0_2' hK_2' => ?_)
  refine wc_draw 9 [] tf_mixed (by kernel_rfl) rfl (fun T hT => ?_)
  refine FL.val (fun _ => OV.move rfl) rfl (fun _ => rfl) rfl rfl ?_
  refine FL.val (fun _ => OV.nilCheck rfl) rfl (fun _ => rfl) rfl rfl ?_
  refine FL.val (fun _ => OV.fieldAddr0 rfl tf_field_55_1) rfl (fun _ => rfl) rfl rfl ?_
  refine FL.val (fun _ => OV.load rfl (At.ro 0 rfl) rfl tf_scal_3) rfl (fun _ => rfl) rfl rfl ?_
  refine FL.val (fun _ => OV.move rfl) rfl (fun _ => rfl) rfl rfl ?_
  refine FL.val (fun _ => OV.nilCheck rfl) rfl (fun _ => rfl) rfl rfl ?_
  refine FL.val (fun _ => OV.fieldAddr0 rfl tf_field_55_0) rfl (fun _ => rfl) rfl rfl ?_
  refine FL.val (fun _ => OV.load rfl (At.ro 0 rfl) rfl tf_scal_9) rfl (fun _ => rfl) rfl rfl ?_
  refine FL.val (fun _ => OV.len rfl tf_str_9) rfl (fun _ => rfl) rfl rfl ?_
  refine FL.weak (L' := fun γ => [(0, Value.pointer (some ⟨b, 0, none⟩)), (7, Value.int .i64 r_1), (12, Value.int .i64 (r_0.length : Int))]) (fun γ => ⟨rfl, rfl, rfl, trivial⟩) (FL.nil (hT (fun γ => [(0, Value.pointer (some ⟨b, 0, none⟩)), (7, Value.int .i64 r_1), (12, Value.int .i64 (r_0.length : Int))]) (fun γ => ?_)))
  refine WL.val (OV.lss rfl rfl) rfl rfl rfl ?_
  refine WL.nil ?_
  refine KX.go (hK_2' [(0, Value.pointer (some ⟨b, 0, none⟩)), (13, Value.bool (decide (r_1 < (r_0.length : Int))))] _ ?_) ⟨rfl, rfl, trivial⟩
  refine wc_cond (b := decide (r_1 < (r_0.length : Int))) rfl (fun hb => ?_) (fun hb => ?_)
  · replace h := if_T h hb
    refine wc_seq (fun K0_3' hK_3' => ?_)
    refine wc_draw 8 [] tf_mixed (by kernel_rfl) rfl (fun T_1' hT_1' => ?_)
    refine FL.val (fun _ => OV.move rfl) rfl (fun _ => rfl) rfl rfl ?_
    refine FL.val (fun _ => OV.nilCheck rfl) rfl (fun _ => rfl) rfl rfl ?_
    refine FL.val (fun _ => OV.fieldAddr0 rfl tf_field_55_0) rfl (fun _ => rfl) rfl rfl ?_
    refine FL.val (fun _ => OV.load rfl (At.ro 0 rfl) rfl tf_scal_9) rfl (fun _ => rfl) rfl rfl ?_
    refine FL.val (fun _ => OV.move rfl) rfl (fun _ => rfl) rfl rfl ?_
    refine FL.val (fun _ => OV.nilCheck rfl) rfl (fun _ => rfl) rfl rfl ?_
    refine FL.val (fun _ => OV.fieldAddr0 rfl tf_field_55_1) rfl (fun _ => rfl) rfl rfl ?_
    refine FL.val (fun _ => OV.load rfl (At.ro 0 rfl) rfl tf_scal_3) rfl (fun _ => rfl) rfl rfl ?_
    refine FL.weak (L' := fun γ => [(17, st r_0), (21, Value.int .i64 r_1)]) (fun γ => ⟨rfl, rfl, trivial⟩) (FL.nil (hT_1' (fun γ => [(17, st r_0), (21, Value.int .i64 r_1)]) (fun γ => ?_)))
    obtain ⟨o, h⟩ := h
    refine WL.val (OV.index rfl rfl tf_str_9 o) rfl rfl rfl ?_
    refine WL.val (OV.assign rfl) rfl rfl rfl ?_
    refine WL.val (OV.assign rfl) rfl rfl rfl ?_
    refine WL.nil ?_
    refine KX.go (hK_3' [(2, Value.int .u8 ((r_0.getD r_1.toNat 0).toNat : Int)), (3, Value.bool true)] _ ?_) ⟨rfl, rfl, trivial⟩
    refine wc_ret ?_
    exact hE.ret [] rfl rfl (.inl ⟨_, _, h, rfl⟩) (ResV.of2 rfl (RV.tmp rfl) (RV.tmp rfl))
  · replace h := if_F h hb
    refine wc_skip ?_
    refine KX.go (hK_1' [] _ ?_) trivial
    refine wc_seq (fun K0_4' hK_4' => ?_)
    refine wc_region ?_
    refine WL.val (OV.assign rfl) rfl rfl rfl ?_
    refine WL.val (OV.assign rfl) rfl rfl rfl ?_
    refine WL.nil ?_
    refine KX.go (hK_4' [(2, Value.int .u8 0), (3, Value.bool false)] _ ?_) ⟨rfl, rfl, trivial⟩
    refine wc_ret ?_
    exact hE.ret [] rfl rfl (.inl ⟨_, _, h, rfl⟩) (ResV.of2 rfl (RV.tmp rfl) (RV.tmp rfl))

def fail_vc (_ : Value) (at0 : Int) (_ : Prop) (KP : Value → Prop) : Prop :=
  KP (Value.iface 34 (Value.agg [Value.int .i64 10, Value.int .i64 at0, st []].toArray))
set_option maxRecDepth 100000 in
theorem fail_wp  (r : Value) (at0 : Int) (K : Prop) (KP : Value → Prop) (h : fail_vc r at0 K KP) :
    Does Tryd.prog 36 [r, Value.int .i64 at0] [] [] (fun o => (K ∧ o = .ret (Value.tuple #[]) []) ∨ (∃ (pv : Value), KP pv ∧ o = .pan [{ v := pv, recovered := false }] [])) := by
  unfold fail_vc at h
  refine does_of_wc (n := 7) (L0 := [(0, r), (1, Value.int .i64 at0)]) Tryd.func36 rfl rfl rfl rfl (fun w0 M Q hE => ?_)
  refine wc_region ?_
  refine WL.val (OV.move rfl) rfl rfl rfl ?_
  refine WL.val (OV.build rfl (cs := [Value.int .i64 10, Value.int .i64 at0, st []]) rfl) rfl rfl rfl ?_
  refine WL.val (OV.iface rfl tf_conc_34) rfl rfl rfl ?_
  refine WL.panic rfl rfl ?_
  exact hE.pan [] rfl rfl (.inr ⟨_, h, rfl⟩)

end Go.Proofs.YtkjnhjhkaaampaaDoor
