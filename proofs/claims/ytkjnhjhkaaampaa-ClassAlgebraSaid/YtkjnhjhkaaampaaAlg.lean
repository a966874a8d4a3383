/-
  ClassAlgebra: the condition and the walk.
-/
import Derived.Test.YtkjnhjhkaaampaaChecked
import Derived.Test.YtkjnhjhkaaampaaGwg
import Derived.Test.YtkjnhjhkaaampaaClassD
import Derived.Test.YtkjnhjhkaaampaaCount
namespace Go.Proofs.Ytkjnhjhkaaampaa
open Go Go.RowKit

theorem tf_ent_13 : entB Try.prog 13 = true := by kernel_rfl
theorem tf_row_23 : RowT Try.prog 23 4 := ⟨by kernel_rfl, by kernel_rfl⟩
theorem tf_zero_26 : zeroB Try.prog 26 = some (wl cs0) := by kernel_rfl
theorem tf_size_26 : sizeB Try.prog 26 4 = true := by kernel_rfl
theorem tf_row_26 : RowT Try.prog 26 4 := ⟨by kernel_rfl, by kernel_rfl⟩
theorem tf_ent_16 : entB Try.prog 16 = true := by kernel_rfl
theorem tf_ent_17 : entB Try.prog 17 = true := by kernel_rfl
theorem tf_ent_18 : entB Try.prog 18 = true := by kernel_rfl
theorem tf_ent_19 : entB Try.prog 19 = true := by kernel_rfl
theorem tf_ent_10 : entB Try.prog 10 = true := by kernel_rfl
theorem tf_zero_28 : zeroB Try.prog 28 = some (arr 256 (fun j => Value.bool ((fun _ => false) j))) := by kernel_rfl
theorem tf_size_28 : sizeB Try.prog 28 256 = true := by kernel_rfl
theorem tf_some_3 : (Try.prog.underlying 3).isSome = true := by kernel_rfl
theorem tf_arr_28 : arrB Try.prog 28 4 256 1 = true := by kernel_rfl
theorem tf_scal_4 : scalB Try.prog 4 = true := by kernel_rfl
theorem tf_mixed : Try.prog.follows .mixedOrders = true := by kernel_rfl
theorem tf_ent_20 : entB Try.prog 20 = true := by kernel_rfl

theorem count_does (s : CS) : Does Try.prog 20 [.agg (wl s).toArray] [] [] (Ret (.int .i64 (countS s : Int)) []) := Does.ofPure (count_pure s)
theorem from_does (s : CS) : Does Try.prog 10 [.agg (wl s).toArray] [] [] (Ret (.agg (arr 256 (fun j => Value.bool (BitVec.getLsbD s j))).toArray) []) := Does.ofPure (from_pure s)
theorem hasLit_does : Does Try.prog 13 [.agg [Value.int .u64 0, Value.int .u64 0, Value.int .u64 0, Value.int .u64 9223372036854775808].toArray, .int .u8 255] [] [] (Ret (.bool true) []) := by
  have h := has_does (mkS fun i => i == 255) 255 ⟨by decide, by decide⟩
  have e : wl (mkS fun i => i == 255) = [Value.int .u64 0, Value.int .u64 0, Value.int .u64 0, Value.int .u64 9223372036854775808] := by kernel_rfl
  have e2 : BitVec.getLsbD (mkS fun i => i == 255) (255 : Int).toNat = true := by kernel_rfl
  rw [e, e2] at h; exact h

def lalg_vc (x : CS) (y : CS) (K : Bool → Prop) : Prop :=
  ∃ (Inv : Int → Int → Prop) (mu : Int → Int → Nat),
    Inv 0 0 ∧ ∀ (count_3' : Int) (i_1' : Int), Inv count_3' i_1' →
      (if (decide (i_1' < 256)) = true then
        ∃ (J0_2' : Int → Prop),
          (∀ (count_4' : Int), J0_2' count_4' →
            (0 ≤ (IntKind.wrap .u8 i_1') ∧ (IntKind.wrap .u8 i_1') < 256) ∧
            (0 ≤ i_1' ∧ i_1' < 256) ∧
            ((!((BitVec.getLsbD x (IntKind.wrap .u8 i_1').toNat) == ((BitVec.getLsbD x) ((i_1').toNat)))) = false → (0 ≤ (IntKind.wrap .u8 i_1') ∧ (IntKind.wrap .u8 i_1') < 256) ∧ (0 ≤ i_1' ∧ i_1' < 256) ∧ (((BitVec.getLsbD x) ((i_1').toNat)) = false → (0 ≤ i_1' ∧ i_1' < 256))) ∧
            (((!((BitVec.getLsbD x (IntKind.wrap .u8 i_1').toNat) == ((BitVec.getLsbD x) ((i_1').toNat)))) || (!((BitVec.getLsbD (x ||| y) (IntKind.wrap .u8 i_1').toNat) == (((BitVec.getLsbD x) ((i_1').toNat)) || ((BitVec.getLsbD y) ((i_1').toNat)))))) = false → (0 ≤ (IntKind.wrap .u8 i_1') ∧ (IntKind.wrap .u8 i_1') < 256) ∧ (0 ≤ i_1' ∧ i_1' < 256) ∧ (((BitVec.getLsbD x) ((i_1').toNat)) = true → (0 ≤ i_1' ∧ i_1' < 256))) ∧
            (if (((!((BitVec.getLsbD x (IntKind.wrap .u8 i_1').toNat) == ((BitVec.getLsbD x) ((i_1').toNat)))) || (!((BitVec.getLsbD (x ||| y) (IntKind.wrap .u8 i_1').toNat) == (((BitVec.getLsbD x) ((i_1').toNat)) || ((BitVec.getLsbD y) ((i_1').toNat)))))) || (!((BitVec.getLsbD (x &&& y) (IntKind.wrap .u8 i_1').toNat) == (((BitVec.getLsbD x) ((i_1').toNat)) && ((BitVec.getLsbD y) ((i_1').toNat)))))) = true then
              K false
            else
              (0 ≤ (IntKind.wrap .u8 i_1') ∧ (IntKind.wrap .u8 i_1') < 256) ∧
              (0 ≤ i_1' ∧ i_1' < 256) ∧
              (((BitVec.getLsbD x) ((i_1').toNat)) = true → (0 ≤ i_1' ∧ i_1' < 256)) ∧
              ((!((BitVec.getLsbD (x &&& ~~~ y) (IntKind.wrap .u8 i_1').toNat) == (((BitVec.getLsbD x) ((i_1').toNat)) && (!((BitVec.getLsbD y) ((i_1').toNat)))))) = false → (0 ≤ (IntKind.wrap .u8 i_1') ∧ (IntKind.wrap .u8 i_1') < 256) ∧ (0 ≤ i_1' ∧ i_1' < 256)) ∧
              (if ((!((BitVec.getLsbD (x &&& ~~~ y) (IntKind.wrap .u8 i_1').toNat) == (((BitVec.getLsbD x) ((i_1').toNat)) && (!((BitVec.getLsbD y) ((i_1').toNat)))))) || ((BitVec.getLsbD (~~~ x) (IntKind.wrap .u8 i_1').toNat) == ((BitVec.getLsbD x) ((i_1').toNat)))) = true then
                K false
              else
                (I64 (i_1' + 1)) ∧
                Inv count_4' (i_1' + 1) ∧ mu count_4' (i_1' + 1) < mu count_3' i_1'))) ∧
          (0 ≤ i_1' ∧ i_1' < 256) ∧
          (if ((BitVec.getLsbD x) ((i_1').toNat)) = true then
            (I64 (count_3' + 1)) ∧
            J0_2' (count_3' + 1)
          else
            J0_2' count_3')
      else
        ((decide ((countS x : Int) = count_3')) = true → (I64 ((countS x : Int) + (countS (~~~ x) : Int)))) ∧
        (((decide ((countS x : Int) = count_3')) && (decide ((countS x : Int) + (countS (~~~ x) : Int) = 256))) = true → (I64 ((countS (x ||| y) : Int) + (countS (x &&& y) : Int))) ∧ (I64 ((countS x : Int) + (countS y : Int)))) ∧
        K (((decide ((countS x : Int) = count_3')) && (decide ((countS x : Int) + (countS (~~~ x) : Int) = 256))) && (decide ((countS (x ||| y) : Int) + (countS (x &&& y) : Int) = (countS x : Int) + (countS y : Int)))))
set_option maxRecDepth 100000 in
theorem lalg_wp  (x : CS) (y : CS) (K : Bool → Prop) (h : lalg_vc x y K) :
    Does Try.prog 6 [Value.agg (wl x).toArray, Value.agg (wl y).toArray] [] [] (fun o => (∃ (v : Bool), K v ∧ o = .ret (Value.bool v) []) ∨ (False)) := by
  unfold lalg_vc at h
  refine does_of_wc (n := 129) (L0 := [(0, Value.agg (wl x).toArray), (1, Value.agg (wl y).toArray)]) Try.func6 rfl rfl rfl rfl (fun w0 M Q hE => ?_)
  refine wc_seq (fun K0 hK => ?_)
  refine wc_region ?_
  refine WL.make (MV.box (cs := wl x) rfl rfl) rfl rfl rfl (fun b => ?_)
  refine WL.make (MV.box (cs := wl y) rfl rfl) rfl rfl rfl (fun b_1' => ?_)
  refine WL.val (OV.assign rfl) rfl rfl rfl ?_
  refine WL.nil ?_
  refine KX.go (hK [(2, Value.pointer (some ⟨b, 0, none⟩)), (3, Value.pointer (some ⟨b_1', 0, none⟩))] _ ?_) ⟨rfl, rfl, trivial⟩
  refine wc_seq (fun K0_1' hK_1' => ?_)
  refine wc_seq (fun K0_2' hK_2' => ?_)
  refine wc_region ?_
  refine WL.val (OV.build rfl (cs := [Value.int .u64 0, Value.int .u64 0, Value.int .u64 0, Value.int .u64 9223372036854775808]) rfl) rfl rfl rfl ?_
  refine WL.call (A := []) tf_ent_13 rfl (hasLit_does) rfl trivial rfl rfl ?_
  refine WL.val (OV.not rfl) rfl rfl rfl ?_
  refine WL.nil ?_
  refine KX.go (hK_2' [(2, Value.pointer (some ⟨b, 0, none⟩)), (3, Value.pointer (some ⟨b_1', 0, none⟩)), (18, Value.bool false)] _ ?_) ⟨rfl, rfl, rfl, trivial⟩
  refine wc_condF rfl ?_
  refine wc_skip ?_
  refine KX.go (hK_1' [(2, Value.pointer (some ⟨b, 0, none⟩)), (3, Value.pointer (some ⟨b_1', 0, none⟩))] _ ?_) ⟨rfl, rfl, trivial⟩
  refine wc_seq (fun K0_3' hK_3' => ?_)
  refine wc_draw_st [(2, .cells (wl cs0).toArray 26 (0, 0)), (3, .cells (wl cs0).toArray 26 (0, 0))] [(4, 2, .cells (wl x).toArray 26 (0, 0)), (5, 3, .cells (wl y).toArray 26 (0, 0))] tf_mixed (by kernel_rfl) rfl rfl (fun T hT => ?_)
  refine FS.val (fun _ => OV.loadR rfl (At.own 1 rfl) tf_row_23) rfl rfl (fun _ => rfl) rfl rfl ?_
  refine FS.val (fun _ => OV.loadR rfl (At.own 0 rfl) tf_row_23) rfl rfl (fun _ => rfl) rfl rfl ?_
  refine FS.make (fun _ => MV.alloc tf_zero_26) rfl rfl (fun _ => rfl) rfl rfl ?_
  refine FS.make (fun _ => MV.alloc tf_zero_26) rfl rfl (fun _ => rfl) rfl rfl ?_
  refine FS.storeW (cs := wl cs0) (vs := wl x) (n := 4) (fun _ => rfl) (fun _ => rfl) rfl rfl rfl rfl rfl rfl tf_size_26 rfl rfl (fun _ => rfl) ?_
  refine FS.storeW (cs := wl cs0) (vs := wl y) (n := 4) (fun _ => rfl) (fun _ => rfl) rfl rfl rfl rfl rfl rfl tf_size_26 rfl rfl (fun _ => rfl) ?_
  refine FS.weak (L' := fun γ => [(2, Value.pointer (some ⟨b, 0, none⟩)), (3, Value.pointer (some ⟨b_1', 0, none⟩)), (5, Value.pointer (some ⟨(γ 2), 0, none⟩)), (6, Value.pointer (some ⟨(γ 3), 0, none⟩))]) (fun γ => ⟨rfl, rfl, rfl, rfl, trivial⟩) (FS.nil (hT (fun γ => [(2, Value.pointer (some ⟨b, 0, none⟩)), (3, Value.pointer (some ⟨b_1', 0, none⟩)), (5, Value.pointer (some ⟨(γ 2), 0, none⟩)), (6, Value.pointer (some ⟨(γ 3), 0, none⟩))]) (fun γ => ?_)))
  show QX _ _ _ [(2, Value.pointer (some ⟨b, 0, none⟩)), (3, Value.pointer (some ⟨b_1', 0, none⟩)), (5, Value.pointer (some ⟨(γ 2), 0, none⟩)), (6, Value.pointer (some ⟨(γ 3), 0, none⟩))] [HA.blk (γ 2) (.cells (wl x).toArray 26 (0, 0)), HA.blk (γ 3) (.cells (wl y).toArray 26 (0, 0)), HA.blk b_1' (.cells (wl y).toArray 23 (0, 0)), HA.blk b (.cells (wl x).toArray 23 (0, 0))]
  generalize γ 2 = b_2'
  generalize γ 3 = b_3'
  refine KX.go (hK_3' [(2, Value.pointer (some ⟨b, 0, none⟩)), (3, Value.pointer (some ⟨b_1', 0, none⟩)), (5, Value.pointer (some ⟨b_2', 0, none⟩)), (6, Value.pointer (some ⟨b_3', 0, none⟩))] _ ?_) ⟨rfl, rfl, rfl, rfl, trivial⟩
  refine wc_seq (fun K0_4' hK_4' => ?_)
  refine wc_draw 15 [(11, .cells (wl cs0).toArray 26 (0, 0)), (12, .cells (wl cs0).toArray 26 (0, 0)), (13, .cells (wl cs0).toArray 26 (0, 0)), (14, .cells (wl cs0).toArray 26 (0, 0))] tf_mixed (by kernel_rfl) rfl (fun T_1' hT_1' => ?_)
  refine FL.val (fun _ => OV.loadR rfl (At.own 0 rfl) tf_row_26) rfl (fun _ => rfl) rfl rfl ?_
  refine FL.val (fun _ => OV.loadR rfl (At.own 1 rfl) tf_row_26) rfl (fun _ => rfl) rfl rfl ?_
  refine FL.call tf_ent_16 (fun _ => rfl) (union_does x y) trivial rfl (fun _ => rfl) rfl ?_
  refine FL.val (fun _ => OV.loadR rfl (At.own 0 rfl) tf_row_26) rfl (fun _ => rfl) rfl rfl ?_
  refine FL.val (fun _ => OV.loadR rfl (At.own 1 rfl) tf_row_26) rfl (fun _ => rfl) rfl rfl ?_
  refine FL.call tf_ent_17 (fun _ => rfl) (meet_does x y) trivial rfl (fun _ => rfl) rfl ?_
  refine FL.val (fun _ => OV.loadR rfl (At.own 0 rfl) tf_row_26) rfl (fun _ => rfl) rfl rfl ?_
  refine FL.val (fun _ => OV.loadR rfl (At.own 1 rfl) tf_row_26) rfl (fun _ => rfl) rfl rfl ?_
  refine FL.call tf_ent_18 (fun _ => rfl) (minus_does x y) trivial rfl (fun _ => rfl) rfl ?_
  refine FL.val (fun _ => OV.loadR rfl (At.own 0 rfl) tf_row_26) rfl (fun _ => rfl) rfl rfl ?_
  refine FL.call tf_ent_19 (fun _ => rfl) (not_does x) trivial rfl (fun _ => rfl) rfl ?_
  refine FL.make (fun _ => MV.alloc tf_zero_26) rfl (fun _ => rfl) rfl rfl ?_
  refine FL.make (fun _ => MV.alloc tf_zero_26) rfl (fun _ => rfl) rfl rfl ?_
  refine FL.make (fun _ => MV.alloc tf_zero_26) rfl (fun _ => rfl) rfl rfl ?_
  refine FL.make (fun _ => MV.alloc tf_zero_26) rfl (fun _ => rfl) rfl rfl ?_
  refine FL.weak (L' := fun γ => [(2, Value.pointer (some ⟨b, 0, none⟩)), (3, Value.pointer (some ⟨b_1', 0, none⟩)), (5, Value.pointer (some ⟨b_2', 0, none⟩)), (6, Value.pointer (some ⟨b_3', 0, none⟩)), (7, Value.pointer (some ⟨(γ 11), 0, none⟩)), (8, Value.pointer (some ⟨(γ 12), 0, none⟩)), (9, Value.pointer (some ⟨(γ 13), 0, none⟩)), (10, Value.pointer (some ⟨(γ 14), 0, none⟩)), (23, Value.agg (wl (x ||| y)).toArray), (26, Value.agg (wl (x &&& y)).toArray), (29, Value.agg (wl (x &&& ~~~ y)).toArray), (31, Value.agg (wl (~~~ x)).toArray)]) (fun γ => ⟨rfl, rfl, rfl, rfl, rfl, rfl, rfl, rfl, rfl, rfl, rfl, rfl, trivial⟩) (FL.nil (hT_1' (fun γ => [(2, Value.pointer (some ⟨b, 0, none⟩)), (3, Value.pointer (some ⟨b_1', 0, none⟩)), (5, Value.pointer (some ⟨b_2', 0, none⟩)), (6, Value.pointer (some ⟨b_3', 0, none⟩)), (7, Value.pointer (some ⟨(γ 11), 0, none⟩)), (8, Value.pointer (some ⟨(γ 12), 0, none⟩)), (9, Value.pointer (some ⟨(γ 13), 0, none⟩)), (10, Value.pointer (some ⟨(γ 14), 0, none⟩)), (23, Value.agg (wl (x ||| y)).toArray), (26, Value.agg (wl (x &&& y)).toArray), (29, Value.agg (wl (x &&& ~~~ y)).toArray), (31, Value.agg (wl (~~~ x)).toArray)]) (fun γ => ?_)))
  show WL _ _ _ _ [(2, Value.pointer (some ⟨b, 0, none⟩)), (3, Value.pointer (some ⟨b_1', 0, none⟩)), (5, Value.pointer (some ⟨b_2', 0, none⟩)), (6, Value.pointer (some ⟨b_3', 0, none⟩)), (7, Value.pointer (some ⟨(γ 11), 0, none⟩)), (8, Value.pointer (some ⟨(γ 12), 0, none⟩)), (9, Value.pointer (some ⟨(γ 13), 0, none⟩)), (10, Value.pointer (some ⟨(γ 14), 0, none⟩)), (23, Value.agg (wl (x ||| y)).toArray), (26, Value.agg (wl (x &&& y)).toArray), (29, Value.agg (wl (x &&& ~~~ y)).toArray), (31, Value.agg (wl (~~~ x)).toArray)] [HA.blk (γ 11) (.cells (wl cs0).toArray 26 (0, 0)), HA.blk (γ 12) (.cells (wl cs0).toArray 26 (0, 0)), HA.blk (γ 13) (.cells (wl cs0).toArray 26 (0, 0)), HA.blk (γ 14) (.cells (wl cs0).toArray 26 (0, 0)), HA.blk b_2' (.cells (wl x).toArray 26 (0, 0)), HA.blk b_3' (.cells (wl y).toArray 26 (0, 0)), HA.blk b_1' (.cells (wl y).toArray 23 (0, 0)), HA.blk b (.cells (wl x).toArray 23 (0, 0))] _
  generalize γ 11 = b_4'
  generalize γ 12 = b_5'
  generalize γ 13 = b_6'
  generalize γ 14 = b_7'
  refine WL.storeW (vs := wl (x ||| y)) 0 rfl rfl rfl rfl rfl tf_size_26 rfl rfl rfl ?_
  refine WL.storeW (vs := wl (x &&& y)) 1 rfl rfl rfl rfl rfl tf_size_26 rfl rfl rfl ?_
  refine WL.storeW (vs := wl (x &&& ~~~ y)) 2 rfl rfl rfl rfl rfl tf_size_26 rfl rfl rfl ?_
  refine WL.storeW (vs := wl (~~~ x)) 3 rfl rfl rfl rfl rfl tf_size_26 rfl rfl rfl ?_
  refine WL.nil ?_
  refine KX.go (hK_4' [(2, Value.pointer (some ⟨b, 0, none⟩)), (3, Value.pointer (some ⟨b_1', 0, none⟩)), (5, Value.pointer (some ⟨b_2', 0, none⟩)), (6, Value.pointer (some ⟨b_3', 0, none⟩)), (7, Value.pointer (some ⟨b_4', 0, none⟩)), (8, Value.pointer (some ⟨b_5', 0, none⟩)), (9, Value.pointer (some ⟨b_6', 0, none⟩)), (10, Value.pointer (some ⟨b_7', 0, none⟩))] _ ?_) ⟨rfl, rfl, rfl, rfl, rfl, rfl, rfl, rfl, trivial⟩
  refine wc_seq (fun K0_5' hK_5' => ?_)
  refine wc_draw 6 [(4, .cells (arr 256 (fun j => Value.bool ((fun _ => false) j))).toArray 28 (0, 0)), (5, .cells (arr 256 (fun j => Value.bool ((fun _ => false) j))).toArray 28 (0, 0))] tf_mixed (by kernel_rfl) rfl (fun T_2' hT_2' => ?_)
  refine FL.val (fun _ => OV.loadR rfl (At.own 7 rfl) tf_row_23) rfl (fun _ => rfl) rfl rfl ?_
  refine FL.call tf_ent_10 (fun _ => rfl) (from_does x) trivial rfl (fun _ => rfl) rfl ?_
  refine FL.val (fun _ => OV.loadR rfl (At.own 6 rfl) tf_row_23) rfl (fun _ => rfl) rfl rfl ?_
  refine FL.call tf_ent_10 (fun _ => rfl) (from_does y) trivial rfl (fun _ => rfl) rfl ?_
  refine FL.make (fun _ => MV.alloc tf_zero_28) rfl (fun _ => rfl) rfl rfl ?_
  refine FL.make (fun _ => MV.alloc tf_zero_28) rfl (fun _ => rfl) rfl rfl ?_
  refine FL.weak (L' := fun γ => [(5, Value.pointer (some ⟨b_2', 0, none⟩)), (6, Value.pointer (some ⟨b_3', 0, none⟩)), (7, Value.pointer (some ⟨b_4', 0, none⟩)), (8, Value.pointer (some ⟨b_5', 0, none⟩)), (9, Value.pointer (some ⟨b_6', 0, none⟩)), (10, Value.pointer (some ⟨b_7', 0, none⟩)), (11, Value.pointer (some ⟨(γ 4), 0, none⟩)), (12, Value.pointer (some ⟨(γ 5), 0, none⟩)), (33, Value.agg (arr 256 (fun j => Value.bool ((BitVec.getLsbD x) j))).toArray), (35, Value.agg (arr 256 (fun j => Value.bool ((BitVec.getLsbD y) j))).toArray)]) (fun γ => ⟨rfl, rfl, rfl, rfl, rfl, rfl, rfl, rfl, rfl, rfl, trivial⟩) (FL.nil (hT_2' (fun γ => [(5, Value.pointer (some ⟨b_2', 0, none⟩)), (6, Value.pointer (some ⟨b_3', 0, none⟩)), (7, Value.pointer (some ⟨b_4', 0, none⟩)), (8, Value.pointer (some ⟨b_5', 0, none⟩)), (9, Value.pointer (some ⟨b_6', 0, none⟩)), (10, Value.pointer (some ⟨b_7', 0, none⟩)), (11, Value.pointer (some ⟨(γ 4), 0, none⟩)), (12, Value.pointer (some ⟨(γ 5), 0, none⟩)), (33, Value.agg (arr 256 (fun j => Value.bool ((BitVec.getLsbD x) j))).toArray), (35, Value.agg (arr 256 (fun j => Value.bool ((BitVec.getLsbD y) j))).toArray)]) (fun γ => ?_)))
  show WL _ _ _ _ [(5, Value.pointer (some ⟨b_2', 0, none⟩)), (6, Value.pointer (some ⟨b_3', 0, none⟩)), (7, Value.pointer (some ⟨b_4', 0, none⟩)), (8, Value.pointer (some ⟨b_5', 0, none⟩)), (9, Value.pointer (some ⟨b_6', 0, none⟩)), (10, Value.pointer (some ⟨b_7', 0, none⟩)), (11, Value.pointer (some ⟨(γ 4), 0, none⟩)), (12, Value.pointer (some ⟨(γ 5), 0, none⟩)), (33, Value.agg (arr 256 (fun j => Value.bool ((BitVec.getLsbD x) j))).toArray), (35, Value.agg (arr 256 (fun j => Value.bool ((BitVec.getLsbD y) j))).toArray)] [HA.blk (γ 4) (.cells (arr 256 (fun j => Value.bool ((fun _ => false) j))).toArray 28 (0, 0)), HA.blk (γ 5) (.cells (arr 256 (fun j => Value.bool ((fun _ => false) j))).toArray 28 (0, 0)), HA.blk b_4' (.cells (wl (x ||| y)).toArray 26 (0, 0)), HA.blk b_5' (.cells (wl (x &&& y)).toArray 26 (0, 0)), HA.blk b_6' (.cells (wl (x &&& ~~~ y)).toArray 26 (0, 0)), HA.blk b_7' (.cells (wl (~~~ x)).toArray 26 (0, 0)), HA.blk b_2' (.cells (wl x).toArray 26 (0, 0)), HA.blk b_3' (.cells (wl y).toArray 26 (0, 0)), HA.blk b_1' (.cells (wl y).toArray 23 (0, 0)), HA.blk b (.cells (wl x).toArray 23 (0, 0))] _
  generalize γ 4 = b_8'
  generalize γ 5 = b_9'
  refine WL.storeW (vs := arr 256 (fun j => Value.bool ((BitVec.getLsbD x) j))) 0 rfl rfl rfl rfl (arr_length _ _) tf_size_28 ((arr_length _ _).trans (arr_length _ _).symm) (arr_one _ _ (fun _ => rfl)) rfl ?_
  refine WL.storeW (vs := arr 256 (fun j => Value.bool ((BitVec.getLsbD y) j))) 1 rfl rfl rfl rfl (arr_length _ _) tf_size_28 ((arr_length _ _).trans (arr_length _ _).symm) (arr_one _ _ (fun _ => rfl)) rfl ?_
  refine WL.nil ?_
  refine KX.go (hK_5' [(5, Value.pointer (some ⟨b_2', 0, none⟩)), (6, Value.pointer (some ⟨b_3', 0, none⟩)), (7, Value.pointer (some ⟨b_4', 0, none⟩)), (8, Value.pointer (some ⟨b_5', 0, none⟩)), (9, Value.pointer (some ⟨b_6', 0, none⟩)), (10, Value.pointer (some ⟨b_7', 0, none⟩)), (11, Value.pointer (some ⟨b_8', 0, none⟩)), (12, Value.pointer (some ⟨b_9', 0, none⟩))] _ ?_) ⟨rfl, rfl, rfl, rfl, rfl, rfl, rfl, rfl, trivial⟩
  refine wc_seq (fun K0_6' hK_6' => ?_)
  refine wc_region ?_
  refine WL.val (OV.assign rfl) rfl rfl rfl ?_
  refine WL.nil ?_
  refine KX.go (hK_6' [(5, Value.pointer (some ⟨b_2', 0, none⟩)), (6, Value.pointer (some ⟨b_3', 0, none⟩)), (7, Value.pointer (some ⟨b_4', 0, none⟩)), (8, Value.pointer (some ⟨b_5', 0, none⟩)), (9, Value.pointer (some ⟨b_6', 0, none⟩)), (10, Value.pointer (some ⟨b_7', 0, none⟩)), (11, Value.pointer (some ⟨b_8', 0, none⟩)), (12, Value.pointer (some ⟨b_9', 0, none⟩)), (13, Value.int .i64 0)] _ ?_) ⟨rfl, rfl, rfl, rfl, rfl, rfl, rfl, rfl, rfl, trivial⟩
  refine wc_seq (fun K0_7' hK_7' => ?_)
  refine wc_seq (fun K0_8' hK_8' => ?_)
  refine wc_region ?_
  refine WL.val (OV.assign rfl) rfl rfl rfl ?_
  refine WL.nil ?_
  refine KX.go (hK_8' [(5, Value.pointer (some ⟨b_2', 0, none⟩)), (6, Value.pointer (some ⟨b_3', 0, none⟩)), (7, Value.pointer (some ⟨b_4', 0, none⟩)), (8, Value.pointer (some ⟨b_5', 0, none⟩)), (9, Value.pointer (some ⟨b_6', 0, none⟩)), (10, Value.pointer (some ⟨b_7', 0, none⟩)), (11, Value.pointer (some ⟨b_8', 0, none⟩)), (12, Value.pointer (some ⟨b_9', 0, none⟩)), (13, Value.int .i64 0), (14, Value.int .i64 0)] _ ?_) ⟨rfl, rfl, rfl, rfl, rfl, rfl, rfl, rfl, rfl, rfl, trivial⟩
  refine wc_block ?_
  obtain ⟨Inv, mu, h0, hr⟩ := h
  refine wc_loop (S := Int × Int) (fun σ => Inv σ.1 σ.2) (fun σ => mu σ.1 σ.2) (fun σ => [(5, Value.pointer (some ⟨b_2', 0, none⟩)), (6, Value.pointer (some ⟨b_3', 0, none⟩)), (7, Value.pointer (some ⟨b_4', 0, none⟩)), (8, Value.pointer (some ⟨b_5', 0, none⟩)), (9, Value.pointer (some ⟨b_6', 0, none⟩)), (10, Value.pointer (some ⟨b_7', 0, none⟩)), (11, Value.pointer (some ⟨b_8', 0, none⟩)), (12, Value.pointer (some ⟨b_9', 0, none⟩)), (13, Value.int .i64 σ.1), (14, Value.int .i64 σ.2)]) (fun σ => [HA.blk b_8' (.cells (arr 256 (fun j => Value.bool ((BitVec.getLsbD x) j))).toArray 28 (0, 0)), HA.blk b_9' (.cells (arr 256 (fun j => Value.bool ((BitVec.getLsbD y) j))).toArray 28 (0, 0)), HA.blk b_4' (.cells (wl (x ||| y)).toArray 26 (0, 0)), HA.blk b_5' (.cells (wl (x &&& y)).toArray 26 (0, 0)), HA.blk b_6' (.cells (wl (x &&& ~~~ y)).toArray 26 (0, 0)), HA.blk b_7' (.cells (wl (~~~ x)).toArray 26 (0, 0)), HA.blk b_2' (.cells (wl x).toArray 26 (0, 0)), HA.blk b_3' (.cells (wl y).toArray 26 (0, 0)), HA.blk b_1' (.cells (wl y).toArray 23 (0, 0)), HA.blk b (.cells (wl x).toArray 23 (0, 0))]) (0, 0) h0 ⟨rfl, rfl, rfl, rfl, rfl, rfl, rfl, rfl, rfl, rfl, trivial⟩ rfl ?_
  rintro ⟨count_3', i_1'⟩ hi K0_45' hK_45'
  have h := hr count_3' i_1' hi
  show WC _ _ _ _ [(5, Value.pointer (some ⟨b_2', 0, none⟩)), (6, Value.pointer (some ⟨b_3', 0, none⟩)), (7, Value.pointer (some ⟨b_4', 0, none⟩)), (8, Value.pointer (some ⟨b_5', 0, none⟩)), (9, Value.pointer (some ⟨b_6', 0, none⟩)), (10, Value.pointer (some ⟨b_7', 0, none⟩)), (11, Value.pointer (some ⟨b_8', 0, none⟩)), (12, Value.pointer (some ⟨b_9', 0, none⟩)), (13, Value.int .i64 count_3'), (14, Value.int .i64 i_1')] [HA.blk b_8' (.cells (arr 256 (fun j => Value.bool ((BitVec.getLsbD x) j))).toArray 28 (0, 0)), HA.blk b_9' (.cells (arr 256 (fun j => Value.bool ((BitVec.getLsbD y) j))).toArray 28 (0, 0)), HA.blk b_4' (.cells (wl (x ||| y)).toArray 26 (0, 0)), HA.blk b_5' (.cells (wl (x &&& y)).toArray 26 (0, 0)), HA.blk b_6' (.cells (wl (x &&& ~~~ y)).toArray 26 (0, 0)), HA.blk b_7' (.cells (wl (~~~ x)).toArray 26 (0, 0)), HA.blk b_2' (.cells (wl x).toArray 26 (0, 0)), HA.blk b_3' (.cells (wl y).toArray 26 (0, 0)), HA.blk b_1' (.cells (wl y).toArray 23 (0, 0)), HA.blk b (.cells (wl x).toArray 23 (0, 0))]
  refine wc_seq (fun K0_46' hK_46' => ?_)
  refine wc_seq (fun K0_47' hK_47' => ?_)
  refine wc_region ?_
  refine WL.val (OV.move rfl) rfl rfl rfl ?_
  refine WL.val (OV.lss rfl rfl) rfl rfl rfl ?_
  refine WL.nil ?_
  refine KX.go (hK_47' [(5, Value.pointer (some ⟨b_2', 0, none⟩)), (6, Value.pointer (some ⟨b_3', 0, none⟩)), (7, Value.pointer (some ⟨b_4', 0, none⟩)), (8, Value.pointer (some ⟨b_5', 0, none⟩)), (9, Value.pointer (some ⟨b_6', 0, none⟩)), (10, Value.pointer (some ⟨b_7', 0, none⟩)), (11, Value.pointer (some ⟨b_8', 0, none⟩)), (12, Value.pointer (some ⟨b_9', 0, none⟩)), (13, Value.int .i64 count_3'), (14, Value.int .i64 i_1'), (37, Value.bool (decide (i_1' < 256)))] _ ?_) ⟨rfl, rfl, rfl, rfl, rfl, rfl, rfl, rfl, rfl, rfl, rfl, trivial⟩
  refine wc_cond (b := decide (i_1' < 256)) rfl (fun hb => ?_) (fun hb => ?_)
  · replace h := if_T h hb
    refine wc_skip ?_
    refine KX.go (hK_46' [(5, Value.pointer (some ⟨b_2', 0, none⟩)), (6, Value.pointer (some ⟨b_3', 0, none⟩)), (7, Value.pointer (some ⟨b_4', 0, none⟩)), (8, Value.pointer (some ⟨b_5', 0, none⟩)), (9, Value.pointer (some ⟨b_6', 0, none⟩)), (10, Value.pointer (some ⟨b_7', 0, none⟩)), (11, Value.pointer (some ⟨b_8', 0, none⟩)), (12, Value.pointer (some ⟨b_9', 0, none⟩)), (13, Value.int .i64 count_3'), (14, Value.int .i64 i_1')] _ ?_) ⟨rfl, rfl, rfl, rfl, rfl, rfl, rfl, rfl, rfl, rfl, trivial⟩
    refine wc_seq (fun K0_48' hK_48' => ?_)
    refine wc_block ?_
    refine wc_seq (fun K0_49' hK_49' => ?_)
    refine wc_region ?_
    refine WL.val (OV.move rfl) rfl rfl rfl ?_
    refine WL.val (OV.conv rfl tf_some_3 Try.underlying5) rfl rfl rfl ?_
    refine WL.val (OV.assign rfl) rfl rfl rfl ?_
    refine WL.nil ?_
    refine KX.go (hK_49' [(5, Value.pointer (some ⟨b_2', 0, none⟩)), (6, Value.pointer (some ⟨b_3', 0, none⟩)), (7, Value.pointer (some ⟨b_4', 0, none⟩)), (8, Value.pointer (some ⟨b_5', 0, none⟩)), (9, Value.pointer (some ⟨b_6', 0, none⟩)), (10, Value.pointer (some ⟨b_7', 0, none⟩)), (11, Value.pointer (some ⟨b_8', 0, none⟩)), (12, Value.pointer (some ⟨b_9', 0, none⟩)), (13, Value.int .i64 count_3'), (14, Value.int .i64 i_1'), (15, Value.int .u8 (IntKind.wrap .u8 i_1'))] _ ?_) ⟨rfl, rfl, rfl, rfl, rfl, rfl, rfl, rfl, rfl, rfl, rfl, trivial⟩
    obtain ⟨J0_2', hJ_2', h⟩ := h
    refine wc_seqJ (X := Int) (fun σ => J0_2' σ) (fun σ => [(5, Value.pointer (some ⟨b_2', 0, none⟩)), (6, Value.pointer (some ⟨b_3', 0, none⟩)), (7, Value.pointer (some ⟨b_4', 0, none⟩)), (8, Value.pointer (some ⟨b_5', 0, none⟩)), (9, Value.pointer (some ⟨b_6', 0, none⟩)), (10, Value.pointer (some ⟨b_7', 0, none⟩)), (11, Value.pointer (some ⟨b_8', 0, none⟩)), (12, Value.pointer (some ⟨b_9', 0, none⟩)), (13, Value.int .i64 σ), (14, Value.int .i64 i_1'), (15, Value.int .u8 (IntKind.wrap .u8 i_1'))]) (fun σ => [HA.blk b_8' (.cells (arr 256 (fun j => Value.bool ((BitVec.getLsbD x) j))).toArray 28 (0, 0)), HA.blk b_9' (.cells (arr 256 (fun j => Value.bool ((BitVec.getLsbD y) j))).toArray 28 (0, 0)), HA.blk b_4' (.cells (wl (x ||| y)).toArray 26 (0, 0)), HA.blk b_5' (.cells (wl (x &&& y)).toArray 26 (0, 0)), HA.blk b_6' (.cells (wl (x &&& ~~~ y)).toArray 26 (0, 0)), HA.blk b_7' (.cells (wl (~~~ x)).toArray 26 (0, 0)), HA.blk b_2' (.cells (wl x).toArray 26 (0, 0)), HA.blk b_3' (.cells (wl y).toArray 26 (0, 0)), HA.blk b_1' (.cells (wl y).toArray 23 (0, 0)), HA.blk b (.cells (wl x).toArray 23 (0, 0))]) ?_ (fun K0_51' hK_51' => ?_)
    · rintro count_4' hj
      replace h := hJ_2' count_4' hj
      show WC _ _ _ _ [(5, Value.pointer (some ⟨b_2', 0, none⟩)), (6, Value.pointer (some ⟨b_3', 0, none⟩)), (7, Value.pointer (some ⟨b_4', 0, none⟩)), (8, Value.pointer (some ⟨b_5', 0, none⟩)), (9, Value.pointer (some ⟨b_6', 0, none⟩)), (10, Value.pointer (some ⟨b_7', 0, none⟩)), (11, Value.pointer (some ⟨b_8', 0, none⟩)), (12, Value.pointer (some ⟨b_9', 0, none⟩)), (13, Value.int .i64 count_4'), (14, Value.int .i64 i_1'), (15, Value.int .u8 (IntKind.wrap .u8 i_1'))] [HA.blk b_8' (.cells (arr 256 (fun j => Value.bool ((BitVec.getLsbD x) j))).toArray 28 (0, 0)), HA.blk b_9' (.cells (arr 256 (fun j => Value.bool ((BitVec.getLsbD y) j))).toArray 28 (0, 0)), HA.blk b_4' (.cells (wl (x ||| y)).toArray 26 (0, 0)), HA.blk b_5' (.cells (wl (x &&& y)).toArray 26 (0, 0)), HA.blk b_6' (.cells (wl (x &&& ~~~ y)).toArray 26 (0, 0)), HA.blk b_7' (.cells (wl (~~~ x)).toArray 26 (0, 0)), HA.blk b_2' (.cells (wl x).toArray 26 (0, 0)), HA.blk b_3' (.cells (wl y).toArray 26 (0, 0)), HA.blk b_1' (.cells (wl y).toArray 23 (0, 0)), HA.blk b (.cells (wl x).toArray 23 (0, 0))]
      refine wc_seq (fun K0_52' hK_52' => ?_)
      refine wc_seq (fun K0_53' hK_53' => ?_)
      refine wc_draw_all [] tf_mixed (by kernel_rfl) rfl (fun T_7' hT_7' => ?_)
      refine FL.val (fun _ => OV.loadR rfl (At.own 6 rfl) tf_row_26) rfl (fun _ => rfl) rfl rfl ?_
      refine FL.val (fun _ => OV.move rfl) rfl (fun _ => rfl) rfl rfl ?_
      obtain ⟨o_37', h⟩ := h
      refine FL.call tf_ent_13 (fun _ => rfl) (has_does x (IntKind.wrap .u8 i_1') o_37') trivial rfl (fun _ => rfl) rfl ?_
      refine FL.val (fun _ => OV.move rfl) rfl (fun _ => rfl) rfl rfl ?_
      obtain ⟨o_38', h⟩ := h
      refine FL.val (fun _ => OV.indexAddr1 rfl rfl tf_arr_28 o_38') rfl (fun _ => rfl) rfl rfl ?_
      refine FL.val (fun _ => OV.load rfl (At.own 0 rfl) (arr_get (by first | omega | assumption)) tf_scal_4) rfl (fun _ => rfl) rfl rfl ?_
      refine FL.val (fun _ => OV.neqB rfl rfl Try.underlying4) rfl (fun _ => rfl) rfl rfl ?_
      refine FL.val (fun _ => OV.move rfl) rfl (fun _ => rfl) rfl rfl ?_
      obtain ⟨o_43', h⟩ := h
      refine FL.cut 13 rfl (fun _ => [(5, Value.pointer (some ⟨b_2', 0, none⟩)), (6, Value.pointer (some ⟨b_3', 0, none⟩)), (7, Value.pointer (some ⟨b_4', 0, none⟩)), (8, Value.pointer (some ⟨b_5', 0, none⟩)), (9, Value.pointer (some ⟨b_6', 0, none⟩)), (10, Value.pointer (some ⟨b_7', 0, none⟩)), (11, Value.pointer (some ⟨b_8', 0, none⟩)), (12, Value.pointer (some ⟨b_9', 0, none⟩)), (13, Value.int .i64 count_4'), (14, Value.int .i64 i_1'), (15, Value.int .u8 (IntKind.wrap .u8 i_1')), (67, Value.bool ((!((BitVec.getLsbD x (IntKind.wrap .u8 i_1').toNat) == ((BitVec.getLsbD x) ((i_1').toNat)))) || (!((BitVec.getLsbD (x ||| y) (IntKind.wrap .u8 i_1').toNat) == (((BitVec.getLsbD x) ((i_1').toNat)) || ((BitVec.getLsbD y) ((i_1').toNat)))))))]) ?_ (fun K0_55' hK_55' => ?_)
      rotate_left
      · refine FL.split (!((BitVec.getLsbD x (IntKind.wrap .u8 i_1').toNat) == ((BitVec.getLsbD x) ((i_1').toNat)))) (fun hb => ?_) (fun hb => ?_)
        · refine FL.set 54 (fun _ => rfl) (congrArg Value.bool hb) ?_
          refine FL.skip rfl (fun _ => rfl) rfl rfl ?_
          refine FL.skip rfl (fun _ => rfl) rfl rfl ?_
          refine FL.skip rfl (fun _ => rfl) rfl rfl ?_
          refine FL.skip rfl (fun _ => rfl) rfl rfl ?_
          refine FL.skip rfl (fun _ => rfl) rfl rfl ?_
          refine FL.skip rfl (fun _ => rfl) rfl rfl ?_
          refine FL.skip rfl (fun _ => rfl) rfl rfl ?_
          refine FL.skip rfl (fun _ => rfl) rfl rfl ?_
          refine FL.skip rfl (fun _ => rfl) rfl rfl ?_
          refine FL.skip rfl (fun _ => rfl) rfl rfl ?_
          refine FL.skip rfl (fun _ => rfl) rfl rfl ?_
          refine FL.skip rfl (fun _ => rfl) rfl rfl ?_
          refine FL.val (fun _ => OV.pickT rfl rfl) rfl (fun _ => rfl) rfl rfl ?_
          refine FL.set 67 (fun _ => rfl) (oT (v := !((BitVec.getLsbD (x ||| y) (IntKind.wrap .u8 i_1').toNat) == (((BitVec.getLsbD x) ((i_1').toNat)) || ((BitVec.getLsbD y) ((i_1').toNat))))) hb) ?_
          exact FL.weak (L' := fun _ => [(5, Value.pointer (some ⟨b_2', 0, none⟩)), (6, Value.pointer (some ⟨b_3', 0, none⟩)), (7, Value.pointer (some ⟨b_4', 0, none⟩)), (8, Value.pointer (some ⟨b_5', 0, none⟩)), (9, Value.pointer (some ⟨b_6', 0, none⟩)), (10, Value.pointer (some ⟨b_7', 0, none⟩)), (11, Value.pointer (some ⟨b_8', 0, none⟩)), (12, Value.pointer (some ⟨b_9', 0, none⟩)), (13, Value.int .i64 count_4'), (14, Value.int .i64 i_1'), (15, Value.int .u8 (IntKind.wrap .u8 i_1')), (67, Value.bool ((!((BitVec.getLsbD x (IntKind.wrap .u8 i_1').toNat) == ((BitVec.getLsbD x) ((i_1').toNat)))) || (!((BitVec.getLsbD (x ||| y) (IntKind.wrap .u8 i_1').toNat) == (((BitVec.getLsbD x) ((i_1').toNat)) || ((BitVec.getLsbD y) ((i_1').toNat)))))))]) (fun _ => ⟨rfl, rfl, rfl, rfl, rfl, rfl, rfl, rfl, rfl, rfl, rfl, rfl, trivial⟩) (FL.nil hK_55')
        · obtain ⟨o_39', o_40', o_42'⟩ := o_43' hb
          refine FL.set 54 (fun _ => rfl) (congrArg Value.bool hb) ?_
          refine FL.val (fun _ => OV.loadR rfl (At.own 2 rfl) tf_row_26) rfl (fun _ => rfl) rfl rfl ?_
          refine FL.val (fun _ => OV.move rfl) rfl (fun _ => rfl) rfl rfl ?_
          refine FL.call tf_ent_13 (fun _ => rfl) (has_does (x ||| y) (IntKind.wrap .u8 i_1') o_39') trivial rfl (fun _ => rfl) rfl ?_
          refine FL.val (fun _ => OV.move rfl) rfl (fun _ => rfl) rfl rfl ?_
          refine FL.val (fun _ => OV.indexAddr1 rfl rfl tf_arr_28 o_40') rfl (fun _ => rfl) rfl rfl ?_
          refine FL.val (fun _ => OV.load rfl (At.own 0 rfl) (arr_get (by first | omega | assumption)) tf_scal_4) rfl (fun _ => rfl) rfl rfl ?_
          refine FL.val (fun _ => OV.move rfl) rfl (fun _ => rfl) rfl rfl ?_
          refine FL.cut 4 rfl (fun _ => [(5, Value.pointer (some ⟨b_2', 0, none⟩)), (6, Value.pointer (some ⟨b_3', 0, none⟩)), (7, Value.pointer (some ⟨b_4', 0, none⟩)), (8, Value.pointer (some ⟨b_5', 0, none⟩)), (9, Value.pointer (some ⟨b_6', 0, none⟩)), (10, Value.pointer (some ⟨b_7', 0, none⟩)), (11, Value.pointer (some ⟨b_8', 0, none⟩)), (12, Value.pointer (some ⟨b_9', 0, none⟩)), (13, Value.int .i64 count_4'), (14, Value.int .i64 i_1'), (15, Value.int .u8 (IntKind.wrap .u8 i_1')), (54, Value.bool false), (57, Value.bool (BitVec.getLsbD (x ||| y) (IntKind.wrap .u8 i_1').toNat)), (65, Value.bool (((BitVec.getLsbD x) ((i_1').toNat)) || ((BitVec.getLsbD y) ((i_1').toNat))))]) ?_ (fun K0_54' hK_54' => ?_)
          rotate_left
          · refine FL.split ((BitVec.getLsbD x) ((i_1').toNat)) (fun hb => ?_) (fun hb => ?_)
            · refine FL.set 61 (fun _ => rfl) (congrArg Value.bool hb) ?_
              refine FL.skip rfl (fun _ => rfl) rfl rfl ?_
              refine FL.skip rfl (fun _ => rfl) rfl rfl ?_
              refine FL.skip rfl (fun _ => rfl) rfl rfl ?_
              refine FL.val (fun _ => OV.pickT rfl rfl) rfl (fun _ => rfl) rfl rfl ?_
              refine FL.set 65 (fun _ => rfl) (oT (v := (BitVec.getLsbD y) ((i_1').toNat)) hb) ?_
              exact FL.weak (L' := fun _ => [(5, Value.pointer (some ⟨b_2', 0, none⟩)), (6, Value.pointer (some ⟨b_3', 0, none⟩)), (7, Value.pointer (some ⟨b_4', 0, none⟩)), (8, Value.pointer (some ⟨b_5', 0, none⟩)), (9, Value.pointer (some ⟨b_6', 0, none⟩)), (10, Value.pointer (some ⟨b_7', 0, none⟩)), (11, Value.pointer (some ⟨b_8', 0, none⟩)), (12, Value.pointer (some ⟨b_9', 0, none⟩)), (13, Value.int .i64 count_4'), (14, Value.int .i64 i_1'), (15, Value.int .u8 (IntKind.wrap .u8 i_1')), (54, Value.bool false), (57, Value.bool (BitVec.getLsbD (x ||| y) (IntKind.wrap .u8 i_1').toNat)), (65, Value.bool (((BitVec.getLsbD x) ((i_1').toNat)) || ((BitVec.getLsbD y) ((i_1').toNat))))]) (fun _ => ⟨rfl, rfl, rfl, rfl, rfl, rfl, rfl, rfl, rfl, rfl, rfl, rfl, rfl, rfl, trivial⟩) (FL.nil hK_54')
            · have o_41' := o_42' hb
              refine FL.set 61 (fun _ => rfl) (congrArg Value.bool hb) ?_
              refine FL.val (fun _ => OV.move rfl) rfl (fun _ => rfl) rfl rfl ?_
              refine FL.val (fun _ => OV.indexAddr1 rfl rfl tf_arr_28 o_41') rfl (fun _ => rfl) rfl rfl ?_
              refine FL.val (fun _ => OV.load rfl (At.own 1 rfl) (arr_get (by first | omega | assumption)) tf_scal_4) rfl (fun _ => rfl) rfl rfl ?_
              refine FL.val (fun _ => OV.pickF rfl rfl) rfl (fun _ => rfl) rfl rfl ?_
              refine FL.set 65 (fun _ => rfl) (oF (v := (BitVec.getLsbD y) ((i_1').toNat)) hb) ?_
              exact FL.weak (L' := fun _ => [(5, Value.pointer (some ⟨b_2', 0, none⟩)), (6, Value.pointer (some ⟨b_3', 0, none⟩)), (7, Value.pointer (some ⟨b_4', 0, none⟩)), (8, Value.pointer (some ⟨b_5', 0, none⟩)), (9, Value.pointer (some ⟨b_6', 0, none⟩)), (10, Value.pointer (some ⟨b_7', 0, none⟩)), (11, Value.pointer (some ⟨b_8', 0, none⟩)), (12, Value.pointer (some ⟨b_9', 0, none⟩)), (13, Value.int .i64 count_4'), (14, Value.int .i64 i_1'), (15, Value.int .u8 (IntKind.wrap .u8 i_1')), (54, Value.bool false), (57, Value.bool (BitVec.getLsbD (x ||| y) (IntKind.wrap .u8 i_1').toNat)), (65, Value.bool (((BitVec.getLsbD x) ((i_1').toNat)) || ((BitVec.getLsbD y) ((i_1').toNat))))]) (fun _ => ⟨rfl, rfl, rfl, rfl, rfl, rfl, rfl, rfl, rfl, rfl, rfl, rfl, rfl, rfl, trivial⟩) (FL.nil hK_54')
          refine FL.val (fun _ => OV.neqB rfl rfl Try.underlying4) rfl (fun _ => rfl) rfl rfl ?_
          refine FL.val (fun _ => OV.pickF rfl rfl) rfl (fun _ => rfl) rfl rfl ?_
          refine FL.set 67 (fun _ => rfl) (oF (v := !((BitVec.getLsbD (x ||| y) (IntKind.wrap .u8 i_1').toNat) == (((BitVec.getLsbD x) ((i_1').toNat)) || ((BitVec.getLsbD y) ((i_1').toNat))))) hb) ?_
          exact FL.weak (L' := fun _ => [(5, Value.pointer (some ⟨b_2', 0, none⟩)), (6, Value.pointer (some ⟨b_3', 0, none⟩)), (7, Value.pointer (some ⟨b_4', 0, none⟩)), (8, Value.pointer (some ⟨b_5', 0, none⟩)), (9, Value.pointer (some ⟨b_6', 0, none⟩)), (10, Value.pointer (some ⟨b_7', 0, none⟩)), (11, Value.pointer (some ⟨b_8', 0, none⟩)), (12, Value.pointer (some ⟨b_9', 0, none⟩)), (13, Value.int .i64 count_4'), (14, Value.int .i64 i_1'), (15, Value.int .u8 (IntKind.wrap .u8 i_1')), (67, Value.bool ((!((BitVec.getLsbD x (IntKind.wrap .u8 i_1').toNat) == ((BitVec.getLsbD x) ((i_1').toNat)))) || (!((BitVec.getLsbD (x ||| y) (IntKind.wrap .u8 i_1').toNat) == (((BitVec.getLsbD x) ((i_1').toNat)) || ((BitVec.getLsbD y) ((i_1').toNat)))))))]) (fun _ => ⟨rfl, rfl, rfl, rfl, rfl, rfl, rfl, rfl, rfl, rfl, rfl, rfl, trivial⟩) (FL.nil hK_55')
      refine FL.val (fun _ => OV.move rfl) rfl (fun _ => rfl) rfl rfl ?_
      obtain ⟨o_48', h⟩ := h
      refine FL.cut 13 rfl (fun _ => [(5, Value.pointer (some ⟨b_2', 0, none⟩)), (6, Value.pointer (some ⟨b_3', 0, none⟩)), (7, Value.pointer (some ⟨b_4', 0, none⟩)), (8, Value.pointer (some ⟨b_5', 0, none⟩)), (9, Value.pointer (some ⟨b_6', 0, none⟩)), (10, Value.pointer (some ⟨b_7', 0, none⟩)), (11, Value.pointer (some ⟨b_8', 0, none⟩)), (12, Value.pointer (some ⟨b_9', 0, none⟩)), (13, Value.int .i64 count_4'), (14, Value.int .i64 i_1'), (15, Value.int .u8 (IntKind.wrap .u8 i_1')), (81, Value.bool (((!((BitVec.getLsbD x (IntKind.wrap .u8 i_1').toNat) == ((BitVec.getLsbD x) ((i_1').toNat)))) || (!((BitVec.getLsbD (x ||| y) (IntKind.wrap .u8 i_1').toNat) == (((BitVec.getLsbD x) ((i_1').toNat)) || ((BitVec.getLsbD y) ((i_1').toNat)))))) || (!((BitVec.getLsbD (x &&& y) (IntKind.wrap .u8 i_1').toNat) == (((BitVec.getLsbD x) ((i_1').toNat)) && ((BitVec.getLsbD y) ((i_1').toNat)))))))]) ?_ (fun K0_57' hK_57' => ?_)
      rotate_left
      · refine FL.split ((!((BitVec.getLsbD x (IntKind.wrap .u8 i_1').toNat) == ((BitVec.getLsbD x) ((i_1').toNat)))) || (!((BitVec.getLsbD (x ||| y) (IntKind.wrap .u8 i_1').toNat) == (((BitVec.getLsbD x) ((i_1').toNat)) || ((BitVec.getLsbD y) ((i_1').toNat)))))) (fun hb => ?_) (fun hb => ?_)
        · refine FL.set 68 (fun _ => rfl) (congrArg Value.bool hb) ?_
          refine FL.skip rfl (fun _ => rfl) rfl rfl ?_
          refine FL.skip rfl (fun _ => rfl) rfl rfl ?_
          refine FL.skip rfl (fun _ => rfl) rfl rfl ?_
          refine FL.skip rfl (fun _ => rfl) rfl rfl ?_
          refine FL.skip rfl (fun _ => rfl) rfl rfl ?_
          refine FL.skip rfl (fun _ => rfl) rfl rfl ?_
          refine FL.skip rfl (fun _ => rfl) rfl rfl ?_
          refine FL.skip rfl (fun _ => rfl) rfl rfl ?_
          refine FL.skip rfl (fun _ => rfl) rfl rfl ?_
          refine FL.skip rfl (fun _ => rfl) rfl rfl ?_
          refine FL.skip rfl (fun _ => rfl) rfl rfl ?_
          refine FL.skip rfl (fun _ => rfl) rfl rfl ?_
          refine FL.val (fun _ => OV.pickT rfl rfl) rfl (fun _ => rfl) rfl rfl ?_
          refine FL.set 81 (fun _ => rfl) (oT (v := !((BitVec.getLsbD (x &&& y) (IntKind.wrap .u8 i_1').toNat) == (((BitVec.getLsbD x) ((i_1').toNat)) && ((BitVec.getLsbD y) ((i_1').toNat))))) hb) ?_
          exact FL.weak (L' := fun _ => [(5, Value.pointer (some ⟨b_2', 0, none⟩)), (6, Value.pointer (some ⟨b_3', 0, none⟩)), (7, Value.pointer (some ⟨b_4', 0, none⟩)), (8, Value.pointer (some ⟨b_5', 0, none⟩)), (9, Value.pointer (some ⟨b_6', 0, none⟩)), (10, Value.pointer (some ⟨b_7', 0, none⟩)), (11, Value.pointer (some ⟨b_8', 0, none⟩)), (12, Value.pointer (some ⟨b_9', 0, none⟩)), (13, Value.int .i64 count_4'), (14, Value.int .i64 i_1'), (15, Value.int .u8 (IntKind.wrap .u8 i_1')), (81, Value.bool (((!((BitVec.getLsbD x (IntKind.wrap .u8 i_1').toNat) == ((BitVec.getLsbD x) ((i_1').toNat)))) || (!((BitVec.getLsbD (x ||| y) (IntKind.wrap .u8 i_1').toNat) == (((BitVec.getLsbD x) ((i_1').toNat)) || ((BitVec.getLsbD y) ((i_1').toNat)))))) || (!((BitVec.getLsbD (x &&& y) (IntKind.wrap .u8 i_1').toNat) == (((BitVec.getLsbD x) ((i_1').toNat)) && ((BitVec.getLsbD y) ((i_1').toNat)))))))]) (fun _ => ⟨rfl, rfl, rfl, rfl, rfl, rfl, rfl, rfl, rfl, rfl, rfl, rfl, trivial⟩) (FL.nil hK_57')
        · obtain ⟨o_44', o_45', o_47'⟩ := o_48' hb
          refine FL.set 68 (fun _ => rfl) (congrArg Value.bool hb) ?_
          refine FL.val (fun _ => OV.loadR rfl (At.own 3 rfl) tf_row_26) rfl (fun _ => rfl) rfl rfl ?_
          refine FL.val (fun _ => OV.move rfl) rfl (fun _ => rfl) rfl rfl ?_
          refine FL.call tf_ent_13 (fun _ => rfl) (has_does (x &&& y) (IntKind.wrap .u8 i_1') o_44') trivial rfl (fun _ => rfl) rfl ?_
          refine FL.val (fun _ => OV.move rfl) rfl (fun _ => rfl) rfl rfl ?_
          refine FL.val (fun _ => OV.indexAddr1 rfl rfl tf_arr_28 o_45') rfl (fun _ => rfl) rfl rfl ?_
          refine FL.val (fun _ => OV.load rfl (At.own 0 rfl) (arr_get (by first | omega | assumption)) tf_scal_4) rfl (fun _ => rfl) rfl rfl ?_
          refine FL.val (fun _ => OV.move rfl) rfl (fun _ => rfl) rfl rfl ?_
          refine FL.cut 4 rfl (fun _ => [(5, Value.pointer (some ⟨b_2', 0, none⟩)), (6, Value.pointer (some ⟨b_3', 0, none⟩)), (7, Value.pointer (some ⟨b_4', 0, none⟩)), (8, Value.pointer (some ⟨b_5', 0, none⟩)), (9, Value.pointer (some ⟨b_6', 0, none⟩)), (10, Value.pointer (some ⟨b_7', 0, none⟩)), (11, Value.pointer (some ⟨b_8', 0, none⟩)), (12, Value.pointer (some ⟨b_9', 0, none⟩)), (13, Value.int .i64 count_4'), (14, Value.int .i64 i_1'), (15, Value.int .u8 (IntKind.wrap .u8 i_1')), (68, Value.bool false), (71, Value.bool (BitVec.getLsbD (x &&& y) (IntKind.wrap .u8 i_1').toNat)), (79, Value.bool (((BitVec.getLsbD x) ((i_1').toNat)) && ((BitVec.getLsbD y) ((i_1').toNat))))]) ?_ (fun K0_56' hK_56' => ?_)
          rotate_left
          · refine FL.split ((BitVec.getLsbD x) ((i_1').toNat)) (fun hb => ?_) (fun hb => ?_)
            · have o_46' := o_47' hb
              refine FL.set 75 (fun _ => rfl) (congrArg Value.bool hb) ?_
              refine FL.val (fun _ => OV.move rfl) rfl (fun _ => rfl) rfl rfl ?_
              refine FL.val (fun _ => OV.indexAddr1 rfl rfl tf_arr_28 o_46') rfl (fun _ => rfl) rfl rfl ?_
              refine FL.val (fun _ => OV.load rfl (At.own 1 rfl) (arr_get (by first | omega | assumption)) tf_scal_4) rfl (fun _ => rfl) rfl rfl ?_
              refine FL.val (fun _ => OV.pickT rfl rfl) rfl (fun _ => rfl) rfl rfl ?_
              refine FL.set 79 (fun _ => rfl) (bT (v := (BitVec.getLsbD y) ((i_1').toNat)) hb) ?_
              exact FL.weak (L' := fun _ => [(5, Value.pointer (some ⟨b_2', 0, none⟩)), (6, Value.pointer (some ⟨b_3', 0, none⟩)), (7, Value.pointer (some ⟨b_4', 0, none⟩)), (8, Value.pointer (some ⟨b_5', 0, none⟩)), (9, Value.pointer (some ⟨b_6', 0, none⟩)), (10, Value.pointer (some ⟨b_7', 0, none⟩)), (11, Value.pointer (some ⟨b_8', 0, none⟩)), (12, Value.pointer (some ⟨b_9', 0, none⟩)), (13, Value.int .i64 count_4'), (14, Value.int .i64 i_1'), (15, Value.int .u8 (IntKind.wrap .u8 i_1')), (68, Value.bool false), (71, Value.bool (BitVec.getLsbD (x &&& y) (IntKind.wrap .u8 i_1').toNat)), (79, Value.bool (((BitVec.getLsbD x) ((i_1').toNat)) && ((BitVec.getLsbD y) ((i_1').toNat))))]) (fun _ => ⟨rfl, rfl, rfl, rfl, rfl, rfl, rfl, rfl, rfl, rfl, rfl, rfl, rfl, rfl, trivial⟩) (FL.nil hK_56')
            · refine FL.set 75 (fun _ => rfl) (congrArg Value.bool hb) ?_
              refine FL.skip rfl (fun _ => rfl) rfl rfl ?_
              refine FL.skip rfl (fun _ => rfl) rfl rfl ?_
              refine FL.skip rfl (fun _ => rfl) rfl rfl ?_
              refine FL.val (fun _ => OV.pickF rfl rfl) rfl (fun _ => rfl) rfl rfl ?_
              refine FL.set 79 (fun _ => rfl) (bF (v := (BitVec.getLsbD y) ((i_1').toNat)) hb) ?_
              exact FL.weak (L' := fun _ => [(5, Value.pointer (some ⟨b_2', 0, none⟩)), (6, Value.pointer (some ⟨b_3', 0, none⟩)), (7, Value.pointer (some ⟨b_4', 0, none⟩)), (8, Value.pointer (some ⟨b_5', 0, none⟩)), (9, Value.pointer (some ⟨b_6', 0, none⟩)), (10, Value.pointer (some ⟨b_7', 0, none⟩)), (11, Value.pointer (some ⟨b_8', 0, none⟩)), (12, Value.pointer (some ⟨b_9', 0, none⟩)), (13, Value.int .i64 count_4'), (14, Value.int .i64 i_1'), (15, Value.int .u8 (IntKind.wrap .u8 i_1')), (68, Value.bool false), (71, Value.bool (BitVec.getLsbD (x &&& y) (IntKind.wrap .u8 i_1').toNat)), (79, Value.bool (((BitVec.getLsbD x) ((i_1').toNat)) && ((BitVec.getLsbD y) ((i_1').toNat))))]) (fun _ => ⟨rfl, rfl, rfl, rfl, rfl, rfl, rfl, rfl, rfl, rfl, rfl, rfl, rfl, rfl, trivial⟩) (FL.nil hK_56')
          refine FL.val (fun _ => OV.neqB rfl rfl Try.underlying4) rfl (fun _ => rfl) rfl rfl ?_
          refine FL.val (fun _ => OV.pickF rfl rfl) rfl (fun _ => rfl) rfl rfl ?_
          refine FL.set 81 (fun _ => rfl) (oF (v := !((BitVec.getLsbD (x &&& y) (IntKind.wrap .u8 i_1').toNat) == (((BitVec.getLsbD x) ((i_1').toNat)) && ((BitVec.getLsbD y) ((i_1').toNat))))) hb) ?_
          exact FL.weak (L' := fun _ => [(5, Value.pointer (some ⟨b_2', 0, none⟩)), (6, Value.pointer (some ⟨b_3', 0, none⟩)), (7, Value.pointer (some ⟨b_4', 0, none⟩)), (8, Value.pointer (some ⟨b_5', 0, none⟩)), (9, Value.pointer (some ⟨b_6', 0, none⟩)), (10, Value.pointer (some ⟨b_7', 0, none⟩)), (11, Value.pointer (some ⟨b_8', 0, none⟩)), (12, Value.pointer (some ⟨b_9', 0, none⟩)), (13, Value.int .i64 count_4'), (14, Value.int .i64 i_1'), (15, Value.int .u8 (IntKind.wrap .u8 i_1')), (81, Value.bool (((!((BitVec.getLsbD x (IntKind.wrap .u8 i_1').toNat) == ((BitVec.getLsbD x) ((i_1').toNat)))) || (!((BitVec.getLsbD (x ||| y) (IntKind.wrap .u8 i_1').toNat) == (((BitVec.getLsbD x) ((i_1').toNat)) || ((BitVec.getLsbD y) ((i_1').toNat)))))) || (!((BitVec.getLsbD (x &&& y) (IntKind.wrap .u8 i_1').toNat) == (((BitVec.getLsbD x) ((i_1').toNat)) && ((BitVec.getLsbD y) ((i_1').toNat)))))))]) (fun _ => ⟨rfl, rfl, rfl, rfl, rfl, rfl, rfl, rfl, rfl, rfl, rfl, rfl, trivial⟩) (FL.nil hK_57')
      refine FL.weak (L' := fun _ => [(5, Value.pointer (some ⟨b_2', 0, none⟩)), (6, Value.pointer (some ⟨b_3', 0, none⟩)), (7, Value.pointer (some ⟨b_4', 0, none⟩)), (8, Value.pointer (some ⟨b_5', 0, none⟩)), (9, Value.pointer (some ⟨b_6', 0, none⟩)), (10, Value.pointer (some ⟨b_7', 0, none⟩)), (11, Value.pointer (some ⟨b_8', 0, none⟩)), (12, Value.pointer (some ⟨b_9', 0, none⟩)), (13, Value.int .i64 count_4'), (14, Value.int .i64 i_1'), (15, Value.int .u8 (IntKind.wrap .u8 i_1')), (81, Value.bool (((!((BitVec.getLsbD x (IntKind.wrap .u8 i_1').toNat) == ((BitVec.getLsbD x) ((i_1').toNat)))) || (!((BitVec.getLsbD (x ||| y) (IntKind.wrap .u8 i_1').toNat) == (((BitVec.getLsbD x) ((i_1').toNat)) || ((BitVec.getLsbD y) ((i_1').toNat)))))) || (!((BitVec.getLsbD (x &&& y) (IntKind.wrap .u8 i_1').toNat) == (((BitVec.getLsbD x) ((i_1').toNat)) && ((BitVec.getLsbD y) ((i_1').toNat)))))))]) (fun _ => ⟨rfl, rfl, rfl, rfl, rfl, rfl, rfl, rfl, rfl, rfl, rfl, rfl, trivial⟩) (FL.nil (hT_7' (fun _ => [(5, Value.pointer (some ⟨b_2', 0, none⟩)), (6, Value.pointer (some ⟨b_3', 0, none⟩)), (7, Value.pointer (some ⟨b_4', 0, none⟩)), (8, Value.pointer (some ⟨b_5', 0, none⟩)), (9, Value.pointer (some ⟨b_6', 0, none⟩)), (10, Value.pointer (some ⟨b_7', 0, none⟩)), (11, Value.pointer (some ⟨b_8', 0, none⟩)), (12, Value.pointer (some ⟨b_9', 0, none⟩)), (13, Value.int .i64 count_4'), (14, Value.int .i64 i_1'), (15, Value.int .u8 (IntKind.wrap .u8 i_1')), (81, Value.bool (((!((BitVec.getLsbD x (IntKind.wrap .u8 i_1').toNat) == ((BitVec.getLsbD x) ((i_1').toNat)))) || (!((BitVec.getLsbD (x ||| y) (IntKind.wrap .u8 i_1').toNat) == (((BitVec.getLsbD x) ((i_1').toNat)) || ((BitVec.getLsbD y) ((i_1').toNat)))))) || (!((BitVec.getLsbD (x &&& y) (IntKind.wrap .u8 i_1').toNat) == (((BitVec.getLsbD x) ((i_1').toNat)) && ((BitVec.getLsbD y) ((i_1').toNat)))))))]) (fun _ => ?_)))
      refine KX.go (hK_53' [(5, Value.pointer (some ⟨b_2', 0, none⟩)), (6, Value.pointer (some ⟨b_3', 0, none⟩)), (7, Value.pointer (some ⟨b_4', 0, none⟩)), (8, Value.pointer (some ⟨b_5', 0, none⟩)), (9, Value.pointer (some ⟨b_6', 0, none⟩)), (10, Value.pointer (some ⟨b_7', 0, none⟩)), (11, Value.pointer (some ⟨b_8', 0, none⟩)), (12, Value.pointer (some ⟨b_9', 0, none⟩)), (13, Value.int .i64 count_4'), (14, Value.int .i64 i_1'), (15, Value.int .u8 (IntKind.wrap .u8 i_1')), (81, Value.bool (((!((BitVec.getLsbD x (IntKind.wrap .u8 i_1').toNat) == ((BitVec.getLsbD x) ((i_1').toNat)))) || (!((BitVec.getLsbD (x ||| y) (IntKind.wrap .u8 i_1').toNat) == (((BitVec.getLsbD x) ((i_1').toNat)) || ((BitVec.getLsbD y) ((i_1').toNat)))))) || (!((BitVec.getLsbD (x &&& y) (IntKind.wrap .u8 i_1').toNat) == (((BitVec.getLsbD x) ((i_1').toNat)) && ((BitVec.getLsbD y) ((i_1').toNat)))))))] _ ?_) ⟨rfl, rfl, rfl, rfl, rfl, rfl, rfl, rfl, rfl, rfl, rfl, rfl, trivial⟩
      refine wc_cond (b := ((!((BitVec.getLsbD x (IntKind.wrap .u8 i_1').toNat) == ((BitVec.getLsbD x) ((i_1').toNat)))) || (!((BitVec.getLsbD (x ||| y) (IntKind.wrap .u8 i_1').toNat) == (((BitVec.getLsbD x) ((i_1').toNat)) || ((BitVec.getLsbD y) ((i_1').toNat)))))) || (!((BitVec.getLsbD (x &&& y) (IntKind.wrap .u8 i_1').toNat) == (((BitVec.getLsbD x) ((i_1').toNat)) && ((BitVec.getLsbD y) ((i_1').toNat)))))) rfl (fun hb => ?_) (fun hb => ?_)
      · replace h := if_T h hb
        refine wc_seq (fun K0_58' hK_58' => ?_)
        refine wc_region ?_
        refine WL.val (OV.assign rfl) rfl rfl rfl ?_
        refine WL.nil ?_
        refine KX.go (hK_58' [(4, Value.bool false)] _ ?_) ⟨rfl, trivial⟩
        refine wc_ret ?_
        exact hE.ret [] rfl rfl (.inl ⟨_, h, rfl⟩) (ResV.of1 rfl (RV.tmp rfl))
      · replace h := if_F h hb
        refine wc_skip ?_
        refine KX.go (hK_52' [(5, Value.pointer (some ⟨b_2', 0, none⟩)), (6, Value.pointer (some ⟨b_3', 0, none⟩)), (7, Value.pointer (some ⟨b_4', 0, none⟩)), (8, Value.pointer (some ⟨b_5', 0, none⟩)), (9, Value.pointer (some ⟨b_6', 0, none⟩)), (10, Value.pointer (some ⟨b_7', 0, none⟩)), (11, Value.pointer (some ⟨b_8', 0, none⟩)), (12, Value.pointer (some ⟨b_9', 0, none⟩)), (13, Value.int .i64 count_4'), (14, Value.int .i64 i_1'), (15, Value.int .u8 (IntKind.wrap .u8 i_1'))] _ ?_) ⟨rfl, rfl, rfl, rfl, rfl, rfl, rfl, rfl, rfl, rfl, rfl, trivial⟩
        refine wc_seq (fun K0_59' hK_59' => ?_)
        refine wc_draw_all [] tf_mixed (by kernel_rfl) rfl (fun T_8' hT_8' => ?_)
        refine FL.val (fun _ => OV.loadR rfl (At.own 4 rfl) tf_row_26) rfl (fun _ => rfl) rfl rfl ?_
        refine FL.val (fun _ => OV.move rfl) rfl (fun _ => rfl) rfl rfl ?_
        obtain ⟨o_49', h⟩ := h
        refine FL.call tf_ent_13 (fun _ => rfl) (has_does (x &&& ~~~ y) (IntKind.wrap .u8 i_1') o_49') trivial rfl (fun _ => rfl) rfl ?_
        refine FL.val (fun _ => OV.move rfl) rfl (fun _ => rfl) rfl rfl ?_
        obtain ⟨o_50', h⟩ := h
        refine FL.val (fun _ => OV.indexAddr1 rfl rfl tf_arr_28 o_50') rfl (fun _ => rfl) rfl rfl ?_
        refine FL.val (fun _ => OV.load rfl (At.own 0 rfl) (arr_get (by first | omega | assumption)) tf_scal_4) rfl (fun _ => rfl) rfl rfl ?_
        refine FL.val (fun _ => OV.move rfl) rfl (fun _ => rfl) rfl rfl ?_
        obtain ⟨o_52', h⟩ := h
        refine FL.cut 5 rfl (fun _ => [(5, Value.pointer (some ⟨b_2', 0, none⟩)), (6, Value.pointer (some ⟨b_3', 0, none⟩)), (7, Value.pointer (some ⟨b_4', 0, none⟩)), (8, Value.pointer (some ⟨b_5', 0, none⟩)), (9, Value.pointer (some ⟨b_6', 0, none⟩)), (10, Value.pointer (some ⟨b_7', 0, none⟩)), (11, Value.pointer (some ⟨b_8', 0, none⟩)), (12, Value.pointer (some ⟨b_9', 0, none⟩)), (13, Value.int .i64 count_4'), (14, Value.int .i64 i_1'), (15, Value.int .u8 (IntKind.wrap .u8 i_1')), (84, Value.bool (BitVec.getLsbD (x &&& ~~~ y) (IntKind.wrap .u8 i_1').toNat)), (93, Value.bool (((BitVec.getLsbD x) ((i_1').toNat)) && (!((BitVec.getLsbD y) ((i_1').toNat)))))]) ?_ (fun K0_60' hK_60' => ?_)
        rotate_left
        · refine FL.split ((BitVec.getLsbD x) ((i_1').toNat)) (fun hb => ?_) (fun hb => ?_)
          · have o_51' := o_52' hb
            refine FL.set 88 (fun _ => rfl) (congrArg Value.bool hb) ?_
            refine FL.val (fun _ => OV.move rfl) rfl (fun _ => rfl) rfl rfl ?_
            refine FL.val (fun _ => OV.indexAddr1 rfl rfl tf_arr_28 o_51') rfl (fun _ => rfl) rfl rfl ?_
            refine FL.val (fun _ => OV.load rfl (At.own 1 rfl) (arr_get (by first | omega | assumption)) tf_scal_4) rfl (fun _ => rfl) rfl rfl ?_
            refine FL.val (fun _ => OV.not rfl) rfl (fun _ => rfl) rfl rfl ?_
            refine FL.val (fun _ => OV.pickT rfl rfl) rfl (fun _ => rfl) rfl rfl ?_
            refine FL.set 93 (fun _ => rfl) (bT (v := !((BitVec.getLsbD y) ((i_1').toNat))) hb) ?_
            exact FL.weak (L' := fun _ => [(5, Value.pointer (some ⟨b_2', 0, none⟩)), (6, Value.pointer (some ⟨b_3', 0, none⟩)), (7, Value.pointer (some ⟨b_4', 0, none⟩)), (8, Value.pointer (some ⟨b_5', 0, none⟩)), (9, Value.pointer (some ⟨b_6', 0, none⟩)), (10, Value.pointer (some ⟨b_7', 0, none⟩)), (11, Value.pointer (some ⟨b_8', 0, none⟩)), (12, Value.pointer (some ⟨b_9', 0, none⟩)), (13, Value.int .i64 count_4'), (14, Value.int .i64 i_1'), (15, Value.int .u8 (IntKind.wrap .u8 i_1')), (84, Value.bool (BitVec.getLsbD (x &&& ~~~ y) (IntKind.wrap .u8 i_1').toNat)), (93, Value.bool (((BitVec.getLsbD x) ((i_1').toNat)) && (!((BitVec.getLsbD y) ((i_1').toNat)))))]) (fun _ => ⟨rfl, rfl, rfl, rfl, rfl, rfl, rfl, rfl, rfl, rfl, rfl, rfl, rfl, trivial⟩) (FL.nil hK_60')
          · refine FL.set 88 (fun _ => rfl) (congrArg Value.bool hb) ?_
            refine FL.skip rfl (fun _ => rfl) rfl rfl ?_
            refine FL.skip rfl (fun _ => rfl) rfl rfl ?_
            refine FL.skip rfl (fun _ => rfl) rfl rfl ?_
            refine FL.skip rfl (fun _ => rfl) rfl rfl ?_
            refine FL.val (fun _ => OV.pickF rfl rfl) rfl (fun _ => rfl) rfl rfl ?_
            refine FL.set 93 (fun _ => rfl) (bF (v := !((BitVec.getLsbD y) ((i_1').toNat))) hb) ?_
            exact FL.weak (L' := fun _ => [(5, Value.pointer (some ⟨b_2', 0, none⟩)), (6, Value.pointer (some ⟨b_3', 0, none⟩)), (7, Value.pointer (some ⟨b_4', 0, none⟩)), (8, Value.pointer (some ⟨b_5', 0, none⟩)), (9, Value.pointer (some ⟨b_6', 0, none⟩)), (10, Value.pointer (some ⟨b_7', 0, none⟩)), (11, Value.pointer (some ⟨b_8', 0, none⟩)), (12, Value.pointer (some ⟨b_9', 0, none⟩)), (13, Value.int .i64 count_4'), (14, Value.int .i64 i_1'), (15, Value.int .u8 (IntKind.wrap .u8 i_1')), (84, Value.bool (BitVec.getLsbD (x &&& ~~~ y) (IntKind.wrap .u8 i_1').toNat)), (93, Value.bool (((BitVec.getLsbD x) ((i_1').toNat)) && (!((BitVec.getLsbD y) ((i_1').toNat)))))]) (fun _ => ⟨rfl, rfl, rfl, rfl, rfl, rfl, rfl, rfl, rfl, rfl, rfl, rfl, rfl, trivial⟩) (FL.nil hK_60')
        refine FL.val (fun _ => OV.neqB rfl rfl Try.underlying4) rfl (fun _ => rfl) rfl rfl ?_
        refine FL.val (fun _ => OV.move rfl) rfl (fun _ => rfl) rfl rfl ?_
        obtain ⟨o_55', h⟩ := h
        refine FL.cut 8 rfl (fun _ => [(5, Value.pointer (some ⟨b_2', 0, none⟩)), (6, Value.pointer (some ⟨b_3', 0, none⟩)), (7, Value.pointer (some ⟨b_4', 0, none⟩)), (8, Value.pointer (some ⟨b_5', 0, none⟩)), (9, Value.pointer (some ⟨b_6', 0, none⟩)), (10, Value.pointer (some ⟨b_7', 0, none⟩)), (11, Value.pointer (some ⟨b_8', 0, none⟩)), (12, Value.pointer (some ⟨b_9', 0, none⟩)), (13, Value.int .i64 count_4'), (14, Value.int .i64 i_1'), (103, Value.bool ((!((BitVec.getLsbD (x &&& ~~~ y) (IntKind.wrap .u8 i_1').toNat) == (((BitVec.getLsbD x) ((i_1').toNat)) && (!((BitVec.getLsbD y) ((i_1').toNat)))))) || ((BitVec.getLsbD (~~~ x) (IntKind.wrap .u8 i_1').toNat) == ((BitVec.getLsbD x) ((i_1').toNat)))))]) ?_ (fun K0_61' hK_61' => ?_)
        rotate_left
        · refine FL.split (!((BitVec.getLsbD (x &&& ~~~ y) (IntKind.wrap .u8 i_1').toNat) == (((BitVec.getLsbD x) ((i_1').toNat)) && (!((BitVec.getLsbD y) ((i_1').toNat)))))) (fun hb => ?_) (fun hb => ?_)
          · refine FL.set 95 (fun _ => rfl) (congrArg Value.bool hb) ?_
            refine FL.skip rfl (fun _ => rfl) rfl rfl ?_
            refine FL.skip rfl (fun _ => rfl) rfl rfl ?_
            refine FL.skip rfl (fun _ => rfl) rfl rfl ?_
            refine FL.skip rfl (fun _ => rfl) rfl rfl ?_
            refine FL.skip rfl (fun _ => rfl) rfl rfl ?_
            refine FL.skip rfl (fun _ => rfl) rfl rfl ?_
            refine FL.skip rfl (fun _ => rfl) rfl rfl ?_
            refine FL.val (fun _ => OV.pickT rfl rfl) rfl (fun _ => rfl) rfl rfl ?_
            refine FL.set 103 (fun _ => rfl) (oT (v := (BitVec.getLsbD (~~~ x) (IntKind.wrap .u8 i_1').toNat) == ((BitVec.getLsbD x) ((i_1').toNat))) hb) ?_
            exact FL.weak (L' := fun _ => [(5, Value.pointer (some ⟨b_2', 0, none⟩)), (6, Value.pointer (some ⟨b_3', 0, none⟩)), (7, Value.pointer (some ⟨b_4', 0, none⟩)), (8, Value.pointer (some ⟨b_5', 0, none⟩)), (9, Value.pointer (some ⟨b_6', 0, none⟩)), (10, Value.pointer (some ⟨b_7', 0, none⟩)), (11, Value.pointer (some ⟨b_8', 0, none⟩)), (12, Value.pointer (some ⟨b_9', 0, none⟩)), (13, Value.int .i64 count_4'), (14, Value.int .i64 i_1'), (103, Value.bool ((!((BitVec.getLsbD (x &&& ~~~ y) (IntKind.wrap .u8 i_1').toNat) == (((BitVec.getLsbD x) ((i_1').toNat)) && (!((BitVec.getLsbD y) ((i_1').toNat)))))) || ((BitVec.getLsbD (~~~ x) (IntKind.wrap .u8 i_1').toNat) == ((BitVec.getLsbD x) ((i_1').toNat)))))]) (fun _ => ⟨rfl, rfl, rfl, rfl, rfl, rfl, rfl, rfl, rfl, rfl, rfl, trivial⟩) (FL.nil hK_61')
          · obtain ⟨o_53', o_54'⟩ := o_55' hb
            refine FL.set 95 (fun _ => rfl) (congrArg Value.bool hb) ?_
            refine FL.val (fun _ => OV.loadR rfl (At.own 5 rfl) tf_row_26) rfl (fun _ => rfl) rfl rfl ?_
            refine FL.val (fun _ => OV.move rfl) rfl (fun _ => rfl) rfl rfl ?_
            refine FL.call tf_ent_13 (fun _ => rfl) (has_does (~~~ x) (IntKind.wrap .u8 i_1') o_53') trivial rfl (fun _ => rfl) rfl ?_
            refine FL.val (fun _ => OV.move rfl) rfl (fun _ => rfl) rfl rfl ?_
            refine FL.val (fun _ => OV.indexAddr1 rfl rfl tf_arr_28 o_54') rfl (fun _ => rfl) rfl rfl ?_
            refine FL.val (fun _ => OV.load rfl (At.own 0 rfl) (arr_get (by first | omega | assumption)) tf_scal_4) rfl (fun _ => rfl) rfl rfl ?_
            refine FL.val (fun _ => OV.eqlB rfl rfl Try.underlying4) rfl (fun _ => rfl) rfl rfl ?_
            refine FL.val (fun _ => OV.pickF rfl rfl) rfl (fun _ => rfl) rfl rfl ?_
            refine FL.set 103 (fun _ => rfl) (oF (v := (BitVec.getLsbD (~~~ x) (IntKind.wrap .u8 i_1').toNat) == ((BitVec.getLsbD x) ((i_1').toNat))) hb) ?_
            exact FL.weak (L' := fun _ => [(5, Value.pointer (some ⟨b_2', 0, none⟩)), (6, Value.pointer (some ⟨b_3', 0, none⟩)), (7, Value.pointer (some ⟨b_4', 0, none⟩)), (8, Value.pointer (some ⟨b_5', 0, none⟩)), (9, Value.pointer (some ⟨b_6', 0, none⟩)), (10, Value.pointer (some ⟨b_7', 0, none⟩)), (11, Value.pointer (some ⟨b_8', 0, none⟩)), (12, Value.pointer (some ⟨b_9', 0, none⟩)), (13, Value.int .i64 count_4'), (14, Value.int .i64 i_1'), (103, Value.bool ((!((BitVec.getLsbD (x &&& ~~~ y) (IntKind.wrap .u8 i_1').toNat) == (((BitVec.getLsbD x) ((i_1').toNat)) && (!((BitVec.getLsbD y) ((i_1').toNat)))))) || ((BitVec.getLsbD (~~~ x) (IntKind.wrap .u8 i_1').toNat) == ((BitVec.getLsbD x) ((i_1').toNat)))))]) (fun _ => ⟨rfl, rfl, rfl, rfl, rfl, rfl, rfl, rfl, rfl, rfl, rfl, trivial⟩) (FL.nil hK_61')
        refine FL.weak (L' := fun _ => [(5, Value.pointer (some ⟨b_2', 0, none⟩)), (6, Value.pointer (some ⟨b_3', 0, none⟩)), (7, Value.pointer (some ⟨b_4', 0, none⟩)), (8, Value.pointer (some ⟨b_5', 0, none⟩)), (9, Value.pointer (some ⟨b_6', 0, none⟩)), (10, Value.pointer (some ⟨b_7', 0, none⟩)), (11, Value.pointer (some ⟨b_8', 0, none⟩)), (12, Value.pointer (some ⟨b_9', 0, none⟩)), (13, Value.int .i64 count_4'), (14, Value.int .i64 i_1'), (103, Value.bool ((!((BitVec.getLsbD (x &&& ~~~ y) (IntKind.wrap .u8 i_1').toNat) == (((BitVec.getLsbD x) ((i_1').toNat)) && (!((BitVec.getLsbD y) ((i_1').toNat)))))) || ((BitVec.getLsbD (~~~ x) (IntKind.wrap .u8 i_1').toNat) == ((BitVec.getLsbD x) ((i_1').toNat)))))]) (fun _ => ⟨rfl, rfl, rfl, rfl, rfl, rfl, rfl, rfl, rfl, rfl, rfl, trivial⟩) (FL.nil (hT_8' (fun _ => [(5, Value.pointer (some ⟨b_2', 0, none⟩)), (6, Value.pointer (some ⟨b_3', 0, none⟩)), (7, Value.pointer (some ⟨b_4', 0, none⟩)), (8, Value.pointer (some ⟨b_5', 0, none⟩)), (9, Value.pointer (some ⟨b_6', 0, none⟩)), (10, Value.pointer (some ⟨b_7', 0, none⟩)), (11, Value.pointer (some ⟨b_8', 0, none⟩)), (12, Value.pointer (some ⟨b_9', 0, none⟩)), (13, Value.int .i64 count_4'), (14, Value.int .i64 i_1'), (103, Value.bool ((!((BitVec.getLsbD (x &&& ~~~ y) (IntKind.wrap .u8 i_1').toNat) == (((BitVec.getLsbD x) ((i_1').toNat)) && (!((BitVec.getLsbD y) ((i_1').toNat)))))) || ((BitVec.getLsbD (~~~ x) (IntKind.wrap .u8 i_1').toNat) == ((BitVec.getLsbD x) ((i_1').toNat)))))]) (fun _ => ?_)))
        refine KX.go (hK_59' [(5, Value.pointer (some ⟨b_2', 0, none⟩)), (6, Value.pointer (some ⟨b_3', 0, none⟩)), (7, Value.pointer (some ⟨b_4', 0, none⟩)), (8, Value.pointer (some ⟨b_5', 0, none⟩)), (9, Value.pointer (some ⟨b_6', 0, none⟩)), (10, Value.pointer (some ⟨b_7', 0, none⟩)), (11, Value.pointer (some ⟨b_8', 0, none⟩)), (12, Value.pointer (some ⟨b_9', 0, none⟩)), (13, Value.int .i64 count_4'), (14, Value.int .i64 i_1'), (103, Value.bool ((!((BitVec.getLsbD (x &&& ~~~ y) (IntKind.wrap .u8 i_1').toNat) == (((BitVec.getLsbD x) ((i_1').toNat)) && (!((BitVec.getLsbD y) ((i_1').toNat)))))) || ((BitVec.getLsbD (~~~ x) (IntKind.wrap .u8 i_1').toNat) == ((BitVec.getLsbD x) ((i_1').toNat)))))] _ ?_) ⟨rfl, rfl, rfl, rfl, rfl, rfl, rfl, rfl, rfl, rfl, rfl, trivial⟩
        refine wc_cond (b := (!((BitVec.getLsbD (x &&& ~~~ y) (IntKind.wrap .u8 i_1').toNat) == (((BitVec.getLsbD x) ((i_1').toNat)) && (!((BitVec.getLsbD y) ((i_1').toNat)))))) || ((BitVec.getLsbD (~~~ x) (IntKind.wrap .u8 i_1').toNat) == ((BitVec.getLsbD x) ((i_1').toNat)))) rfl (fun hb => ?_) (fun hb => ?_)
        · replace h := if_T h hb
          refine wc_seq (fun K0_62' hK_62' => ?_)
          refine wc_region ?_
          refine WL.val (OV.assign rfl) rfl rfl rfl ?_
          refine WL.nil ?_
          refine KX.go (hK_62' [(4, Value.bool false)] _ ?_) ⟨rfl, trivial⟩
          refine wc_ret ?_
          exact hE.ret [] rfl rfl (.inl ⟨_, h, rfl⟩) (ResV.of1 rfl (RV.tmp rfl))
        · replace h := if_F h hb
          refine wc_skip ?_
          refine KX.go (hK_48' [(5, Value.pointer (some ⟨b_2', 0, none⟩)), (6, Value.pointer (some ⟨b_3', 0, none⟩)), (7, Value.pointer (some ⟨b_4', 0, none⟩)), (8, Value.pointer (some ⟨b_5', 0, none⟩)), (9, Value.pointer (some ⟨b_6', 0, none⟩)), (10, Value.pointer (some ⟨b_7', 0, none⟩)), (11, Value.pointer (some ⟨b_8', 0, none⟩)), (12, Value.pointer (some ⟨b_9', 0, none⟩)), (13, Value.int .i64 count_4'), (14, Value.int .i64 i_1')] _ ?_) ⟨rfl, rfl, rfl, rfl, rfl, rfl, rfl, rfl, rfl, rfl, trivial⟩
          refine wc_region ?_
          refine WL.val (OV.move rfl) rfl rfl rfl ?_
          obtain ⟨o_56', h⟩ := h
          refine WL.val (OV.add rfl rfl o_56') rfl rfl rfl ?_
          refine WL.val (OV.assign rfl) rfl rfl rfl ?_
          refine WL.nil ?_
          exact KX.goH (hK_45' (count_4', i_1' + 1) h.1 h.2) ⟨rfl, rfl, rfl, rfl, rfl, rfl, rfl, rfl, rfl, rfl, trivial⟩ [0, 1, 2, 3, 4, 5, 6, 7, 8, 9] rfl rfl
    · skip
      refine wc_seq (fun K0_63' hK_63' => ?_)
      refine wc_region ?_
      refine WL.val (OV.move rfl) rfl rfl rfl ?_
      obtain ⟨o_57', h⟩ := h
      refine WL.val (OV.indexAddr1 rfl rfl tf_arr_28 o_57') rfl rfl rfl ?_
      refine WL.val (OV.load rfl (At.own 0 rfl) (arr_get (by first | omega | assumption)) tf_scal_4) rfl rfl rfl ?_
      refine WL.nil ?_
      refine KX.go (hK_63' [(5, Value.pointer (some ⟨b_2', 0, none⟩)), (6, Value.pointer (some ⟨b_3', 0, none⟩)), (7, Value.pointer (some ⟨b_4', 0, none⟩)), (8, Value.pointer (some ⟨b_5', 0, none⟩)), (9, Value.pointer (some ⟨b_6', 0, none⟩)), (10, Value.pointer (some ⟨b_7', 0, none⟩)), (11, Value.pointer (some ⟨b_8', 0, none⟩)), (12, Value.pointer (some ⟨b_9', 0, none⟩)), (13, Value.int .i64 count_3'), (14, Value.int .i64 i_1'), (15, Value.int .u8 (IntKind.wrap .u8 i_1')), (44, Value.bool ((BitVec.getLsbD x) ((i_1').toNat)))] _ ?_) ⟨rfl, rfl, rfl, rfl, rfl, rfl, rfl, rfl, rfl, rfl, rfl, rfl, trivial⟩
      refine wc_cond (b := (BitVec.getLsbD x) ((i_1').toNat)) rfl (fun hb => ?_) (fun hb => ?_)
      · replace h := if_T h hb
        refine wc_region ?_
        refine WL.val (OV.move rfl) rfl rfl rfl ?_
        obtain ⟨o_58', h⟩ := h
        refine WL.val (OV.add rfl rfl o_58') rfl rfl rfl ?_
        refine WL.val (OV.assign rfl) rfl rfl rfl ?_
        refine WL.nil ?_
        exact KX.goH (hK_51' (count_3' + 1) h) ⟨rfl, rfl, rfl, rfl, rfl, rfl, rfl, rfl, rfl, rfl, rfl, trivial⟩ [0, 1, 2, 3, 4, 5, 6, 7, 8, 9] rfl rfl
      · replace h := if_F h hb
        refine wc_skip ?_
        exact KX.goH (hK_51' count_3' h) ⟨rfl, rfl, rfl, rfl, rfl, rfl, rfl, rfl, rfl, rfl, rfl, trivial⟩ [0, 1, 2, 3, 4, 5, 6, 7, 8, 9] rfl rfl
  · replace h := if_F h hb
    refine wc_exit ?_
    refine KX.go (hK_7' [(5, Value.pointer (some ⟨b_2', 0, none⟩)), (6, Value.pointer (some ⟨b_3', 0, none⟩)), (7, Value.pointer (some ⟨b_4', 0, none⟩)), (8, Value.pointer (some ⟨b_5', 0, none⟩)), (10, Value.pointer (some ⟨b_7', 0, none⟩)), (13, Value.int .i64 count_3')] _ ?_) ⟨rfl, rfl, rfl, rfl, rfl, rfl, trivial⟩
    refine wc_seq (fun K0_64' hK_64' => ?_)
    refine wc_draw_all [] tf_mixed (by kernel_rfl) rfl (fun T_9' hT_9' => ?_)
    refine FL.val (fun _ => OV.loadR rfl (At.own 6 rfl) tf_row_26) rfl (fun _ => rfl) rfl rfl ?_
    refine FL.call tf_ent_20 (fun _ => rfl) (count_does x) trivial rfl (fun _ => rfl) rfl ?_
    refine FL.val (fun _ => OV.move rfl) rfl (fun _ => rfl) rfl rfl ?_
    refine FL.val (fun _ => OV.eql rfl rfl) rfl (fun _ => rfl) rfl rfl ?_
    refine FL.val (fun _ => OV.move rfl) rfl (fun _ => rfl) rfl rfl ?_
    obtain ⟨o_60', h⟩ := h
    refine FL.cut 7 rfl (fun _ => [(5, Value.pointer (some ⟨b_2', 0, none⟩)), (6, Value.pointer (some ⟨b_3', 0, none⟩)), (7, Value.pointer (some ⟨b_4', 0, none⟩)), (8, Value.pointer (some ⟨b_5', 0, none⟩)), (115, Value.bool ((decide ((countS x : Int) = count_3')) && (decide ((countS x : Int) + (countS (~~~ x) : Int) = 256))))]) ?_ (fun K0_65' hK_65' => ?_)
    rotate_left
    · refine FL.split (decide ((countS x : Int) = count_3')) (fun hb => ?_) (fun hb => ?_)
      · have o_59' := o_60' hb
        refine FL.set 108 (fun _ => rfl) (congrArg Value.bool hb) ?_
        refine FL.val (fun _ => OV.loadR rfl (At.own 6 rfl) tf_row_26) rfl (fun _ => rfl) rfl rfl ?_
        refine FL.call tf_ent_20 (fun _ => rfl) (count_does x) trivial rfl (fun _ => rfl) rfl ?_
        refine FL.val (fun _ => OV.loadR rfl (At.own 5 rfl) tf_row_26) rfl (fun _ => rfl) rfl rfl ?_
        refine FL.call tf_ent_20 (fun _ => rfl) (count_does (~~~ x)) trivial rfl (fun _ => rfl) rfl ?_
        refine FL.val (fun _ => OV.add rfl rfl o_59') rfl (fun _ => rfl) rfl rfl ?_
        refine FL.val (fun _ => OV.eql rfl rfl) rfl (fun _ => rfl) rfl rfl ?_
        refine FL.val (fun _ => OV.pickT rfl rfl) rfl (fun _ => rfl) rfl rfl ?_
        refine FL.set 115 (fun _ => rfl) (bT (v := decide ((countS x : Int) + (countS (~~~ x) : Int) = 256)) hb) ?_
        exact FL.weak (L' := fun _ => [(5, Value.pointer (some ⟨b_2', 0, none⟩)), (6, Value.pointer (some ⟨b_3', 0, none⟩)), (7, Value.pointer (some ⟨b_4', 0, none⟩)), (8, Value.pointer (some ⟨b_5', 0, none⟩)), (115, Value.bool ((decide ((countS x : Int) = count_3')) && (decide ((countS x : Int) + (countS (~~~ x) : Int) = 256))))]) (fun _ => ⟨rfl, rfl, rfl, rfl, rfl, trivial⟩) (FL.nil hK_65')
      · refine FL.set 108 (fun _ => rfl) (congrArg Value.bool hb) ?_
        refine FL.skip rfl (fun _ => rfl) rfl rfl ?_
        refine FL.skip rfl (fun _ => rfl) rfl rfl ?_
        refine FL.skip rfl (fun _ => rfl) rfl rfl ?_
        refine FL.skip rfl (fun _ => rfl) rfl rfl ?_
        refine FL.skip rfl (fun _ => rfl) rfl rfl ?_
        refine FL.skip rfl (fun _ => rfl) rfl rfl ?_
        refine FL.val (fun _ => OV.pickF rfl rfl) rfl (fun _ => rfl) rfl rfl ?_
        refine FL.set 115 (fun _ => rfl) (bF (v := decide ((countS x : Int) + (countS (~~~ x) : Int) = 256)) hb) ?_
        exact FL.weak (L' := fun _ => [(5, Value.pointer (some ⟨b_2', 0, none⟩)), (6, Value.pointer (some ⟨b_3', 0, none⟩)), (7, Value.pointer (some ⟨b_4', 0, none⟩)), (8, Value.pointer (some ⟨b_5', 0, none⟩)), (115, Value.bool ((decide ((countS x : Int) = count_3')) && (decide ((countS x : Int) + (countS (~~~ x) : Int) = 256))))]) (fun _ => ⟨rfl, rfl, rfl, rfl, rfl, trivial⟩) (FL.nil hK_65')
    refine FL.val (fun _ => OV.move rfl) rfl (fun _ => rfl) rfl rfl ?_
    obtain ⟨o_63', h⟩ := h
    refine FL.cut 12 rfl (fun _ => [(128, Value.bool (((decide ((countS x : Int) = count_3')) && (decide ((countS x : Int) + (countS (~~~ x) : Int) = 256))) && (decide ((countS (x ||| y) : Int) + (countS (x &&& y) : Int) = (countS x : Int) + (countS y : Int)))))]) ?_ (fun K0_66' hK_66' => ?_)
    rotate_left
    · refine FL.split ((decide ((countS x : Int) = count_3')) && (decide ((countS x : Int) + (countS (~~~ x) : Int) = 256))) (fun hb => ?_) (fun hb => ?_)
      · obtain ⟨o_61', o_62'⟩ := o_63' hb
        refine FL.set 116 (fun _ => rfl) (congrArg Value.bool hb) ?_
        refine FL.val (fun _ => OV.loadR rfl (At.own 2 rfl) tf_row_26) rfl (fun _ => rfl) rfl rfl ?_
        refine FL.call tf_ent_20 (fun _ => rfl) (count_does (x ||| y)) trivial rfl (fun _ => rfl) rfl ?_
        refine FL.val (fun _ => OV.loadR rfl (At.own 3 rfl) tf_row_26) rfl (fun _ => rfl) rfl rfl ?_
        refine FL.call tf_ent_20 (fun _ => rfl) (count_does (x &&& y)) trivial rfl (fun _ => rfl) rfl ?_
        refine FL.val (fun _ => OV.add rfl rfl o_61') rfl (fun _ => rfl) rfl rfl ?_
        refine FL.val (fun _ => OV.loadR rfl (At.own 6 rfl) tf_row_26) rfl (fun _ => rfl) rfl rfl ?_
        refine FL.call tf_ent_20 (fun _ => rfl) (count_does x) trivial rfl (fun _ => rfl) rfl ?_
        refine FL.val (fun _ => OV.loadR rfl (At.own 7 rfl) tf_row_26) rfl (fun _ => rfl) rfl rfl ?_
        refine FL.call tf_ent_20 (fun _ => rfl) (count_does y) trivial rfl (fun _ => rfl) rfl ?_
        refine FL.val (fun _ => OV.add rfl rfl o_62') rfl (fun _ => rfl) rfl rfl ?_
        refine FL.val (fun _ => OV.eql rfl rfl) rfl (fun _ => rfl) rfl rfl ?_
        refine FL.val (fun _ => OV.pickT rfl rfl) rfl (fun _ => rfl) rfl rfl ?_
        refine FL.set 128 (fun _ => rfl) (bT (v := decide ((countS (x ||| y) : Int) + (countS (x &&& y) : Int) = (countS x : Int) + (countS y : Int))) hb) ?_
        exact FL.weak (L' := fun _ => [(128, Value.bool (((decide ((countS x : Int) = count_3')) && (decide ((countS x : Int) + (countS (~~~ x) : Int) = 256))) && (decide ((countS (x ||| y) : Int) + (countS (x &&& y) : Int) = (countS x : Int) + (countS y : Int)))))]) (fun _ => ⟨rfl, trivial⟩) (FL.nil hK_66')
      · refine FL.set 116 (fun _ => rfl) (congrArg Value.bool hb) ?_
        refine FL.skip rfl (fun _ => rfl) rfl rfl ?_
        refine FL.skip rfl (fun _ => rfl) rfl rfl ?_
        refine FL.skip rfl (fun _ => rfl) rfl rfl ?_
        refine FL.skip rfl (fun _ => rfl) rfl rfl ?_
        refine FL.skip rfl (fun _ => rfl) rfl rfl ?_
        refine FL.skip rfl (fun _ => rfl) rfl rfl ?_
        refine FL.skip rfl (fun _ => rfl) rfl rfl ?_
        refine FL.skip rfl (fun _ => rfl) rfl rfl ?_
        refine FL.skip rfl (fun _ => rfl) rfl rfl ?_
        refine FL.skip rfl (fun _ => rfl) rfl rfl ?_
        refine FL.skip rfl (fun _ => rfl) rfl rfl ?_
        refine FL.val (fun _ => OV.pickF rfl rfl) rfl (fun _ => rfl) rfl rfl ?_
        refine FL.set 128 (fun _ => rfl) (bF (v := decide ((countS (x ||| y) : Int) + (countS (x &&& y) : Int) = (countS x : Int) + (countS y : Int))) hb) ?_
        exact FL.weak (L' := fun _ => [(128, Value.bool (((decide ((countS x : Int) = count_3')) && (decide ((countS x : Int) + (countS (~~~ x) : Int) = 256))) && (decide ((countS (x ||| y) : Int) + (countS (x &&& y) : Int) = (countS x : Int) + (countS y : Int)))))]) (fun _ => ⟨rfl, trivial⟩) (FL.nil hK_66')
    refine FL.val (fun _ => OV.assign rfl) rfl (fun _ => rfl) rfl rfl ?_
    refine FL.weak (L' := fun _ => [(4, Value.bool (((decide ((countS x : Int) = count_3')) && (decide ((countS x : Int) + (countS (~~~ x) : Int) = 256))) && (decide ((countS (x ||| y) : Int) + (countS (x &&& y) : Int) = (countS x : Int) + (countS y : Int)))))]) (fun _ => ⟨rfl, trivial⟩) (FL.nil (hT_9' (fun _ => [(4, Value.bool (((decide ((countS x : Int) = count_3')) && (decide ((countS x : Int) + (countS (~~~ x) : Int) = 256))) && (decide ((countS (x ||| y) : Int) + (countS (x &&& y) : Int) = (countS x : Int) + (countS y : Int)))))]) (fun _ => ?_)))
    refine KX.go (hK_64' [(4, Value.bool (((decide ((countS x : Int) = count_3')) && (decide ((countS x : Int) + (countS (~~~ x) : Int) = 256))) && (decide ((countS (x ||| y) : Int) + (countS (x &&& y) : Int) = (countS x : Int) + (countS y : Int)))))] _ ?_) ⟨rfl, trivial⟩
    refine wc_ret ?_
    exact hE.ret [] rfl rfl (.inl ⟨_, h, rfl⟩) (ResV.of1 rfl (RV.tmp rfl))

theorem countS_split (f g : Nat → Bool) : ∀ n, (List.range n).countP (fun i => f i || g i) + (List.range n).countP (fun i => f i && g i) = (List.range n).countP f + (List.range n).countP g
  | 0 => rfl
  | n + 1 => by
    have ih := countS_split f g n
    simp only [List.range_succ, List.countP_append, List.countP_cons, List.countP_nil]
    cases f n <;> cases g n <;> simp <;> omega
theorem countS_not (f : Nat → Bool) : ∀ n, (List.range n).countP f + (List.range n).countP (fun i => !f i) = n
  | 0 => rfl
  | n + 1 => by
    have ih := countS_not f n
    simp only [List.range_succ, List.countP_append, List.countP_cons, List.countP_nil]
    cases f n <;> simp <;> omega
theorem countP_ext {f g : Nat → Bool} {n : Nat} (h : ∀ i, i < n → f i = g i) : (List.range n).countP f = (List.range n).countP g := by
  refine List.countP_congr fun i hi => ?_
  rw [h i (List.mem_range.1 hi)]
theorem algebra_does (x y : CS) : Does Try.prog 6 [.agg (wl x).toArray, .agg (wl y).toArray] [] [] (Ret (.bool true) []) := by
  refine (lalg_wp x y (fun r => r = true) ?_).weak ?_
  · unfold lalg_vc
    have c1 := countS_not x.getLsbD 256
    have c2 := countS_split x.getLsbD y.getLsbD 256
    have e1 : countS (~~~ x) = (List.range 256).countP (fun i => !x.getLsbD i) := countP_ext fun i hi => by rw [BitVec.getLsbD_not]; simp [hi]
    have e2 : countS (x ||| y) = (List.range 256).countP (fun i => x.getLsbD i || y.getLsbD i) := countP_ext fun i _ => by rw [BitVec.getLsbD_or]
    have e3 : countS (x &&& y) = (List.range 256).countP (fun i => x.getLsbD i && y.getLsbD i) := countP_ext fun i _ => by rw [BitVec.getLsbD_and]
    have d1 : countS x ≤ 256 := by unfold countS; exact Nat.le_trans List.countP_le_length (by simp)
    have d2 : countS y ≤ 256 := by unfold countS; exact Nat.le_trans List.countP_le_length (by simp)
    have f1 : countS x + countS (~~~ x) = 256 := by rw [e1]; exact c1
    have f2 : countS (x ||| y) + countS (x &&& y) = countS x + countS y := by rw [e2, e3]; exact c2
    refine ⟨fun c i => 0 ≤ i ∧ i ≤ 256 ∧ c = ((List.range i.toNat).countP x.getLsbD : Nat), fun _ i => (256 - i).toNat, ⟨by omega, by omega, rfl⟩, ?_⟩
    rintro c i ⟨h0, h1, hc⟩
    have hle : (List.range i.toNat).countP x.getLsbD ≤ i.toNat := Nat.le_trans List.countP_le_length (by simp)
    by_cases hi : i < 256
    · rw [if_pos (by simpa using hi)]
      have hw : IntKind.wrap .u8 i = i := IntWalk.u8_in _ ⟨h0, by omega⟩
      have hn : i.toNat < 256 := by omega
      rw [hw]
      have b : 0 ≤ i ∧ i < 256 := ⟨h0, hi⟩
      have hsucc : (List.range (i + 1).toNat).countP x.getLsbD = (List.range i.toNat).countP x.getLsbD + (if x.getLsbD i.toNat = true then 1 else 0) := by
        rw [show (i + 1).toNat = i.toNat + 1 by omega]
        simp only [List.range_succ, List.countP_append, List.countP_cons, List.countP_nil, Nat.zero_add]
      refine ⟨fun c' => c' = ((List.range (i + 1).toNat).countP x.getLsbD : Nat), fun c' hc' => ?_, b, ?_⟩
      · refine ⟨b, b, fun _ => ⟨b, b, fun _ => b⟩, fun _ => ⟨b, b, fun _ => b⟩, ?_⟩
        rw [if_neg (by simp)]
        refine ⟨b, b, fun _ => b, fun _ => ⟨b, b⟩, ?_⟩
        rw [if_neg (by simp [hn])]
        exact ⟨⟨by omega, by omega⟩, ⟨by omega, by omega, hc'⟩, by show (256 - (i + 1)).toNat < (256 - i).toNat; omega⟩
      · by_cases hx : x.getLsbD i.toNat = true
        · rw [if_pos hx]
          rw [if_pos hx] at hsucc
          exact ⟨⟨by omega, by omega⟩, by omega⟩
        · rw [if_neg hx]
          rw [if_neg hx] at hsucc
          omega
    · rw [if_neg (by simpa using hi)]
      have e : countS x = (List.range i.toNat).countP x.getLsbD := by rw [show i.toNat = 256 by omega]; rfl
      refine ⟨fun _ => ⟨by omega, by omega⟩, fun _ => ⟨⟨by omega, by omega⟩, ⟨by omega, by omega⟩⟩, ?_⟩
      simp only [Bool.and_eq_true, decide_eq_true_eq]
      omega
  · rintro o (⟨v, rfl, rfl⟩ | h)
    · rfl
    · exact h.elim
theorem algebra_walk (x y : CS) : Pure Try.prog 6 #[.agg (words x), .agg (words y)] (.bool true) := Does.pure (algebra_does x y)

end Go.Proofs.Ytkjnhjhkaaampaa
