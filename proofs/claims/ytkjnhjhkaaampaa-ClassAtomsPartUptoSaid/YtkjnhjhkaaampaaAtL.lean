/-
  ClassAtoms, ClassAtomsPart.
-/
import Derived.Test.YtkjnhjhkaaampaaAtA
namespace Go.Proofs.Ytkjnhjhkaaampaa
open Go Go.RowKit

theorem tf_ent_22 : entB Try.prog 22 = true := by kernel_rfl
theorem tf_ent_21 : entB Try.prog 21 = true := by kernel_rfl
theorem tf_row_28 : RowT Try.prog 28 256 := ⟨by kernel_rfl, by kernel_rfl⟩
theorem tf_ent_23 : entB Try.prog 23 = true := by kernel_rfl
theorem tf_ent_24 : entB Try.prog 24 = true := by kernel_rfl
theorem tf_ent_25 : entB Try.prog 25 = true := by kernel_rfl
theorem tf_ent_27 : entB Try.prog 27 = true := by kernel_rfl
theorem tf_ent_26 : entB Try.prog 26 = true := by kernel_rfl
theorem tf_some_3 : (Try.prog.underlying 3).isSome = true := by kernel_rfl
theorem tf_zero_51 : zeroB Try.prog 51 = some (arr 256 (fun j => Value.int .i64 ((fun _ => 0) j))) := by kernel_rfl
theorem tf_zero_27 : zeroB Try.prog 27 = some (arr 256 (fun j => Value.bool ((fun _ => false) j))) := by kernel_rfl
theorem tf_zero_28 : zeroB Try.prog 28 = some (arr 256 (fun j => Value.bool ((fun _ => false) j))) := by kernel_rfl
theorem tf_arr_27 : arrB Try.prog 27 4 256 1 = true := by kernel_rfl
theorem tf_arr_51 : arrB Try.prog 51 3 256 1 = true := by kernel_rfl
theorem tf_size_3 : sizeB Try.prog 3 1 = true := by kernel_rfl

def latoms_vc (x : List CS) (other : List CS) (K : Bool → Prop) : Prop :=
  (x.length ≤ 2097152) ∧
  (
    (x.length ≤ 2097152) ∧
    (
      (0 ≤ ((atomsL x).length : Int) ∧ (32 : Int) * ((atomsL x).length : Int) ≤ 281474976710656 ∧ ((atomsL x).length : Int) ≤ 9223372036854775807) ∧
      ∃ (Inv : Int → (List CS) → Prop) (mu : Int → (List CS) → Nat),
        Inv 0 (List.replicate ((atomsL x).length : Int).toNat cs0) ∧ ∀ (i_1' : Int) (l_1' : List CS), Inv i_1' l_1' →
          (if (decide (i_1' < ((atomsL x).length : Int))) = true then
            (0 ≤ i_1' ∧ i_1' < ((atomsL x).length : Int)) ∧
            (0 ≤ i_1' ∧ i_1' < (l_1'.length : Int)) ∧
            (I64 (i_1' + 1)) ∧
            Inv (i_1' + 1) (l_1'.set ((i_1').toNat) ((atomsL x).getD (i_1').toNat default)) ∧ mu (i_1' + 1) (l_1'.set ((i_1').toNat) ((atomsL x).getD (i_1').toNat default)) < mu i_1' l_1'
          else
            (x.length ≤ 2097152) ∧
            (
              ((0 ≤ (1 : Int) ∧ (1 : Int) < 18446744073709551616) ∧ (0 ≤ (2 : Int) ∧ (2 : Int) < 18446744073709551616) ∧ (0 ≤ (3 : Int) ∧ (3 : Int) < 18446744073709551616) ∧ (0 ≤ (4 : Int) ∧ (4 : Int) < 18446744073709551616)) ∧
              ((0 ≤ (5 : Int) ∧ (5 : Int) < 18446744073709551616) ∧ (0 ≤ (6 : Int) ∧ (6 : Int) < 18446744073709551616) ∧ (0 ≤ (7 : Int) ∧ (7 : Int) < 18446744073709551616) ∧ (0 ≤ (8 : Int) ∧ (8 : Int) < 18446744073709551616)) ∧
              (((x.length + 2) + (x.length + 2) / 4 + 192) * 32 ≤ 281474976710656 ∧ x.length + 2 ≤ 9223372036854775807) ∧
              (0 ≤ (x.length : Int) ∧ (x.length : Int) ≤ ((x ++ [(csW 1 2 3 4), (csW 5 6 7 8)]).length : Int)) ∧
              ((((x ++ [(csW 1 2 3 4), (csW 5 6 7 8)])).take (((x.length : Int)).toNat)).length ≤ 2097152) ∧
              (
                ((((x ++ [(csW 1 2 3 4), (csW 5 6 7 8)])).take (((x.length : Int)).toNat)).length ≤ 2097152) ∧
                (
                  ((atomsL (((x ++ [(csW 1 2 3 4), (csW 5 6 7 8)])).take (((x.length : Int)).toNat))).length ≤ 2097152) ∧
                  (
                    ((atomsL (((x ++ [(csW 1 2 3 4), (csW 5 6 7 8)])).take (((x.length : Int)).toNat))).length ≤ 9223372036854775807) ∧
                    ((!(decide ((atomsL (((x ++ [(csW 1 2 3 4), (csW 5 6 7 8)])).take (((x.length : Int)).toNat))) = l_1'))) = false → ((atomsL (((x ++ [(csW 1 2 3 4), (csW 5 6 7 8)])).take (((x.length : Int)).toNat))).length ≤ 2097152) ∧ ((atomsL (((x ++ [(csW 1 2 3 4), (csW 5 6 7 8)])).take (((x.length : Int)).toNat))).length ≤ 9223372036854775807)) ∧
                    (if ((!(decide ((atomsL (((x ++ [(csW 1 2 3 4), (csW 5 6 7 8)])).take (((x.length : Int)).toNat))) = l_1'))) || (!(decide ((atomsL (((x ++ [(csW 1 2 3 4), (csW 5 6 7 8)])).take (((x.length : Int)).toNat))) = l_1')))) = true then
                      K false
                    else
                      ∃ (Inv_1' : Int → (List CS) → Prop) (mu_1' : Int → (List CS) → Nat),
                        Inv_1' 0 (atomsL (((x ++ [(csW 1 2 3 4), (csW 5 6 7 8)])).take (((x.length : Int)).toNat))) ∧ ∀ (i_3' : Int) (l_3' : List CS), Inv_1' i_3' l_3' →
                          (if (decide (i_3' < (l_3'.length : Int))) = true then
                            ((0 ≤ (IntKind.wrap .u64 ((IntKind.wrap .u64 i_3') + 77)) ∧ (IntKind.wrap .u64 ((IntKind.wrap .u64 i_3') + 77)) < 18446744073709551616) ∧ (0 ≤ (1 : Int) ∧ (1 : Int) < 18446744073709551616) ∧ (0 ≤ (1 : Int) ∧ (1 : Int) < 18446744073709551616) ∧ (0 ≤ (1 : Int) ∧ (1 : Int) < 18446744073709551616)) ∧
                            (0 ≤ i_3' ∧ i_3' < (l_3'.length : Int)) ∧
                            (I64 (i_3' + 1)) ∧
                            Inv_1' (i_3' + 1) (l_3'.set ((i_3').toNat) (csW (IntKind.wrap .u64 ((IntKind.wrap .u64 i_3') + 77)) 1 1 1)) ∧ mu_1' (i_3' + 1) (l_3'.set ((i_3').toNat) (csW (IntKind.wrap .u64 ((IntKind.wrap .u64 i_3') + 77)) 1 1 1)) < mu_1' i_3' l_3'
                          else
                            (other.length ≤ 2097152) ∧
                            (
                              (other.length ≤ 2097152) ∧
                              (
                                ((((x ++ [(csW 1 2 3 4), (csW 5 6 7 8)])).take (((x.length : Int)).toNat)).length ≤ 2097152) ∧
                                (
                                  ((atomsL (((x ++ [(csW 1 2 3 4), (csW 5 6 7 8)])).take (((x.length : Int)).toNat))).length ≤ 2097152) ∧
                                  (
                                    ((atomsL (((x ++ [(csW 1 2 3 4), (csW 5 6 7 8)])).take (((x.length : Int)).toNat))).length ≤ 9223372036854775807) ∧
                                    ((!(decide ((atomsL (((x ++ [(csW 1 2 3 4), (csW 5 6 7 8)])).take (((x.length : Int)).toNat))) = l_1'))) = false → ((atomsL (((x ++ [(csW 1 2 3 4), (csW 5 6 7 8)])).take (((x.length : Int)).toNat))).length ≤ 2097152) ∧ ((atomsL (((x ++ [(csW 1 2 3 4), (csW 5 6 7 8)])).take (((x.length : Int)).toNat))).length ≤ 9223372036854775807)) ∧
                                    (if ((!(decide ((atomsL (((x ++ [(csW 1 2 3 4), (csW 5 6 7 8)])).take (((x.length : Int)).toNat))) = l_1'))) || (!(decide ((atomsL (((x ++ [(csW 1 2 3 4), (csW 5 6 7 8)])).take (((x.length : Int)).toNat))) = l_1')))) = true then
                                      K false
                                    else
                                      ((((x ++ [(csW 1 2 3 4), (csW 5 6 7 8)])).take (((x.length : Int)).toNat)).length ≤ 2097152) ∧
                                      (
                                        ((((x ++ [(csW 1 2 3 4), (csW 5 6 7 8)])).take (((x.length : Int)).toNat)).length ≤ 9223372036854775807) ∧
                                        ((decide ((((x ++ [(csW 1 2 3 4), (csW 5 6 7 8)])).take (((x.length : Int)).toNat)) = x)) = true → (0 ≤ (x.length : Int) ∧ (x.length : Int) < ((x ++ [(csW 1 2 3 4), (csW 5 6 7 8)]).length : Int)) ∧ ((0 ≤ (1 : Int) ∧ (1 : Int) < 18446744073709551616) ∧ (0 ≤ (2 : Int) ∧ (2 : Int) < 18446744073709551616) ∧ (0 ≤ (3 : Int) ∧ (3 : Int) < 18446744073709551616) ∧ (0 ≤ (4 : Int) ∧ (4 : Int) < 18446744073709551616))) ∧
                                        (((decide ((((x ++ [(csW 1 2 3 4), (csW 5 6 7 8)])).take (((x.length : Int)).toNat)) = x)) && (decide (((x ++ [(csW 1 2 3 4), (csW 5 6 7 8)]).getD ((x.length : Int)).toNat default) = (csW 1 2 3 4)))) = true → (I64 ((x.length : Int) + 1)) ∧ (0 ≤ ((x.length : Int) + 1) ∧ ((x.length : Int) + 1) < ((x ++ [(csW 1 2 3 4), (csW 5 6 7 8)]).length : Int)) ∧ ((0 ≤ (5 : Int) ∧ (5 : Int) < 18446744073709551616) ∧ (0 ≤ (6 : Int) ∧ (6 : Int) < 18446744073709551616) ∧ (0 ≤ (7 : Int) ∧ (7 : Int) < 18446744073709551616) ∧ (0 ≤ (8 : Int) ∧ (8 : Int) < 18446744073709551616))) ∧
                                        K (((decide ((((x ++ [(csW 1 2 3 4), (csW 5 6 7 8)])).take (((x.length : Int)).toNat)) = x)) && (decide (((x ++ [(csW 1 2 3 4), (csW 5 6 7 8)]).getD ((x.length : Int)).toNat default) = (csW 1 2 3 4)))) && (decide (((x ++ [(csW 1 2 3 4), (csW 5 6 7 8)]).getD (((x.length : Int) + 1)).toNat default) = (csW 5 6 7 8)))))))))))))))))))
set_option maxRecDepth 100000 in
theorem latoms_wp (w : Value) (w_1' : Value) (x : List CS) (other : List CS) (Ri1 : List (Nat × Obj)) (hRi1 : InSl w Ri1 x.length (x.flatMap wl)) (Ri2 : List (Nat × Obj)) (hRi2 : InSl w_1' Ri2 other.length (other.flatMap wl)) (K : Bool → Prop) (h : latoms_vc x other K) :
    Does Try.prog 7 [w, w_1'] (Ri1 ++ (Ri2 ++ [])) [] (fun o => (∃ (v : Bool), K v ∧ o = .ret (Value.bool v) []) ∨ (False)) := by
  unfold latoms_vc at h
  refine does_of_wc (n := 113) (L0 := [(0, w), (1, w_1')]) Try.func7 rfl rfl rfl rfl (fun w0 M Q hE => ?_)
  have hi1 : LIn ⟨113, [], w0, M, (Ri1 ++ (Ri2 ++ []))⟩ w x.length (x.flatMap wl) := LIn.mk hRi1 (fun p hp => by simp [hp])
  have hi2 : LIn ⟨113, [], w0, M, (Ri1 ++ (Ri2 ++ []))⟩ w_1' other.length (other.flatMap wl) := LIn.mk hRi2 (fun p hp => by simp [hp])
  refine wc_seq (fun K0 hK => ?_)
  refine wc_region ?_
  refine WL.val (OV.assign rfl) rfl rfl rfl ?_
  refine WL.nil ?_
  refine KX.go (hK [(0, w), (1, w_1')] _ ?_) ⟨rfl, rfl, trivial⟩
  refine wc_seq (fun K0_1' hK_1' => ?_)
  refine wc_region ?_
  refine WL.val (OV.move rfl) rfl rfl rfl ?_
  obtain ⟨o, h⟩ := h
  refine WL.callS1 (A := []) tf_ent_22 rfl (marked_does w x o) rfl (LOk.inn hi1) trivial rfl rfl (fun r H' hS => ?_) (fun c H' hS => ?_)
  · obtain ⟨w_2', ho⟩ := hS
    obtain ⟨hr1, hr2⟩ := Out.ret.inj ho
    subst hr2
    replace hr1 := hr1.symm
    subst hr1
    obtain ⟨o_1', h⟩ := h
    refine WL.callS1 (A := []) tf_ent_21 rfl (ratoms_does w_2' x o_1') rfl (LOk.row 0 rfl) trivial rfl rfl (fun r H' hS => ?_) (fun c H' hS => ?_)
    · obtain ⟨w_3', ho⟩ := hS
      obtain ⟨hr1, hr2⟩ := Out.ret.inj ho
      subst hr2
      replace hr1 := hr1.symm
      subst hr1
      refine WL.val (OV.assign rfl) rfl rfl rfl ?_
      refine WL.nil ?_
      refine KX.go (hK_1' [(0, w), (1, w_1'), (5, w_3')] _ ?_) ⟨rfl, rfl, rfl, trivial⟩
      refine wc_seq (fun K0_2' hK_2' => ?_)
      refine wc_region ?_
      refine WL.val (OV.move rfl) rfl rfl rfl ?_
      refine WL.val (OV.lenRow 0 rfl rfl tf_sl_42) rfl rfl rfl ?_
      obtain ⟨o_2', h⟩ := h
      refine WL.makeRow (zero := cs0) rfl rfl tf_sl_41 tf_info_23 o_2' wl rfl wl_len rfl rfl (fun w_4' => ?_)
      refine WL.val (OV.assign rfl) rfl rfl rfl ?_
      refine WL.nil ?_
      refine KX.go (hK_2' [(0, w), (1, w_1'), (5, w_3'), (6, w_4')] _ ?_) ⟨rfl, rfl, rfl, rfl, trivial⟩
      refine wc_seq (fun K0_3' hK_3' => ?_)
      refine wc_seq (fun K0_4' hK_4' => ?_)
      refine wc_region ?_
      refine WL.val (OV.assign rfl) rfl rfl rfl ?_
      refine WL.nil ?_
      refine KX.go (hK_4' [(0, w), (1, w_1'), (5, w_3'), (6, w_4'), (7, Value.int .i64 0)] _ ?_) ⟨rfl, rfl, rfl, rfl, rfl, trivial⟩
      refine wc_block ?_
      refine WC.pick (H' := [HA.row w_4' 23 4 (List.replicate ((atomsL x).length : Int).toNat cs0).length ((List.replicate ((atomsL x).length : Int).toNat cs0).flatMap wl), HA.row w_3' 28 256 (atomsL x).length ((atomsL x).flatMap rfC)]) [0, 1] rfl rfl ?_
      obtain ⟨Inv, mu, h0, hr⟩ := h
      refine wc_loop (S := Int × (List CS)) (fun σ => Inv σ.1 σ.2) (fun σ => mu σ.1 σ.2) (fun σ => [(0, w), (1, w_1'), (5, w_3'), (6, w_4'), (7, Value.int .i64 σ.1)]) (fun σ => [HA.row w_4' 23 4 σ.2.length (σ.2.flatMap wl), HA.row w_3' 28 256 (atomsL x).length ((atomsL x).flatMap rfC)]) (0, List.replicate ((atomsL x).length : Int).toNat cs0) h0 ⟨rfl, rfl, rfl, rfl, rfl, trivial⟩ rfl ?_
      rintro ⟨i_1', l_1'⟩ hi K0_11' hK_11'
      have h := hr i_1' l_1' hi
      show WC _ _ _ _ [(0, w), (1, w_1'), (5, w_3'), (6, w_4'), (7, Value.int .i64 i_1')] [HA.row w_4' 23 4 l_1'.length (l_1'.flatMap wl), HA.row w_3' 28 256 (atomsL x).length ((atomsL x).flatMap rfC)]
      refine wc_seq (fun K0_12' hK_12' => ?_)
      refine wc_seq (fun K0_13' hK_13' => ?_)
      refine wc_region ?_
      refine WL.val (OV.move rfl) rfl rfl rfl ?_
      refine WL.val (OV.move rfl) rfl rfl rfl ?_
      refine WL.val (OV.lenRow 1 rfl rfl tf_sl_42) rfl rfl rfl ?_
      refine WL.val (OV.lss rfl rfl) rfl rfl rfl ?_
      refine WL.nil ?_
      refine KX.go (hK_13' [(0, w), (1, w_1'), (5, w_3'), (6, w_4'), (7, Value.int .i64 i_1'), (23, Value.bool (decide (i_1' < ((atomsL x).length : Int))))] _ ?_) ⟨rfl, rfl, rfl, rfl, rfl, rfl, trivial⟩
      refine wc_cond (b := decide (i_1' < ((atomsL x).length : Int))) rfl (fun hb => ?_) (fun hb => ?_)
      · replace h := if_T h hb
        refine wc_skip ?_
        refine KX.go (hK_12' [(0, w), (1, w_1'), (5, w_3'), (6, w_4'), (7, Value.int .i64 i_1')] _ ?_) ⟨rfl, rfl, rfl, rfl, rfl, trivial⟩
        refine wc_seq (fun K0_14' hK_14' => ?_)
        refine wc_block ?_
        refine wc_region ?_
        refine WL.val (OV.move rfl) rfl rfl rfl ?_
        refine WL.val (OV.move rfl) rfl rfl rfl ?_
        refine WL.val (OV.move rfl) rfl rfl rfl ?_
        refine WL.val (OV.move rfl) rfl rfl rfl ?_
        obtain ⟨o_8', h⟩ := h
        refine WL.val (OV.indexRow 1 rfl rfl rfl tf_sl_42 o_8') rfl rfl rfl ?_
        refine WL.val (OV.loadE (f := rfC) 1 rfl rfl rfC_len (by decide) (by omega) tf_row_28) rfl rfl rfl ?_
        refine WL.call (A := []) tf_ent_23 rfl (wordsB_does ((atomsL x).getD (i_1').toNat default)) rfl trivial rfl rfl ?_
        obtain ⟨o_9', h⟩ := h
        refine WL.val (OV.indexRow 0 rfl rfl rfl tf_sl_41 o_9') rfl rfl rfl ?_
        refine WL.storeE (f := wl) (z := ((atomsL x).getD (i_1').toNat default)) 0 rfl rfl rfl wl_len (by decide) (by omega) rfl tf_size_23 (wl_one ((atomsL x).getD (i_1').toNat default)) rfl ?_
        refine WL.nil ?_
        refine KX.go (hK_14' [(0, w), (1, w_1'), (5, w_3'), (6, w_4'), (7, Value.int .i64 i_1')] _ ?_) ⟨rfl, rfl, rfl, rfl, rfl, trivial⟩
        refine wc_region ?_
        refine WL.val (OV.move rfl) rfl rfl rfl ?_
        obtain ⟨o_10', h⟩ := h
        refine WL.val (OV.add rfl rfl o_10') rfl rfl rfl ?_
        refine WL.val (OV.assign rfl) rfl rfl rfl ?_
        refine WL.nil ?_
        exact KX.goH (hK_11' (i_1' + 1, l_1'.set ((i_1').toNat) ((atomsL x).getD (i_1').toNat default)) h.1 h.2) ⟨rfl, rfl, rfl, rfl, rfl, trivial⟩ [0, 1] rfl rfl
      · replace h := if_F h hb
        refine wc_exit ?_
        refine KX.go (hK_3' [(0, w), (1, w_1'), (6, w_4')] _ ?_) ⟨rfl, rfl, rfl, trivial⟩
        refine wc_seq (fun K0_15' hK_15' => ?_)
        refine wc_region ?_
        refine WL.val (OV.move rfl) rfl rfl rfl ?_
        obtain ⟨o_11', h⟩ := h
        refine WL.callS1 (A := []) tf_ent_24 rfl (sets_does w x o_11') rfl (LOk.inn hi1) trivial rfl rfl (fun r H' hS => ?_) (fun c H' hS => ?_)
        · obtain ⟨w_5', ho⟩ := hS
          obtain ⟨hr1, hr2⟩ := Out.ret.inj ho
          subst hr2
          replace hr1 := hr1.symm
          subst hr1
          obtain ⟨o_12', h⟩ := h
          refine WL.val (OV.build rfl (cs := wl (csW 1 2 3 4)) (by rw [csW_wl o_12']; rfl)) rfl rfl rfl ?_
          obtain ⟨o_13', h⟩ := h
          refine WL.val (OV.build rfl (cs := wl (csW 5 6 7 8)) (by rw [csW_wl o_13']; rfl)) rfl rfl rfl ?_
          refine WL.make (MV.buildSlice (cs := (wl (csW 1 2 3 4)) ++ (wl (csW 5 6 7 8))) rfl tf_sl_46 (by first | rfl | kernel_rfl)) rfl rfl rfl (fun b => ?_)
          obtain ⟨o_14', h⟩ := h
          refine WL.append (f := wl) (ms := [(csW 1 2 3 4), (csW 5 6 7 8)]) 1 0 rfl rfl rfl rfl rfl rfl wl_len (by decide) (by rw [List.all_append, (wl_one (csW 1 2 3 4)), (wl_one (csW 5 6 7 8))]; rfl) tf_sl_46 tf_info_26 rfl o_14' rfl rfl (fun w_6' => ?_)
          refine WL.val (OV.assign rfl) rfl rfl rfl ?_
          refine WL.nil ?_
          refine KX.go (hK_15' [(0, w), (1, w_1'), (6, w_4'), (8, w_6')] _ ?_) ⟨rfl, rfl, rfl, rfl, trivial⟩
          refine wc_seq (fun K0_16' hK_16' => ?_)
          refine wc_region ?_
          refine WL.val (OV.move rfl) rfl rfl rfl ?_
          refine WL.val (OV.move rfl) rfl rfl rfl ?_
          refine WL.val (OV.lenIn hi1 rfl tf_sl_41) rfl rfl rfl ?_
          obtain ⟨o_15', h⟩ := h
          refine WL.val (OV.sliceTo 1 rfl rfl rfl tf_sl_46 o_15') rfl rfl rfl ?_
          refine WL.val (OV.assign rfl) rfl rfl rfl ?_
          refine WL.nil ?_
          refine KX.go (hK_16' [(0, w), (1, w_1'), (6, w_4'), (8, w_6'), (9, slTo w_6' ((x.length : Int)).toNat)] _ ?_) ⟨rfl, rfl, rfl, rfl, rfl, trivial⟩
          refine wc_seq (fun K0_17' hK_17' => ?_)
          refine wc_region ?_
          refine WL.val (OV.move rfl) rfl rfl rfl ?_
          obtain ⟨o_16', h⟩ := h
          refine WL.callS1 (A := []) tf_ent_25 rfl (atoms_does (slTo w_6' ((x.length : Int)).toNat) (((x ++ [(csW 1 2 3 4), (csW 5 6 7 8)])).take (((x.length : Int)).toNat)) o_16') rfl (LOk.preE 1 rfl wl_len (by omega)) trivial rfl rfl (fun r H' hS => ?_) (fun c H' hS => ?_)
          · obtain ⟨w_7', ho⟩ := hS
            obtain ⟨hr1, hr2⟩ := Out.ret.inj ho
            subst hr2
            replace hr1 := hr1.symm
            subst hr1
            refine WL.val (OV.assign rfl) rfl rfl rfl ?_
            refine WL.nil ?_
            refine KX.go (hK_17' [(0, w), (1, w_1'), (6, w_4'), (8, w_6'), (9, slTo w_6' ((x.length : Int)).toNat), (10, w_7')] _ ?_) ⟨rfl, rfl, rfl, rfl, rfl, rfl, trivial⟩
            refine wc_seq (fun K0_18' hK_18' => ?_)
            refine wc_region ?_
            refine WL.val (OV.move rfl) rfl rfl rfl ?_
            obtain ⟨o_17', h⟩ := h
            refine WL.callS1 (A := []) tf_ent_25 rfl (atoms_does (slTo w_6' ((x.length : Int)).toNat) (((x ++ [(csW 1 2 3 4), (csW 5 6 7 8)])).take (((x.length : Int)).toNat)) o_17') rfl (LOk.preE 2 rfl wl_len (by omega)) trivial rfl rfl (fun r H' hS => ?_) (fun c H' hS => ?_)
            · obtain ⟨w_8', ho⟩ := hS
              obtain ⟨hr1, hr2⟩ := Out.ret.inj ho
              subst hr2
              replace hr1 := hr1.symm
              subst hr1
              refine WL.val (OV.assign rfl) rfl rfl rfl ?_
              refine WL.nil ?_
              refine KX.go (hK_18' [(0, w), (1, w_1'), (6, w_4'), (8, w_6'), (9, slTo w_6' ((x.length : Int)).toNat), (10, w_7'), (11, w_8')] _ ?_) ⟨rfl, rfl, rfl, rfl, rfl, rfl, rfl, trivial⟩
              refine wc_seq (fun K0_19' hK_19' => ?_)
              refine wc_seq (fun K0_20' hK_20' => ?_)
              refine wc_region ?_
              refine WL.val (OV.move rfl) rfl rfl rfl ?_
              obtain ⟨o_18', h⟩ := h
              refine WL.callS1 (A := []) tf_ent_27 rfl (plain_does w_7' (atomsL (((x ++ [(csW 1 2 3 4), (csW 5 6 7 8)])).take (((x.length : Int)).toNat))) o_18') rfl (LOk.row 1 rfl) trivial rfl rfl (fun r H' hS => ?_) (fun c H' hS => ?_)
              · obtain ⟨w_9', ho⟩ := hS
                obtain ⟨hr1, hr2⟩ := Out.ret.inj ho
                subst hr2
                replace hr1 := hr1.symm
                subst hr1
                refine WL.val (OV.move rfl) rfl rfl rfl ?_
                obtain ⟨o_19', h⟩ := h
                refine WL.call2 (A := []) tf_ent_26 rfl (sameWords_does w_9' w_4' (atomsL (((x ++ [(csW 1 2 3 4), (csW 5 6 7 8)])).take (((x.length : Int)).toNat))) l_1' o_19') rfl (LOk.row 0 rfl) (LOk.row 5 rfl) trivial rfl rfl ?_
                refine WL.val (OV.not rfl) rfl rfl rfl ?_
                refine WL.val (OV.move rfl) rfl rfl rfl ?_
                obtain ⟨o_22', h⟩ := h
                refine WL.cut 6 [(0, w), (1, w_1'), (6, w_4'), (8, w_6'), (9, slTo w_6' ((x.length : Int)).toNat), (10, w_7'), (11, w_8'), (59, Value.bool ((!(decide ((atomsL (((x ++ [(csW 1 2 3 4), (csW 5 6 7 8)])).take (((x.length : Int)).toNat))) = l_1'))) || (!(decide ((atomsL (((x ++ [(csW 1 2 3 4), (csW 5 6 7 8)])).take (((x.length : Int)).toNat))) = l_1')))))] ?_ (fun K0_21' hK_21' => ?_)
                rotate_left
                · refine WL.split (!(decide ((atomsL (((x ++ [(csW 1 2 3 4), (csW 5 6 7 8)])).take (((x.length : Int)).toNat))) = l_1'))) (fun hb => ?_) (fun hb => ?_)
                  · refine WL.set 53 rfl (congrArg Value.bool hb) ?_
                    refine WL.skip rfl rfl rfl ?_
                    refine WL.skip rfl rfl rfl ?_
                    refine WL.skip rfl rfl rfl ?_
                    refine WL.skip rfl rfl rfl ?_
                    refine WL.skip rfl rfl rfl ?_
                    refine WL.val (OV.pickT rfl rfl) rfl rfl rfl ?_
                    refine WL.set 59 rfl (oT (v := !(decide ((atomsL (((x ++ [(csW 1 2 3 4), (csW 5 6 7 8)])).take (((x.length : Int)).toNat))) = l_1'))) hb) ?_
                    exact WL.end_ (KX.go hK_21' ⟨rfl, rfl, rfl, rfl, rfl, rfl, rfl, rfl, trivial⟩)
                  · obtain ⟨o_20', o_21'⟩ := o_22' hb
                    refine WL.set 53 rfl (congrArg Value.bool hb) ?_
                    refine WL.val (OV.move rfl) rfl rfl rfl ?_
                    refine WL.callS1 (A := []) tf_ent_27 rfl (plain_does w_8' (atomsL (((x ++ [(csW 1 2 3 4), (csW 5 6 7 8)])).take (((x.length : Int)).toNat))) o_20') rfl (LOk.row 1 rfl) trivial rfl rfl (fun r H' hS => ?_) (fun c H' hS => ?_)
                    rotate_left
                    · obtain ⟨w_10', ho⟩ := hS
                      cases ho
                    obtain ⟨w_10', ho⟩ := hS
                    obtain ⟨hr1, hr2⟩ := Out.ret.inj ho
                    subst hr2
                    replace hr1 := hr1.symm
                    subst hr1
                    refine WL.val (OV.move rfl) rfl rfl rfl ?_
                    refine WL.call2 (A := []) tf_ent_26 rfl (sameWords_does w_10' w_4' (atomsL (((x ++ [(csW 1 2 3 4), (csW 5 6 7 8)])).take (((x.length : Int)).toNat))) l_1' o_21') rfl (LOk.row 0 rfl) (LOk.row 6 rfl) trivial rfl rfl ?_
                    refine WL.val (OV.not rfl) rfl rfl rfl ?_
                    refine WL.val (OV.pickF rfl rfl) rfl rfl rfl ?_
                    refine WL.set 59 rfl (oF (v := !(decide ((atomsL (((x ++ [(csW 1 2 3 4), (csW 5 6 7 8)])).take (((x.length : Int)).toNat))) = l_1'))) hb) ?_
                    exact WL.end_ (KX.goH hK_21' ⟨rfl, rfl, rfl, rfl, rfl, rfl, rfl, rfl, trivial⟩ [1, 2, 3, 4, 5, 6, 7] rfl rfl)
                refine WL.nil ?_
                refine KX.go (hK_20' [(0, w), (1, w_1'), (6, w_4'), (8, w_6'), (9, slTo w_6' ((x.length : Int)).toNat), (10, w_7'), (11, w_8'), (59, Value.bool ((!(decide ((atomsL (((x ++ [(csW 1 2 3 4), (csW 5 6 7 8)])).take (((x.length : Int)).toNat))) = l_1'))) || (!(decide ((atomsL (((x ++ [(csW 1 2 3 4), (csW 5 6 7 8)])).take (((x.length : Int)).toNat))) = l_1')))))] _ ?_) ⟨rfl, rfl, rfl, rfl, rfl, rfl, rfl, rfl, trivial⟩
                refine wc_cond (b := (!(decide ((atomsL (((x ++ [(csW 1 2 3 4), (csW 5 6 7 8)])).take (((x.length : Int)).toNat))) = l_1'))) || (!(decide ((atomsL (((x ++ [(csW 1 2 3 4), (csW 5 6 7 8)])).take (((x.length : Int)).toNat))) = l_1')))) rfl (fun hb => ?_) (fun hb => ?_)
                · replace h := if_T h hb
                  refine wc_seq (fun K0_22' hK_22' => ?_)
                  refine wc_region ?_
                  refine WL.val (OV.assign rfl) rfl rfl rfl ?_
                  refine WL.nil ?_
                  refine KX.go (hK_22' [(4, Value.bool false)] _ ?_) ⟨rfl, trivial⟩
                  refine wc_ret ?_
                  exact hE.ret [] rfl rfl (.inl ⟨_, h, rfl⟩) (ResV.of1 rfl (RV.tmp rfl))
                · replace h := if_F h hb
                  refine wc_skip ?_
                  refine KX.go (hK_19' [(0, w), (1, w_1'), (6, w_4'), (8, w_6'), (9, slTo w_6' ((x.length : Int)).toNat), (10, w_7'), (11, w_8')] _ ?_) ⟨rfl, rfl, rfl, rfl, rfl, rfl, rfl, trivial⟩
                  refine wc_seq (fun K0_23' hK_23' => ?_)
                  refine wc_seq (fun K0_24' hK_24' => ?_)
                  refine wc_region ?_
                  refine WL.val (OV.assign rfl) rfl rfl rfl ?_
                  refine WL.nil ?_
                  refine KX.go (hK_24' [(0, w), (1, w_1'), (6, w_4'), (8, w_6'), (9, slTo w_6' ((x.length : Int)).toNat), (10, w_7'), (11, w_8'), (12, Value.int .i64 0)] _ ?_) ⟨rfl, rfl, rfl, rfl, rfl, rfl, rfl, rfl, trivial⟩
                  refine wc_block ?_
                  refine WC.pick (H' := [HA.row w_8' 26 4 (atomsL (((x ++ [(csW 1 2 3 4), (csW 5 6 7 8)])).take (((x.length : Int)).toNat))).length ((atomsL (((x ++ [(csW 1 2 3 4), (csW 5 6 7 8)])).take (((x.length : Int)).toNat))).flatMap wl), HA.row w_7' 26 4 (atomsL (((x ++ [(csW 1 2 3 4), (csW 5 6 7 8)])).take (((x.length : Int)).toNat))).length ((atomsL (((x ++ [(csW 1 2 3 4), (csW 5 6 7 8)])).take (((x.length : Int)).toNat))).flatMap wl), HA.row w_6' 26 4 (x ++ [(csW 1 2 3 4), (csW 5 6 7 8)]).length ((x ++ [(csW 1 2 3 4), (csW 5 6 7 8)]).flatMap wl), HA.row w_4' 23 4 l_1'.length (l_1'.flatMap wl)]) [1, 2, 4, 5] rfl rfl ?_
                  obtain ⟨Inv_1', mu_1', h0_1', hr_1'⟩ := h
                  refine wc_loop (S := Int × (List CS)) (fun σ => Inv_1' σ.1 σ.2) (fun σ => mu_1' σ.1 σ.2) (fun σ => [(0, w), (1, w_1'), (6, w_4'), (8, w_6'), (9, slTo w_6' ((x.length : Int)).toNat), (10, w_7'), (11, w_8'), (12, Value.int .i64 σ.1)]) (fun σ => [HA.row w_8' 26 4 (atomsL (((x ++ [(csW 1 2 3 4), (csW 5 6 7 8)])).take (((x.length : Int)).toNat))).length ((atomsL (((x ++ [(csW 1 2 3 4), (csW 5 6 7 8)])).take (((x.length : Int)).toNat))).flatMap wl), HA.row w_7' 26 4 σ.2.length (σ.2.flatMap wl), HA.row w_6' 26 4 (x ++ [(csW 1 2 3 4), (csW 5 6 7 8)]).length ((x ++ [(csW 1 2 3 4), (csW 5 6 7 8)]).flatMap wl), HA.row w_4' 23 4 l_1'.length (l_1'.flatMap wl)]) (0, atomsL (((x ++ [(csW 1 2 3 4), (csW 5 6 7 8)])).take (((x.length : Int)).toNat))) h0_1' ⟨rfl, rfl, rfl, rfl, rfl, rfl, rfl, rfl, trivial⟩ rfl ?_
                  rintro ⟨i_3', l_3'⟩ hi K0_31' hK_31'
                  have h := hr_1' i_3' l_3' hi
                  show WC _ _ _ _ [(0, w), (1, w_1'), (6, w_4'), (8, w_6'), (9, slTo w_6' ((x.length : Int)).toNat), (10, w_7'), (11, w_8'), (12, Value.int .i64 i_3')] [HA.row w_8' 26 4 (atomsL (((x ++ [(csW 1 2 3 4), (csW 5 6 7 8)])).take (((x.length : Int)).toNat))).length ((atomsL (((x ++ [(csW 1 2 3 4), (csW 5 6 7 8)])).take (((x.length : Int)).toNat))).flatMap wl), HA.row w_7' 26 4 l_3'.length (l_3'.flatMap wl), HA.row w_6' 26 4 (x ++ [(csW 1 2 3 4), (csW 5 6 7 8)]).length ((x ++ [(csW 1 2 3 4), (csW 5 6 7 8)]).flatMap wl), HA.row w_4' 23 4 l_1'.length (l_1'.flatMap wl)]
                  refine wc_seq (fun K0_32' hK_32' => ?_)
                  refine wc_seq (fun K0_33' hK_33' => ?_)
                  refine wc_region ?_
                  refine WL.val (OV.move rfl) rfl rfl rfl ?_
                  refine WL.val (OV.move rfl) rfl rfl rfl ?_
                  refine WL.val (OV.lenRow 1 rfl rfl tf_sl_46) rfl rfl rfl ?_
                  refine WL.val (OV.lss rfl rfl) rfl rfl rfl ?_
                  refine WL.nil ?_
                  refine KX.go (hK_33' [(0, w), (1, w_1'), (6, w_4'), (8, w_6'), (9, slTo w_6' ((x.length : Int)).toNat), (10, w_7'), (11, w_8'), (12, Value.int .i64 i_3'), (63, Value.bool (decide (i_3' < (l_3'.length : Int))))] _ ?_) ⟨rfl, rfl, rfl, rfl, rfl, rfl, rfl, rfl, rfl, trivial⟩
                  refine wc_cond (b := decide (i_3' < (l_3'.length : Int))) rfl (fun hb => ?_) (fun hb => ?_)
                  · replace h := if_T h hb
                    refine wc_skip ?_
                    refine KX.go (hK_32' [(0, w), (1, w_1'), (6, w_4'), (8, w_6'), (9, slTo w_6' ((x.length : Int)).toNat), (10, w_7'), (11, w_8'), (12, Value.int .i64 i_3')] _ ?_) ⟨rfl, rfl, rfl, rfl, rfl, rfl, rfl, rfl, trivial⟩
                    refine wc_seq (fun K0_34' hK_34' => ?_)
                    refine wc_block ?_
                    refine wc_region ?_
                    refine WL.val (OV.move rfl) rfl rfl rfl ?_
                    refine WL.val (OV.move rfl) rfl rfl rfl ?_
                    refine WL.val (OV.move rfl) rfl rfl rfl ?_
                    refine WL.val (OV.conv rfl tf_some_3 Try.underlying22) rfl rfl rfl ?_
                    refine WL.val (OV.addW rfl rfl) rfl rfl rfl ?_
                    obtain ⟨o_28', h⟩ := h
                    refine WL.val (OV.build rfl (cs := wl (csW (IntKind.wrap .u64 ((IntKind.wrap .u64 i_3') + 77)) 1 1 1)) (by rw [csW_wl o_28']; rfl)) rfl rfl rfl ?_
                    obtain ⟨o_29', h⟩ := h
                    refine WL.val (OV.indexRow 1 rfl rfl rfl tf_sl_46 o_29') rfl rfl rfl ?_
                    refine WL.storeE (f := wl) (z := (csW (IntKind.wrap .u64 ((IntKind.wrap .u64 i_3') + 77)) 1 1 1)) 1 rfl rfl rfl wl_len (by decide) (by omega) rfl tf_size_26 (wl_one (csW (IntKind.wrap .u64 ((IntKind.wrap .u64 i_3') + 77)) 1 1 1)) rfl ?_
                    refine WL.nil ?_
                    refine KX.go (hK_34' [(0, w), (1, w_1'), (6, w_4'), (8, w_6'), (9, slTo w_6' ((x.length : Int)).toNat), (10, w_7'), (11, w_8'), (12, Value.int .i64 i_3')] _ ?_) ⟨rfl, rfl, rfl, rfl, rfl, rfl, rfl, rfl, trivial⟩
                    refine wc_region ?_
                    refine WL.val (OV.move rfl) rfl rfl rfl ?_
                    obtain ⟨o_30', h⟩ := h
                    refine WL.val (OV.add rfl rfl o_30') rfl rfl rfl ?_
                    refine WL.val (OV.assign rfl) rfl rfl rfl ?_
                    refine WL.nil ?_
                    exact KX.goH (hK_31' (i_3' + 1, l_3'.set ((i_3').toNat) (csW (IntKind.wrap .u64 ((IntKind.wrap .u64 i_3') + 77)) 1 1 1)) h.1 h.2) ⟨rfl, rfl, rfl, rfl, rfl, rfl, rfl, rfl, trivial⟩ [0, 1, 2, 3] rfl rfl
                  · replace h := if_F h hb
                    refine wc_exit ?_
                    refine KX.go (hK_23' [(0, w), (1, w_1'), (6, w_4'), (8, w_6'), (9, slTo w_6' ((x.length : Int)).toNat), (11, w_8')] _ ?_) ⟨rfl, rfl, rfl, rfl, rfl, rfl, trivial⟩
                    refine wc_seq (fun K0_35' hK_35' => ?_)
                    refine wc_region ?_
                    refine WL.val (OV.move rfl) rfl rfl rfl ?_
                    obtain ⟨o_31', h⟩ := h
                    refine WL.callS1 (A := []) tf_ent_24 rfl (sets_does w_1' other o_31') rfl (LOk.inn hi2) trivial rfl rfl (fun r H' hS => ?_) (fun c H' hS => ?_)
                    · obtain ⟨w_11', ho⟩ := hS
                      obtain ⟨hr1, hr2⟩ := Out.ret.inj ho
                      subst hr2
                      replace hr1 := hr1.symm
                      subst hr1
                      obtain ⟨o_32', h⟩ := h
                      refine WL.callS1 (A := []) tf_ent_25 rfl (atoms_does w_11' other o_32') rfl (LOk.row 0 rfl) trivial rfl rfl (fun r H' hS => ?_) (fun c H' hS => ?_)
                      · obtain ⟨w_12', ho⟩ := hS
                        obtain ⟨hr1, hr2⟩ := Out.ret.inj ho
                        subst hr2
                        replace hr1 := hr1.symm
                        subst hr1
                        refine WL.nil ?_
                        refine KX.go (hK_35' [(0, w), (6, w_4'), (8, w_6'), (9, slTo w_6' ((x.length : Int)).toNat), (11, w_8')] _ ?_) ⟨rfl, rfl, rfl, rfl, rfl, trivial⟩
                        refine wc_seq (fun K0_36' hK_36' => ?_)
                        refine wc_region ?_
                        refine WL.val (OV.move rfl) rfl rfl rfl ?_
                        obtain ⟨o_33', h⟩ := h
                        refine WL.callS1 (A := []) tf_ent_25 rfl (atoms_does (slTo w_6' ((x.length : Int)).toNat) (((x ++ [(csW 1 2 3 4), (csW 5 6 7 8)])).take (((x.length : Int)).toNat)) o_33') rfl (LOk.preE 4 rfl wl_len (by omega)) trivial rfl rfl (fun r H' hS => ?_) (fun c H' hS => ?_)
                        · obtain ⟨w_13', ho⟩ := hS
                          obtain ⟨hr1, hr2⟩ := Out.ret.inj ho
                          subst hr2
                          replace hr1 := hr1.symm
                          subst hr1
                          refine WL.val (OV.assign rfl) rfl rfl rfl ?_
                          refine WL.nil ?_
                          refine KX.go (hK_36' [(0, w), (6, w_4'), (8, w_6'), (9, slTo w_6' ((x.length : Int)).toNat), (11, w_8'), (13, w_13')] _ ?_) ⟨rfl, rfl, rfl, rfl, rfl, rfl, trivial⟩
                          refine wc_seq (fun K0_37' hK_37' => ?_)
                          refine wc_seq (fun K0_38' hK_38' => ?_)
                          refine wc_region ?_
                          refine WL.val (OV.move rfl) rfl rfl rfl ?_
                          obtain ⟨o_34', h⟩ := h
                          refine WL.callS1 (A := []) tf_ent_27 rfl (plain_does w_8' (atomsL (((x ++ [(csW 1 2 3 4), (csW 5 6 7 8)])).take (((x.length : Int)).toNat))) o_34') rfl (LOk.row 3 rfl) trivial rfl rfl (fun r H' hS => ?_) (fun c H' hS => ?_)
                          · obtain ⟨w_14', ho⟩ := hS
                            obtain ⟨hr1, hr2⟩ := Out.ret.inj ho
                            subst hr2
                            replace hr1 := hr1.symm
                            subst hr1
                            refine WL.val (OV.move rfl) rfl rfl rfl ?_
                            obtain ⟨o_35', h⟩ := h
                            refine WL.call2 (A := []) tf_ent_26 rfl (sameWords_does w_14' w_4' (atomsL (((x ++ [(csW 1 2 3 4), (csW 5 6 7 8)])).take (((x.length : Int)).toNat))) l_1' o_35') rfl (LOk.row 0 rfl) (LOk.row 7 rfl) trivial rfl rfl ?_
                            refine WL.val (OV.not rfl) rfl rfl rfl ?_
                            refine WL.val (OV.move rfl) rfl rfl rfl ?_
                            obtain ⟨o_38', h⟩ := h
                            refine WL.cut 6 [(0, w), (8, w_6'), (9, slTo w_6' ((x.length : Int)).toNat), (89, Value.bool ((!(decide ((atomsL (((x ++ [(csW 1 2 3 4), (csW 5 6 7 8)])).take (((x.length : Int)).toNat))) = l_1'))) || (!(decide ((atomsL (((x ++ [(csW 1 2 3 4), (csW 5 6 7 8)])).take (((x.length : Int)).toNat))) = l_1')))))] ?_ (fun K0_39' hK_39' => ?_)
                            rotate_left
                            · refine WL.split (!(decide ((atomsL (((x ++ [(csW 1 2 3 4), (csW 5 6 7 8)])).take (((x.length : Int)).toNat))) = l_1'))) (fun hb => ?_) (fun hb => ?_)
                              · refine WL.set 83 rfl (congrArg Value.bool hb) ?_
                                refine WL.skip rfl rfl rfl ?_
                                refine WL.skip rfl rfl rfl ?_
                                refine WL.skip rfl rfl rfl ?_
                                refine WL.skip rfl rfl rfl ?_
                                refine WL.skip rfl rfl rfl ?_
                                refine WL.val (OV.pickT rfl rfl) rfl rfl rfl ?_
                                refine WL.set 89 rfl (oT (v := !(decide ((atomsL (((x ++ [(csW 1 2 3 4), (csW 5 6 7 8)])).take (((x.length : Int)).toNat))) = l_1'))) hb) ?_
                                exact WL.end_ (KX.go hK_39' ⟨rfl, rfl, rfl, rfl, trivial⟩)
                              · obtain ⟨o_36', o_37'⟩ := o_38' hb
                                refine WL.set 83 rfl (congrArg Value.bool hb) ?_
                                refine WL.val (OV.move rfl) rfl rfl rfl ?_
                                refine WL.callS1 (A := []) tf_ent_27 rfl (plain_does w_13' (atomsL (((x ++ [(csW 1 2 3 4), (csW 5 6 7 8)])).take (((x.length : Int)).toNat))) o_36') rfl (LOk.row 1 rfl) trivial rfl rfl (fun r H' hS => ?_) (fun c H' hS => ?_)
                                rotate_left
                                · obtain ⟨w_15', ho⟩ := hS
                                  cases ho
                                obtain ⟨w_15', ho⟩ := hS
                                obtain ⟨hr1, hr2⟩ := Out.ret.inj ho
                                subst hr2
                                replace hr1 := hr1.symm
                                subst hr1
                                refine WL.val (OV.move rfl) rfl rfl rfl ?_
                                refine WL.call2 (A := []) tf_ent_26 rfl (sameWords_does w_15' w_4' (atomsL (((x ++ [(csW 1 2 3 4), (csW 5 6 7 8)])).take (((x.length : Int)).toNat))) l_1' o_37') rfl (LOk.row 0 rfl) (LOk.row 8 rfl) trivial rfl rfl ?_
                                refine WL.val (OV.not rfl) rfl rfl rfl ?_
                                refine WL.val (OV.pickF rfl rfl) rfl rfl rfl ?_
                                refine WL.set 89 rfl (oF (v := !(decide ((atomsL (((x ++ [(csW 1 2 3 4), (csW 5 6 7 8)])).take (((x.length : Int)).toNat))) = l_1'))) hb) ?_
                                exact WL.end_ (KX.goH hK_39' ⟨rfl, rfl, rfl, rfl, trivial⟩ [1, 2, 3, 4, 5, 6, 7, 8] rfl rfl)
                            refine WL.nil ?_
                            refine KX.go (hK_38' [(0, w), (8, w_6'), (9, slTo w_6' ((x.length : Int)).toNat), (89, Value.bool ((!(decide ((atomsL (((x ++ [(csW 1 2 3 4), (csW 5 6 7 8)])).take (((x.length : Int)).toNat))) = l_1'))) || (!(decide ((atomsL (((x ++ [(csW 1 2 3 4), (csW 5 6 7 8)])).take (((x.length : Int)).toNat))) = l_1')))))] _ ?_) ⟨rfl, rfl, rfl, rfl, trivial⟩
                            refine wc_cond (b := (!(decide ((atomsL (((x ++ [(csW 1 2 3 4), (csW 5 6 7 8)])).take (((x.length : Int)).toNat))) = l_1'))) || (!(decide ((atomsL (((x ++ [(csW 1 2 3 4), (csW 5 6 7 8)])).take (((x.length : Int)).toNat))) = l_1')))) rfl (fun hb => ?_) (fun hb => ?_)
                            · replace h := if_T h hb
                              refine wc_seq (fun K0_40' hK_40' => ?_)
                              refine wc_region ?_
                              refine WL.val (OV.assign rfl) rfl rfl rfl ?_
                              refine WL.nil ?_
                              refine KX.go (hK_40' [(4, Value.bool false)] _ ?_) ⟨rfl, trivial⟩
                              refine wc_ret ?_
                              exact hE.ret [] rfl rfl (.inl ⟨_, h, rfl⟩) (ResV.of1 rfl (RV.tmp rfl))
                            · replace h := if_F h hb
                              refine wc_skip ?_
                              refine KX.go (hK_37' [(0, w), (8, w_6'), (9, slTo w_6' ((x.length : Int)).toNat)] _ ?_) ⟨rfl, rfl, rfl, trivial⟩
                              refine wc_seq (fun K0_41' hK_41' => ?_)
                              refine wc_region ?_
                              refine WL.val (OV.move rfl) rfl rfl rfl ?_
                              obtain ⟨o_39', h⟩ := h
                              refine WL.callS1 (A := []) tf_ent_27 rfl (plain_does (slTo w_6' ((x.length : Int)).toNat) (((x ++ [(csW 1 2 3 4), (csW 5 6 7 8)])).take (((x.length : Int)).toNat)) o_39') rfl (LOk.preE 6 rfl wl_len (by omega)) trivial rfl rfl (fun r H' hS => ?_) (fun c H' hS => ?_)
                              · obtain ⟨w_16', ho⟩ := hS
                                obtain ⟨hr1, hr2⟩ := Out.ret.inj ho
                                subst hr2
                                replace hr1 := hr1.symm
                                subst hr1
                                refine WL.val (OV.move rfl) rfl rfl rfl ?_
                                obtain ⟨o_40', h⟩ := h
                                refine WL.call2 (A := []) tf_ent_26 rfl (sameWords_does w_16' w (((x ++ [(csW 1 2 3 4), (csW 5 6 7 8)])).take (((x.length : Int)).toNat)) x o_40') rfl (LOk.row 0 rfl) (LOk.inn hi1) trivial rfl rfl ?_
                                refine WL.val (OV.move rfl) rfl rfl rfl ?_
                                obtain ⟨o_43', h⟩ := h
                                refine WL.cut 8 [(0, w), (8, w_6'), (102, Value.bool ((decide ((((x ++ [(csW 1 2 3 4), (csW 5 6 7 8)])).take (((x.length : Int)).toNat)) = x)) && (decide (((x ++ [(csW 1 2 3 4), (csW 5 6 7 8)]).getD ((x.length : Int)).toNat default) = (csW 1 2 3 4)))))] ?_ (fun K0_42' hK_42' => ?_)
                                rotate_left
                                · refine WL.split (decide ((((x ++ [(csW 1 2 3 4), (csW 5 6 7 8)])).take (((x.length : Int)).toNat)) = x)) (fun hb => ?_) (fun hb => ?_)
                                  · obtain ⟨o_41', o_42'⟩ := o_43' hb
                                    refine WL.set 94 rfl (congrArg Value.bool hb) ?_
                                    refine WL.val (OV.move rfl) rfl rfl rfl ?_
                                    refine WL.val (OV.move rfl) rfl rfl rfl ?_
                                    refine WL.val (OV.lenIn hi1 rfl tf_sl_41) rfl rfl rfl ?_
                                    refine WL.val (OV.indexRow 7 rfl rfl rfl tf_sl_46 o_41') rfl rfl rfl ?_
                                    refine WL.val (OV.loadE (f := wl) 7 rfl rfl wl_len (by decide) (by omega) tf_row_26) rfl rfl rfl ?_
                                    refine WL.val (OV.build rfl (cs := wl (csW 1 2 3 4)) (by rw [csW_wl o_42']; rfl)) rfl rfl rfl ?_
                                    refine WL.val (OV.eqlA (xs := wl ((x ++ [(csW 1 2 3 4), (csW 5 6 7 8)]).getD ((x.length : Int)).toNat default)) (ys := wl (csW 1 2 3 4)) rfl rfl tf_eqg_26 (eqlCS Try.underlying26 ((x ++ [(csW 1 2 3 4), (csW 5 6 7 8)]).getD ((x.length : Int)).toNat default) (csW 1 2 3 4))) rfl rfl rfl ?_
                                    refine WL.val (OV.pickT rfl rfl) rfl rfl rfl ?_
                                    refine WL.set 102 rfl (bT (v := decide (((x ++ [(csW 1 2 3 4), (csW 5 6 7 8)]).getD ((x.length : Int)).toNat default) = (csW 1 2 3 4))) hb) ?_
                                    exact WL.end_ (KX.go hK_42' ⟨rfl, rfl, rfl, trivial⟩)
                                  · refine WL.set 94 rfl (congrArg Value.bool hb) ?_
                                    refine WL.skip rfl rfl rfl ?_
                                    refine WL.skip rfl rfl rfl ?_
                                    refine WL.skip rfl rfl rfl ?_
                                    refine WL.skip rfl rfl rfl ?_
                                    refine WL.skip rfl rfl rfl ?_
                                    refine WL.skip rfl rfl rfl ?_
                                    refine WL.skip rfl rfl rfl ?_
                                    refine WL.val (OV.pickF rfl rfl) rfl rfl rfl ?_
                                    refine WL.set 102 rfl (bF (v := decide (((x ++ [(csW 1 2 3 4), (csW 5 6 7 8)]).getD ((x.length : Int)).toNat default) = (csW 1 2 3 4))) hb) ?_
                                    exact WL.end_ (KX.go hK_42' ⟨rfl, rfl, rfl, trivial⟩)
                                refine WL.val (OV.move rfl) rfl rfl rfl ?_
                                obtain ⟨o_47', h⟩ := h
                                refine WL.cut 9 [(112, Value.bool (((decide ((((x ++ [(csW 1 2 3 4), (csW 5 6 7 8)])).take (((x.length : Int)).toNat)) = x)) && (decide (((x ++ [(csW 1 2 3 4), (csW 5 6 7 8)]).getD ((x.length : Int)).toNat default) = (csW 1 2 3 4)))) && (decide (((x ++ [(csW 1 2 3 4), (csW 5 6 7 8)]).getD (((x.length : Int) + 1)).toNat default) = (csW 5 6 7 8)))))] ?_ (fun K0_43' hK_43' => ?_)
                                rotate_left
                                · refine WL.split ((decide ((((x ++ [(csW 1 2 3 4), (csW 5 6 7 8)])).take (((x.length : Int)).toNat)) = x)) && (decide (((x ++ [(csW 1 2 3 4), (csW 5 6 7 8)]).getD ((x.length : Int)).toNat default) = (csW 1 2 3 4)))) (fun hb => ?_) (fun hb => ?_)
                                  · obtain ⟨o_44', o_45', o_46'⟩ := o_47' hb
                                    refine WL.set 103 rfl (congrArg Value.bool hb) ?_
                                    refine WL.val (OV.move rfl) rfl rfl rfl ?_
                                    refine WL.val (OV.move rfl) rfl rfl rfl ?_
                                    refine WL.val (OV.lenIn hi1 rfl tf_sl_41) rfl rfl rfl ?_
                                    refine WL.val (OV.add rfl rfl o_44') rfl rfl rfl ?_
                                    refine WL.val (OV.indexRow 7 rfl rfl rfl tf_sl_46 o_45') rfl rfl rfl ?_
                                    refine WL.val (OV.loadE (f := wl) 7 rfl rfl wl_len (by decide) (by omega) tf_row_26) rfl rfl rfl ?_
                                    refine WL.val (OV.build rfl (cs := wl (csW 5 6 7 8)) (by rw [csW_wl o_46']; rfl)) rfl rfl rfl ?_
                                    refine WL.val (OV.eqlA (xs := wl ((x ++ [(csW 1 2 3 4), (csW 5 6 7 8)]).getD (((x.length : Int) + 1)).toNat default)) (ys := wl (csW 5 6 7 8)) rfl rfl tf_eqg_26 (eqlCS Try.underlying26 ((x ++ [(csW 1 2 3 4), (csW 5 6 7 8)]).getD (((x.length : Int) + 1)).toNat default) (csW 5 6 7 8))) rfl rfl rfl ?_
                                    refine WL.val (OV.pickT rfl rfl) rfl rfl rfl ?_
                                    refine WL.set 112 rfl (bT (v := decide (((x ++ [(csW 1 2 3 4), (csW 5 6 7 8)]).getD (((x.length : Int) + 1)).toNat default) = (csW 5 6 7 8))) hb) ?_
                                    exact WL.end_ (KX.go hK_43' ⟨rfl, trivial⟩)
                                  · refine WL.set 103 rfl (congrArg Value.bool hb) ?_
                                    refine WL.skip rfl rfl rfl ?_
                                    refine WL.skip rfl rfl rfl ?_
                                    refine WL.skip rfl rfl rfl ?_
                                    refine WL.skip rfl rfl rfl ?_
                                    refine WL.skip rfl rfl rfl ?_
                                    refine WL.skip rfl rfl rfl ?_
                                    refine WL.skip rfl rfl rfl ?_
                                    refine WL.skip rfl rfl rfl ?_
                                    refine WL.val (OV.pickF rfl rfl) rfl rfl rfl ?_
                                    refine WL.set 112 rfl (bF (v := decide (((x ++ [(csW 1 2 3 4), (csW 5 6 7 8)]).getD (((x.length : Int) + 1)).toNat default) = (csW 5 6 7 8))) hb) ?_
                                    exact WL.end_ (KX.go hK_43' ⟨rfl, trivial⟩)
                                refine WL.val (OV.assign rfl) rfl rfl rfl ?_
                                refine WL.nil ?_
                                refine KX.go (hK_41' [(4, Value.bool (((decide ((((x ++ [(csW 1 2 3 4), (csW 5 6 7 8)])).take (((x.length : Int)).toNat)) = x)) && (decide (((x ++ [(csW 1 2 3 4), (csW 5 6 7 8)]).getD ((x.length : Int)).toNat default) = (csW 1 2 3 4)))) && (decide (((x ++ [(csW 1 2 3 4), (csW 5 6 7 8)]).getD (((x.length : Int) + 1)).toNat default) = (csW 5 6 7 8)))))] _ ?_) ⟨rfl, trivial⟩
                                refine wc_ret ?_
                                exact hE.ret [] rfl rfl (.inl ⟨_, h, rfl⟩) (ResV.of1 rfl (RV.tmp rfl))
                              · obtain ⟨w_16', ho⟩ := hS
                                cases ho
                          · obtain ⟨w_14', ho⟩ := hS
                            cases ho
                        · obtain ⟨w_13', ho⟩ := hS
                          cases ho
                      · obtain ⟨w_12', ho⟩ := hS
                        cases ho
                    · obtain ⟨w_11', ho⟩ := hS
                      cases ho
              · obtain ⟨w_9', ho⟩ := hS
                cases ho
            · obtain ⟨w_8', ho⟩ := hS
              cases ho
          · obtain ⟨w_7', ho⟩ := hS
            cases ho
        · obtain ⟨w_5', ho⟩ := hS
          cases ho
    · obtain ⟨w_3', ho⟩ := hS
      cases ho
  · obtain ⟨w_2', ho⟩ := hS
    cases ho

def lpart_vc (x : List CS) (K : Bool → Prop) : Prop :=
  (x.length ≤ 2097152) ∧
  (
    (x.length ≤ 2097152) ∧
    (
      (x.length ≤ 2097152) ∧
      (
        ∃ (Inv_2' : Int → Int → (Nat → Bool) → (Nat → Int) → Prop) (mu_2' : Int → Int → (Nat → Bool) → (Nat → Int) → Nat),
          Inv_2' (-1) 0 (fun _ => false) (fun _ => 0) ∧ ∀ (last_1' : Int) (i_1' : Int) (seen_11' : Nat → Bool) (place_11' : Nat → Int), Inv_2' last_1' i_1' seen_11' place_11' →
            (if (decide (i_1' < ((atomsL x).length : Int))) = true then
              (0 ≤ i_1' ∧ i_1' < ((atomsL x).length : Int)) ∧
              ∃ (Inv_3' : Int → Int → (Nat → Bool) → (Nat → Int) → Prop) (mu_3' : Int → Int → (Nat → Bool) → (Nat → Int) → Nat),
                Inv_3' (-1) 255 seen_11' place_11' ∧ ∀ (least_13' : Int) (b_10' : Int) (seen_15' : Nat → Bool) (place_15' : Nat → Int), Inv_3' least_13' b_10' seen_15' place_15' →
                  (if (decide (0 ≤ b_10')) = true then
                    ∃ (J0_8' : Int → (Nat → Bool) → (Nat → Int) → Prop),
                      (∀ (least_14' : Int) (seen_16' : Nat → Bool) (place_16' : Nat → Int), J0_8' least_14' seen_16' place_16' →
                        (I64 (b_10' - 1)) ∧
                        Inv_3' least_14' (b_10' - 1) seen_16' place_16' ∧ mu_3' least_14' (b_10' - 1) seen_16' place_16' < mu_3' least_13' b_10' seen_15' place_15') ∧
                      (0 ≤ b_10' ∧ b_10' < 256) ∧
                      (if ((BitVec.getLsbD ((atomsL x).getD (i_1').toNat default)) ((b_10').toNat)) = true then
                        (0 ≤ b_10' ∧ b_10' < 256) ∧
                        (if (seen_15' ((b_10').toNat)) = true then
                          K false
                        else
                          (0 ≤ b_10' ∧ b_10' < 256) ∧
                          (0 ≤ b_10' ∧ b_10' < 256) ∧
                          J0_8' b_10' (fun j => if j = (b_10').toNat then true else seen_15' j) (fun j => if j = (b_10').toNat then i_1' else place_15' j))
                      else
                        J0_8' least_13' seen_15' place_15')
                  else
                    (if (decide (least_13' ≤ last_1')) = true then
                      K false
                    else
                      (I64 (i_1' + 1)) ∧
                      Inv_2' least_13' (i_1' + 1) seen_15' place_15' ∧ mu_2' least_13' (i_1' + 1) seen_15' place_15' < mu_2' last_1' i_1' seen_11' place_11'))
            else
              ∃ (Inv_9' : Int → Prop) (mu_9' : Int → Nat),
                Inv_9' 0 ∧ ∀ (b_12' : Int), Inv_9' b_12' →
                  (if (decide (b_12' < 256)) = true then
                    (0 ≤ b_12' ∧ b_12' < 256) ∧
                    (if (!(seen_11' ((b_12').toNat))) = true then
                      K false
                    else
                      ∃ (Inv_12' : Int → Prop) (mu_12' : Int → Nat),
                        Inv_12' 0 ∧ ∀ (c_3' : Int), Inv_12' c_3' →
                          (if (decide (c_3' < b_12')) = true then
                            ∃ (Inv_13' : Bool → Int → Prop) (mu_13' : Bool → Int → Nat),
                              Inv_13' true 0 ∧ ∀ (alike_11' : Bool) (j_11' : Int), Inv_13' alike_11' j_11' →
                                (if (decide (j_11' < (x.length : Int))) = true then
                                  (alike_11' = true → (0 ≤ j_11' ∧ j_11' < (x.length : Int)) ∧ (0 ≤ b_12' ∧ b_12' < 256) ∧ (0 ≤ j_11' ∧ j_11' < (x.length : Int)) ∧ (0 ≤ c_3' ∧ c_3' < 256)) ∧
                                  (I64 (j_11' + 1)) ∧
                                  Inv_13' (alike_11' && (((BitVec.getLsbD (x.getD (j_11').toNat default)) ((b_12').toNat)) == ((BitVec.getLsbD (x.getD (j_11').toNat default)) ((c_3').toNat)))) (j_11' + 1) ∧ mu_13' (alike_11' && (((BitVec.getLsbD (x.getD (j_11').toNat default)) ((b_12').toNat)) == ((BitVec.getLsbD (x.getD (j_11').toNat default)) ((c_3').toNat)))) (j_11' + 1) < mu_13' alike_11' j_11'
                                else
                                  (0 ≤ b_12' ∧ b_12' < 256) ∧
                                  (0 ≤ c_3' ∧ c_3' < 256) ∧
                                  (if (!(alike_11' == (decide (place_11' ((b_12').toNat) = place_11' ((c_3').toNat))))) = true then
                                    K false
                                  else
                                    (I64 (c_3' + 1)) ∧
                                    Inv_12' (c_3' + 1) ∧ mu_12' (c_3' + 1) < mu_12' c_3'))
                          else
                            (I64 (b_12' + 1)) ∧
                            Inv_9' (b_12' + 1) ∧ mu_9' (b_12' + 1) < mu_9' b_12'))
                  else
                    K (decide (0 < ((atomsL x).length : Int))))))))
set_option maxRecDepth 100000 in
theorem lpart_wp (w : Value) (x : List CS) (Ri1 : List (Nat × Obj)) (hRi1 : InSl w Ri1 x.length (x.flatMap wl)) (K : Bool → Prop) (h : lpart_vc x K) :
    Does Try.prog 8 [w] (Ri1 ++ []) [] (fun o => (∃ (v : Bool), K v ∧ o = .ret (Value.bool v) []) ∨ (False)) := by
  unfold lpart_vc at h
  refine does_of_wc (n := 99) (L0 := [(0, w)]) Try.func8 rfl rfl rfl rfl (fun w0 M Q hE => ?_)
  have hi1 : LIn ⟨99, [], w0, M, (Ri1 ++ [])⟩ w x.length (x.flatMap wl) := LIn.mk hRi1 (fun p hp => by simp [hp])
  refine wc_seq (fun K0 hK => ?_)
  refine wc_region ?_
  refine WL.val (OV.assign rfl) rfl rfl rfl ?_
  refine WL.nil ?_
  refine KX.go (hK [(0, w)] _ ?_) ⟨rfl, trivial⟩
  refine wc_seq (fun K0_1' hK_1' => ?_)
  refine wc_region ?_
  refine WL.val (OV.move rfl) rfl rfl rfl ?_
  obtain ⟨o, h⟩ := h
  refine WL.callS1 (A := []) tf_ent_24 rfl (sets_does w x o) rfl (LOk.inn hi1) trivial rfl rfl (fun r H' hS => ?_) (fun c H' hS => ?_)
  · obtain ⟨w_1', ho⟩ := hS
    obtain ⟨hr1, hr2⟩ := Out.ret.inj ho
    subst hr2
    replace hr1 := hr1.symm
    subst hr1
    obtain ⟨o_1', h⟩ := h
    refine WL.callS1 (A := []) tf_ent_25 rfl (atoms_does w_1' x o_1') rfl (LOk.row 0 rfl) trivial rfl rfl (fun r H' hS => ?_) (fun c H' hS => ?_)
    · obtain ⟨w_2', ho⟩ := hS
      obtain ⟨hr1, hr2⟩ := Out.ret.inj ho
      subst hr2
      replace hr1 := hr1.symm
      subst hr1
      refine WL.val (OV.assign rfl) rfl rfl rfl ?_
      refine WL.nil ?_
      refine KX.go (hK_1' [(0, w), (3, w_2')] _ ?_) ⟨rfl, rfl, trivial⟩
      refine wc_seq (fun K0_2' hK_2' => ?_)
      refine wc_region ?_
      refine WL.val (OV.move rfl) rfl rfl rfl ?_
      obtain ⟨o_2', h⟩ := h
      refine WL.callS1 (A := []) tf_ent_22 rfl (marked_does w x o_2') rfl (LOk.inn hi1) trivial rfl rfl (fun r H' hS => ?_) (fun c H' hS => ?_)
      · obtain ⟨w_3', ho⟩ := hS
        obtain ⟨hr1, hr2⟩ := Out.ret.inj ho
        subst hr2
        replace hr1 := hr1.symm
        subst hr1
        refine WL.val (OV.assign rfl) rfl rfl rfl ?_
        refine WL.nil ?_
        refine KX.go (hK_2' [(3, w_2'), (4, w_3')] _ ?_) ⟨rfl, rfl, trivial⟩
        refine wc_seq (fun K0_3' hK_3' => ?_)
        refine wc_region ?_
        refine WL.val (OV.assign rfl) rfl rfl rfl ?_
        refine WL.nil ?_
        refine KX.go (hK_3' [(3, w_2'), (4, w_3'), (5, Value.int .i64 (-1))] _ ?_) ⟨rfl, rfl, rfl, trivial⟩
        refine wc_seq (fun K0_4' hK_4' => ?_)
        refine wc_region ?_
        refine WL.make (MV.alloc tf_zero_51) rfl rfl rfl (fun b => ?_)
        refine WL.nil ?_
        refine KX.go (hK_4' [(3, w_2'), (4, w_3'), (5, Value.int .i64 (-1)), (6, Value.pointer (some ⟨b, 0, none⟩))] _ ?_) ⟨rfl, rfl, rfl, rfl, trivial⟩
        refine wc_seq (fun K0_5' hK_5' => ?_)
        refine wc_region ?_
        refine WL.make (MV.alloc tf_zero_27) rfl rfl rfl (fun b_1' => ?_)
        refine WL.nil ?_
        refine KX.go (hK_5' [(3, w_2'), (4, w_3'), (5, Value.int .i64 (-1)), (6, Value.pointer (some ⟨b, 0, none⟩)), (7, Value.pointer (some ⟨b_1', 0, none⟩))] _ ?_) ⟨rfl, rfl, rfl, rfl, rfl, trivial⟩
        refine wc_seq (fun K0_6' hK_6' => ?_)
        refine wc_seq (fun K0_7' hK_7' => ?_)
        refine wc_region ?_
        refine WL.val (OV.assign rfl) rfl rfl rfl ?_
        refine WL.nil ?_
        refine KX.go (hK_7' [(3, w_2'), (4, w_3'), (5, Value.int .i64 (-1)), (6, Value.pointer (some ⟨b, 0, none⟩)), (7, Value.pointer (some ⟨b_1', 0, none⟩)), (8, Value.int .i64 0)] _ ?_) ⟨rfl, rfl, rfl, rfl, rfl, rfl, trivial⟩
        refine wc_block ?_
        refine WC.pick (H' := [HA.blk b_1' (.cells (arr 256 (fun j => Value.bool ((fun _ => false) j))).toArray 27 (0, 0)), HA.blk b (.cells (arr 256 (fun j => Value.int .i64 ((fun _ => 0) j))).toArray 51 (0, 0)), HA.row w_3' 28 256 x.length (x.flatMap rfC), HA.row w_2' 26 4 (atomsL x).length ((atomsL x).flatMap wl)]) [0, 1, 2, 3] rfl rfl ?_
        obtain ⟨Inv_2', mu_2', h0_2', hr_2'⟩ := h
        refine wc_loop (S := Int × Int × (Nat → Bool) × (Nat → Int)) (fun σ => Inv_2' σ.1 σ.2.1 σ.2.2.1 σ.2.2.2) (fun σ => mu_2' σ.1 σ.2.1 σ.2.2.1 σ.2.2.2) (fun σ => [(3, w_2'), (4, w_3'), (5, Value.int .i64 σ.1), (6, Value.pointer (some ⟨b, 0, none⟩)), (7, Value.pointer (some ⟨b_1', 0, none⟩)), (8, Value.int .i64 σ.2.1)]) (fun σ => [HA.blk b_1' (.cells (arr 256 (fun j => Value.bool (σ.2.2.1 j))).toArray 27 (0, 0)), HA.blk b (.cells (arr 256 (fun j => Value.int .i64 (σ.2.2.2 j))).toArray 51 (0, 0)), HA.row w_3' 28 256 x.length (x.flatMap rfC), HA.row w_2' 26 4 (atomsL x).length ((atomsL x).flatMap wl)]) ((-1), 0, fun _ => false, fun _ => 0) h0_2' ⟨rfl, rfl, rfl, rfl, rfl, rfl, trivial⟩ rfl ?_
        rintro ⟨last_1', i_1', seen_11', place_11'⟩ hi K0_120' hK_120'
        have h := hr_2' last_1' i_1' seen_11' place_11' hi
        show WC _ _ _ _ [(3, w_2'), (4, w_3'), (5, Value.int .i64 last_1'), (6, Value.pointer (some ⟨b, 0, none⟩)), (7, Value.pointer (some ⟨b_1', 0, none⟩)), (8, Value.int .i64 i_1')] [HA.blk b_1' (.cells (arr 256 (fun j => Value.bool (seen_11' j))).toArray 27 (0, 0)), HA.blk b (.cells (arr 256 (fun j => Value.int .i64 (place_11' j))).toArray 51 (0, 0)), HA.row w_3' 28 256 x.length (x.flatMap rfC), HA.row w_2' 26 4 (atomsL x).length ((atomsL x).flatMap wl)]
        refine wc_seq (fun K0_121' hK_121' => ?_)
        refine wc_seq (fun K0_122' hK_122' => ?_)
        refine wc_region ?_
        refine WL.val (OV.move rfl) rfl rfl rfl ?_
        refine WL.val (OV.move rfl) rfl rfl rfl ?_
        refine WL.val (OV.lenRow 3 rfl rfl tf_sl_46) rfl rfl rfl ?_
        refine WL.val (OV.lss rfl rfl) rfl rfl rfl ?_
        refine WL.nil ?_
        refine KX.go (hK_122' [(3, w_2'), (4, w_3'), (5, Value.int .i64 last_1'), (6, Value.pointer (some ⟨b, 0, none⟩)), (7, Value.pointer (some ⟨b_1', 0, none⟩)), (8, Value.int .i64 i_1'), (24, Value.bool (decide (i_1' < ((atomsL x).length : Int))))] _ ?_) ⟨rfl, rfl, rfl, rfl, rfl, rfl, rfl, trivial⟩
        refine wc_cond (b := decide (i_1' < ((atomsL x).length : Int))) rfl (fun hb => ?_) (fun hb => ?_)
        · replace h := if_T h hb
          refine wc_skip ?_
          refine KX.go (hK_121' [(3, w_2'), (4, w_3'), (5, Value.int .i64 last_1'), (6, Value.pointer (some ⟨b, 0, none⟩)), (7, Value.pointer (some ⟨b_1', 0, none⟩)), (8, Value.int .i64 i_1')] _ ?_) ⟨rfl, rfl, rfl, rfl, rfl, rfl, trivial⟩
          refine wc_seq (fun K0_123' hK_123' => ?_)
          refine wc_block ?_
          refine wc_seq (fun K0_124' hK_124' => ?_)
          refine wc_region ?_
          refine WL.val (OV.move rfl) rfl rfl rfl ?_
          refine WL.val (OV.move rfl) rfl rfl rfl ?_
          obtain ⟨o_42', h⟩ := h
          refine WL.val (OV.indexRow 3 rfl rfl rfl tf_sl_46 o_42') rfl rfl rfl ?_
          refine WL.val (OV.loadE (f := wl) 3 rfl rfl wl_len (by decide) (by omega) tf_row_26) rfl rfl rfl ?_
          refine WL.call (A := []) tf_ent_10 rfl (from_does ((atomsL x).getD (i_1').toNat default)) rfl trivial rfl rfl ?_
          refine WL.make (MV.alloc tf_zero_28) rfl rfl rfl (fun b_8' => ?_)
          refine WL.storeW (vs := arr 256 (fun j => Value.bool ((BitVec.getLsbD ((atomsL x).getD (i_1').toNat default)) j))) 0 rfl rfl rfl rfl (arr_length _ _) tf_size_28 ((arr_length _ _).trans (arr_length _ _).symm) (arr_one _ _ (fun _ => rfl)) rfl ?_
          refine WL.nil ?_
          refine KX.go (hK_124' [(3, w_2'), (4, w_3'), (5, Value.int .i64 last_1'), (6, Value.pointer (some ⟨b, 0, none⟩)), (7, Value.pointer (some ⟨b_1', 0, none⟩)), (8, Value.int .i64 i_1'), (9, Value.pointer (some ⟨b_8', 0, none⟩))] _ ?_) ⟨rfl, rfl, rfl, rfl, rfl, rfl, rfl, trivial⟩
          refine wc_seq (fun K0_125' hK_125' => ?_)
          refine wc_region ?_
          refine WL.val (OV.assign rfl) rfl rfl rfl ?_
          refine WL.nil ?_
          refine KX.go (hK_125' [(3, w_2'), (4, w_3'), (5, Value.int .i64 last_1'), (6, Value.pointer (some ⟨b, 0, none⟩)), (7, Value.pointer (some ⟨b_1', 0, none⟩)), (8, Value.int .i64 i_1'), (9, Value.pointer (some ⟨b_8', 0, none⟩)), (10, Value.int .i64 (-1))] _ ?_) ⟨rfl, rfl, rfl, rfl, rfl, rfl, rfl, rfl, trivial⟩
          refine wc_seq (fun K0_126' hK_126' => ?_)
          refine wc_seq (fun K0_127' hK_127' => ?_)
          refine wc_region ?_
          refine WL.val (OV.assign rfl) rfl rfl rfl ?_
          refine WL.nil ?_
          refine KX.go (hK_127' [(3, w_2'), (4, w_3'), (5, Value.int .i64 last_1'), (6, Value.pointer (some ⟨b, 0, none⟩)), (7, Value.pointer (some ⟨b_1', 0, none⟩)), (8, Value.int .i64 i_1'), (9, Value.pointer (some ⟨b_8', 0, none⟩)), (10, Value.int .i64 (-1)), (11, Value.int .i64 255)] _ ?_) ⟨rfl, rfl, rfl, rfl, rfl, rfl, rfl, rfl, rfl, trivial⟩
          refine wc_block ?_
          obtain ⟨Inv_3', mu_3', h0_3', hr_3'⟩ := h
          refine wc_loop (S := Int × Int × (Nat → Bool) × (Nat → Int)) (fun σ => Inv_3' σ.1 σ.2.1 σ.2.2.1 σ.2.2.2) (fun σ => mu_3' σ.1 σ.2.1 σ.2.2.1 σ.2.2.2) (fun σ => [(3, w_2'), (4, w_3'), (5, Value.int .i64 last_1'), (6, Value.pointer (some ⟨b, 0, none⟩)), (7, Value.pointer (some ⟨b_1', 0, none⟩)), (8, Value.int .i64 i_1'), (9, Value.pointer (some ⟨b_8', 0, none⟩)), (10, Value.int .i64 σ.1), (11, Value.int .i64 σ.2.1)]) (fun σ => [HA.blk b_8' (.cells (arr 256 (fun j => Value.bool ((BitVec.getLsbD ((atomsL x).getD (i_1').toNat default)) j))).toArray 28 (0, 0)), HA.blk b_1' (.cells (arr 256 (fun j => Value.bool (σ.2.2.1 j))).toArray 27 (0, 0)), HA.blk b (.cells (arr 256 (fun j => Value.int .i64 (σ.2.2.2 j))).toArray 51 (0, 0)), HA.row w_3' 28 256 x.length (x.flatMap rfC), HA.row w_2' 26 4 (atomsL x).length ((atomsL x).flatMap wl)]) ((-1), 255, seen_11', place_11') h0_3' ⟨rfl, rfl, rfl, rfl, rfl, rfl, rfl, rfl, rfl, trivial⟩ rfl ?_
          rintro ⟨least_13', b_10', seen_15', place_15'⟩ hi K0_158' hK_158'
          have h := hr_3' least_13' b_10' seen_15' place_15' hi
          show WC _ _ _ _ [(3, w_2'), (4, w_3'), (5, Value.int .i64 last_1'), (6, Value.pointer (some ⟨b, 0, none⟩)), (7, Value.pointer (some ⟨b_1', 0, none⟩)), (8, Value.int .i64 i_1'), (9, Value.pointer (some ⟨b_8', 0, none⟩)), (10, Value.int .i64 least_13'), (11, Value.int .i64 b_10')] [HA.blk b_8' (.cells (arr 256 (fun j => Value.bool ((BitVec.getLsbD ((atomsL x).getD (i_1').toNat default)) j))).toArray 28 (0, 0)), HA.blk b_1' (.cells (arr 256 (fun j => Value.bool (seen_15' j))).toArray 27 (0, 0)), HA.blk b (.cells (arr 256 (fun j => Value.int .i64 (place_15' j))).toArray 51 (0, 0)), HA.row w_3' 28 256 x.length (x.flatMap rfC), HA.row w_2' 26 4 (atomsL x).length ((atomsL x).flatMap wl)]
          refine wc_seq (fun K0_159' hK_159' => ?_)
          refine wc_seq (fun K0_160' hK_160' => ?_)
          refine wc_region ?_
          refine WL.val (OV.move rfl) rfl rfl rfl ?_
          refine WL.val (OV.geq rfl rfl) rfl rfl rfl ?_
          refine WL.nil ?_
          refine KX.go (hK_160' [(3, w_2'), (4, w_3'), (5, Value.int .i64 last_1'), (6, Value.pointer (some ⟨b, 0, none⟩)), (7, Value.pointer (some ⟨b_1', 0, none⟩)), (8, Value.int .i64 i_1'), (9, Value.pointer (some ⟨b_8', 0, none⟩)), (10, Value.int .i64 least_13'), (11, Value.int .i64 b_10'), (33, Value.bool (decide (0 ≤ b_10')))] _ ?_) ⟨rfl, rfl, rfl, rfl, rfl, rfl, rfl, rfl, rfl, rfl, trivial⟩
          refine wc_cond (b := decide (0 ≤ b_10')) rfl (fun hb => ?_) (fun hb => ?_)
          · replace h := if_T h hb
            refine wc_skip ?_
            refine KX.go (hK_159' [(3, w_2'), (4, w_3'), (5, Value.int .i64 last_1'), (6, Value.pointer (some ⟨b, 0, none⟩)), (7, Value.pointer (some ⟨b_1', 0, none⟩)), (8, Value.int .i64 i_1'), (9, Value.pointer (some ⟨b_8', 0, none⟩)), (10, Value.int .i64 least_13'), (11, Value.int .i64 b_10')] _ ?_) ⟨rfl, rfl, rfl, rfl, rfl, rfl, rfl, rfl, rfl, trivial⟩
            obtain ⟨J0_8', hJ_8', h⟩ := h
            refine wc_seqJ (X := Int × (Nat → Bool) × (Nat → Int)) (fun σ => J0_8' σ.1 σ.2.1 σ.2.2) (fun σ => [(3, w_2'), (4, w_3'), (5, Value.int .i64 last_1'), (6, Value.pointer (some ⟨b, 0, none⟩)), (7, Value.pointer (some ⟨b_1', 0, none⟩)), (8, Value.int .i64 i_1'), (9, Value.pointer (some ⟨b_8', 0, none⟩)), (10, Value.int .i64 σ.1), (11, Value.int .i64 b_10')]) (fun σ => [HA.blk b_8' (.cells (arr 256 (fun j => Value.bool ((BitVec.getLsbD ((atomsL x).getD (i_1').toNat default)) j))).toArray 28 (0, 0)), HA.blk b_1' (.cells (arr 256 (fun j => Value.bool (σ.2.1 j))).toArray 27 (0, 0)), HA.blk b (.cells (arr 256 (fun j => Value.int .i64 (σ.2.2 j))).toArray 51 (0, 0)), HA.row w_3' 28 256 x.length (x.flatMap rfC), HA.row w_2' 26 4 (atomsL x).length ((atomsL x).flatMap wl)]) ?_ (fun K0_167' hK_167' => ?_)
            · rintro ⟨least_14', seen_16', place_16'⟩ hj
              replace h := hJ_8' least_14' seen_16' place_16' hj
              show WC _ _ _ _ [(3, w_2'), (4, w_3'), (5, Value.int .i64 last_1'), (6, Value.pointer (some ⟨b, 0, none⟩)), (7, Value.pointer (some ⟨b_1', 0, none⟩)), (8, Value.int .i64 i_1'), (9, Value.pointer (some ⟨b_8', 0, none⟩)), (10, Value.int .i64 least_14'), (11, Value.int .i64 b_10')] [HA.blk b_8' (.cells (arr 256 (fun j => Value.bool ((BitVec.getLsbD ((atomsL x).getD (i_1').toNat default)) j))).toArray 28 (0, 0)), HA.blk b_1' (.cells (arr 256 (fun j => Value.bool (seen_16' j))).toArray 27 (0, 0)), HA.blk b (.cells (arr 256 (fun j => Value.int .i64 (place_16' j))).toArray 51 (0, 0)), HA.row w_3' 28 256 x.length (x.flatMap rfC), HA.row w_2' 26 4 (atomsL x).length ((atomsL x).flatMap wl)]
              refine wc_region ?_
              refine WL.val (OV.move rfl) rfl rfl rfl ?_
              obtain ⟨o_56', h⟩ := h
              refine WL.val (OV.sub rfl rfl o_56') rfl rfl rfl ?_
              refine WL.val (OV.assign rfl) rfl rfl rfl ?_
              refine WL.nil ?_
              exact KX.goH (hK_158' (least_14', b_10' - 1, seen_16', place_16') h.1 h.2) ⟨rfl, rfl, rfl, rfl, rfl, rfl, rfl, rfl, rfl, trivial⟩ [0, 1, 2, 3, 4] rfl rfl
            · skip
              refine wc_block ?_
              refine wc_seq (fun K0_168' hK_168' => ?_)
              refine wc_region ?_
              refine WL.val (OV.move rfl) rfl rfl rfl ?_
              obtain ⟨o_57', h⟩ := h
              refine WL.val (OV.indexAddr1 rfl rfl tf_arr_28 o_57') rfl rfl rfl ?_
              refine WL.val (OV.load rfl (At.own 0 rfl) (arr_get (by first | omega | assumption)) tf_scal_4) rfl rfl rfl ?_
              refine WL.nil ?_
              refine KX.go (hK_168' [(3, w_2'), (4, w_3'), (5, Value.int .i64 last_1'), (6, Value.pointer (some ⟨b, 0, none⟩)), (7, Value.pointer (some ⟨b_1', 0, none⟩)), (8, Value.int .i64 i_1'), (9, Value.pointer (some ⟨b_8', 0, none⟩)), (10, Value.int .i64 least_13'), (11, Value.int .i64 b_10'), (38, Value.bool ((BitVec.getLsbD ((atomsL x).getD (i_1').toNat default)) ((b_10').toNat)))] _ ?_) ⟨rfl, rfl, rfl, rfl, rfl, rfl, rfl, rfl, rfl, rfl, trivial⟩
              refine wc_cond (b := (BitVec.getLsbD ((atomsL x).getD (i_1').toNat default)) ((b_10').toNat)) rfl (fun hb => ?_) (fun hb => ?_)
              · replace h := if_T h hb
                refine wc_seq (fun K0_169' hK_169' => ?_)
                refine wc_seq (fun K0_170' hK_170' => ?_)
                refine wc_region ?_
                refine WL.val (OV.move rfl) rfl rfl rfl ?_
                obtain ⟨o_58', h⟩ := h
                refine WL.val (OV.indexAddr1 rfl rfl tf_arr_27 o_58') rfl rfl rfl ?_
                refine WL.val (OV.load rfl (At.own 1 rfl) (arr_get (by first | omega | assumption)) tf_scal_4) rfl rfl rfl ?_
                refine WL.nil ?_
                refine KX.go (hK_170' [(3, w_2'), (4, w_3'), (5, Value.int .i64 last_1'), (6, Value.pointer (some ⟨b, 0, none⟩)), (7, Value.pointer (some ⟨b_1', 0, none⟩)), (8, Value.int .i64 i_1'), (9, Value.pointer (some ⟨b_8', 0, none⟩)), (11, Value.int .i64 b_10'), (41, Value.bool (seen_15' ((b_10').toNat)))] _ ?_) ⟨rfl, rfl, rfl, rfl, rfl, rfl, rfl, rfl, rfl, trivial⟩
                refine wc_cond (b := seen_15' ((b_10').toNat)) rfl (fun hb => ?_) (fun hb => ?_)
                · replace h := if_T h hb
                  refine wc_seq (fun K0_171' hK_171' => ?_)
                  refine wc_region ?_
                  refine WL.val (OV.assign rfl) rfl rfl rfl ?_
                  refine WL.nil ?_
                  refine KX.go (hK_171' [(2, Value.bool false)] _ ?_) ⟨rfl, trivial⟩
                  refine wc_ret ?_
                  exact hE.ret [] rfl rfl (.inl ⟨_, h, rfl⟩) (ResV.of1 rfl (RV.tmp rfl))
                · replace h := if_F h hb
                  refine wc_skip ?_
                  refine KX.go (hK_169' [(3, w_2'), (4, w_3'), (5, Value.int .i64 last_1'), (6, Value.pointer (some ⟨b, 0, none⟩)), (7, Value.pointer (some ⟨b_1', 0, none⟩)), (8, Value.int .i64 i_1'), (9, Value.pointer (some ⟨b_8', 0, none⟩)), (11, Value.int .i64 b_10')] _ ?_) ⟨rfl, rfl, rfl, rfl, rfl, rfl, rfl, rfl, trivial⟩
                  refine wc_seq (fun K0_172' hK_172' => ?_)
                  refine wc_region ?_
                  refine WL.val (OV.move rfl) rfl rfl rfl ?_
                  obtain ⟨o_59', h⟩ := h
                  refine WL.val (OV.indexAddr1 rfl rfl tf_arr_27 o_59') rfl rfl rfl ?_
                  refine WL.storeA' (f' := fun j => Value.bool (if j = (b_10').toNat then true else seen_15' j)) 1 rfl rfl rfl rfl tf_size_4 (by first | decide | omega) rfl rfl (fun j => by by_cases hj : j = (b_10').toNat <;> simp [hj]) ?_
                  refine WL.nil ?_
                  refine KX.go (hK_172' [(3, w_2'), (4, w_3'), (5, Value.int .i64 last_1'), (6, Value.pointer (some ⟨b, 0, none⟩)), (7, Value.pointer (some ⟨b_1', 0, none⟩)), (8, Value.int .i64 i_1'), (9, Value.pointer (some ⟨b_8', 0, none⟩)), (11, Value.int .i64 b_10')] _ ?_) ⟨rfl, rfl, rfl, rfl, rfl, rfl, rfl, rfl, trivial⟩
                  refine wc_seq (fun K0_173' hK_173' => ?_)
                  refine wc_region ?_
                  refine WL.val (OV.move rfl) rfl rfl rfl ?_
                  refine WL.val (OV.move rfl) rfl rfl rfl ?_
                  obtain ⟨o_60', h⟩ := h
                  refine WL.val (OV.indexAddr1 rfl rfl tf_arr_51 o_60') rfl rfl rfl ?_
                  refine WL.storeA' (f' := fun j => Value.int .i64 (if j = (b_10').toNat then i_1' else place_15' j)) 2 rfl rfl rfl rfl tf_size_3 (by first | decide | omega) rfl rfl (fun j => by by_cases hj : j = (b_10').toNat <;> simp [hj]) ?_
                  refine WL.nil ?_
                  refine KX.go (hK_173' [(3, w_2'), (4, w_3'), (5, Value.int .i64 last_1'), (6, Value.pointer (some ⟨b, 0, none⟩)), (7, Value.pointer (some ⟨b_1', 0, none⟩)), (8, Value.int .i64 i_1'), (9, Value.pointer (some ⟨b_8', 0, none⟩)), (11, Value.int .i64 b_10')] _ ?_) ⟨rfl, rfl, rfl, rfl, rfl, rfl, rfl, rfl, trivial⟩
                  refine wc_region ?_
                  refine WL.val (OV.move rfl) rfl rfl rfl ?_
                  refine WL.val (OV.assign rfl) rfl rfl rfl ?_
                  refine WL.nil ?_
                  exact KX.goH (hK_167' (b_10', fun j => if j = (b_10').toNat then true else seen_15' j, fun j => if j = (b_10').toNat then i_1' else place_15' j) h) ⟨rfl, rfl, rfl, rfl, rfl, rfl, rfl, rfl, rfl, trivial⟩ [0, 1, 2, 3, 4] rfl rfl
              · replace h := if_F h hb
                refine wc_skip ?_
                exact KX.goH (hK_167' (least_13', seen_15', place_15') h) ⟨rfl, rfl, rfl, rfl, rfl, rfl, rfl, rfl, rfl, trivial⟩ [0, 1, 2, 3, 4] rfl rfl
          · replace h := if_F h hb
            refine wc_exit ?_
            refine KX.go (hK_126' [(3, w_2'), (4, w_3'), (5, Value.int .i64 last_1'), (6, Value.pointer (some ⟨b, 0, none⟩)), (7, Value.pointer (some ⟨b_1', 0, none⟩)), (8, Value.int .i64 i_1'), (10, Value.int .i64 least_13')] _ ?_) ⟨rfl, rfl, rfl, rfl, rfl, rfl, rfl, trivial⟩
            refine wc_seq (fun K0_174' hK_174' => ?_)
            refine wc_seq (fun K0_175' hK_175' => ?_)
            refine wc_region ?_
            refine WL.val (OV.move rfl) rfl rfl rfl ?_
            refine WL.val (OV.move rfl) rfl rfl rfl ?_
            refine WL.val (OV.leq rfl rfl) rfl rfl rfl ?_
            refine WL.nil ?_
            refine KX.go (hK_175' [(3, w_2'), (4, w_3'), (6, Value.pointer (some ⟨b, 0, none⟩)), (7, Value.pointer (some ⟨b_1', 0, none⟩)), (8, Value.int .i64 i_1'), (10, Value.int .i64 least_13'), (50, Value.bool (decide (least_13' ≤ last_1')))] _ ?_) ⟨rfl, rfl, rfl, rfl, rfl, rfl, rfl, trivial⟩
            refine wc_cond (b := decide (least_13' ≤ last_1')) rfl (fun hb => ?_) (fun hb => ?_)
            · replace h := if_T h hb
              refine wc_seq (fun K0_176' hK_176' => ?_)
              refine wc_region ?_
              refine WL.val (OV.assign rfl) rfl rfl rfl ?_
              refine WL.nil ?_
              refine KX.go (hK_176' [(2, Value.bool false)] _ ?_) ⟨rfl, trivial⟩
              refine wc_ret ?_
              exact hE.ret [] rfl rfl (.inl ⟨_, h, rfl⟩) (ResV.of1 rfl (RV.tmp rfl))
            · replace h := if_F h hb
              refine wc_skip ?_
              refine KX.go (hK_174' [(3, w_2'), (4, w_3'), (6, Value.pointer (some ⟨b, 0, none⟩)), (7, Value.pointer (some ⟨b_1', 0, none⟩)), (8, Value.int .i64 i_1'), (10, Value.int .i64 least_13')] _ ?_) ⟨rfl, rfl, rfl, rfl, rfl, rfl, trivial⟩
              refine wc_region ?_
              refine WL.val (OV.move rfl) rfl rfl rfl ?_
              refine WL.val (OV.assign rfl) rfl rfl rfl ?_
              refine WL.nil ?_
              refine KX.go (hK_123' [(3, w_2'), (4, w_3'), (5, Value.int .i64 least_13'), (6, Value.pointer (some ⟨b, 0, none⟩)), (7, Value.pointer (some ⟨b_1', 0, none⟩)), (8, Value.int .i64 i_1')] _ ?_) ⟨rfl, rfl, rfl, rfl, rfl, rfl, trivial⟩
              refine wc_region ?_
              refine WL.val (OV.move rfl) rfl rfl rfl ?_
              obtain ⟨o_61', h⟩ := h
              refine WL.val (OV.add rfl rfl o_61') rfl rfl rfl ?_
              refine WL.val (OV.assign rfl) rfl rfl rfl ?_
              refine WL.nil ?_
              exact KX.goH (hK_120' (least_13', i_1' + 1, seen_15', place_15') h.1 h.2) ⟨rfl, rfl, rfl, rfl, rfl, rfl, trivial⟩ [1, 2, 3, 4] rfl rfl
        · replace h := if_F h hb
          refine wc_exit ?_
          refine KX.go (hK_6' [(3, w_2'), (4, w_3'), (6, Value.pointer (some ⟨b, 0, none⟩)), (7, Value.pointer (some ⟨b_1', 0, none⟩))] _ ?_) ⟨rfl, rfl, rfl, rfl, trivial⟩
          refine wc_seq (fun K0_177' hK_177' => ?_)
          refine wc_seq (fun K0_178' hK_178' => ?_)
          refine wc_region ?_
          refine WL.val (OV.assign rfl) rfl rfl rfl ?_
          refine WL.nil ?_
          refine KX.go (hK_178' [(3, w_2'), (4, w_3'), (6, Value.pointer (some ⟨b, 0, none⟩)), (7, Value.pointer (some ⟨b_1', 0, none⟩)), (12, Value.int .i64 0)] _ ?_) ⟨rfl, rfl, rfl, rfl, rfl, trivial⟩
          refine wc_block ?_
          obtain ⟨Inv_9', mu_9', h0_9', hr_9'⟩ := h
          refine wc_loop (S := Int) (fun σ => Inv_9' σ) (fun σ => mu_9' σ) (fun σ => [(3, w_2'), (4, w_3'), (6, Value.pointer (some ⟨b, 0, none⟩)), (7, Value.pointer (some ⟨b_1', 0, none⟩)), (12, Value.int .i64 σ)]) (fun σ => [HA.blk b_1' (.cells (arr 256 (fun j => Value.bool (seen_11' j))).toArray 27 (0, 0)), HA.blk b (.cells (arr 256 (fun j => Value.int .i64 (place_11' j))).toArray 51 (0, 0)), HA.row w_3' 28 256 x.length (x.flatMap rfC), HA.row w_2' 26 4 (atomsL x).length ((atomsL x).flatMap wl)]) 0 h0_9' ⟨rfl, rfl, rfl, rfl, rfl, trivial⟩ rfl ?_
          rintro b_12' hi K0_259' hK_259'
          have h := hr_9' b_12' hi
          show WC _ _ _ _ [(3, w_2'), (4, w_3'), (6, Value.pointer (some ⟨b, 0, none⟩)), (7, Value.pointer (some ⟨b_1', 0, none⟩)), (12, Value.int .i64 b_12')] [HA.blk b_1' (.cells (arr 256 (fun j => Value.bool (seen_11' j))).toArray 27 (0, 0)), HA.blk b (.cells (arr 256 (fun j => Value.int .i64 (place_11' j))).toArray 51 (0, 0)), HA.row w_3' 28 256 x.length (x.flatMap rfC), HA.row w_2' 26 4 (atomsL x).length ((atomsL x).flatMap wl)]
          refine wc_seq (fun K0_260' hK_260' => ?_)
          refine wc_seq (fun K0_261' hK_261' => ?_)
          refine wc_region ?_
          refine WL.val (OV.move rfl) rfl rfl rfl ?_
          refine WL.val (OV.lss rfl rfl) rfl rfl rfl ?_
          refine WL.nil ?_
          refine KX.go (hK_261' [(3, w_2'), (4, w_3'), (6, Value.pointer (some ⟨b, 0, none⟩)), (7, Value.pointer (some ⟨b_1', 0, none⟩)), (12, Value.int .i64 b_12'), (53, Value.bool (decide (b_12' < 256)))] _ ?_) ⟨rfl, rfl, rfl, rfl, rfl, rfl, trivial⟩
          refine wc_cond (b := decide (b_12' < 256)) rfl (fun hb => ?_) (fun hb => ?_)
          · replace h := if_T h hb
            refine wc_skip ?_
            refine KX.go (hK_260' [(3, w_2'), (4, w_3'), (6, Value.pointer (some ⟨b, 0, none⟩)), (7, Value.pointer (some ⟨b_1', 0, none⟩)), (12, Value.int .i64 b_12')] _ ?_) ⟨rfl, rfl, rfl, rfl, rfl, trivial⟩
            refine wc_seq (fun K0_262' hK_262' => ?_)
            refine wc_block ?_
            refine wc_seq (fun K0_263' hK_263' => ?_)
            refine wc_seq (fun K0_264' hK_264' => ?_)
            refine wc_region ?_
            refine WL.val (OV.move rfl) rfl rfl rfl ?_
            obtain ⟨o_119', h⟩ := h
            refine WL.val (OV.indexAddr1 rfl rfl tf_arr_27 o_119') rfl rfl rfl ?_
            refine WL.val (OV.load rfl (At.own 0 rfl) (arr_get (by first | omega | assumption)) tf_scal_4) rfl rfl rfl ?_
            refine WL.val (OV.not rfl) rfl rfl rfl ?_
            refine WL.nil ?_
            refine KX.go (hK_264' [(3, w_2'), (4, w_3'), (6, Value.pointer (some ⟨b, 0, none⟩)), (7, Value.pointer (some ⟨b_1', 0, none⟩)), (12, Value.int .i64 b_12'), (59, Value.bool (!(seen_11' ((b_12').toNat))))] _ ?_) ⟨rfl, rfl, rfl, rfl, rfl, rfl, trivial⟩
            refine wc_cond (b := !(seen_11' ((b_12').toNat))) rfl (fun hb => ?_) (fun hb => ?_)
            · replace h := if_T h hb
              refine wc_seq (fun K0_265' hK_265' => ?_)
              refine wc_region ?_
              refine WL.val (OV.assign rfl) rfl rfl rfl ?_
              refine WL.nil ?_
              refine KX.go (hK_265' [(2, Value.bool false)] _ ?_) ⟨rfl, trivial⟩
              refine wc_ret ?_
              exact hE.ret [] rfl rfl (.inl ⟨_, h, rfl⟩) (ResV.of1 rfl (RV.tmp rfl))
            · replace h := if_F h hb
              refine wc_skip ?_
              refine KX.go (hK_263' [(3, w_2'), (4, w_3'), (6, Value.pointer (some ⟨b, 0, none⟩)), (7, Value.pointer (some ⟨b_1', 0, none⟩)), (12, Value.int .i64 b_12')] _ ?_) ⟨rfl, rfl, rfl, rfl, rfl, trivial⟩
              refine wc_seq (fun K0_266' hK_266' => ?_)
              refine wc_region ?_
              refine WL.val (OV.assign rfl) rfl rfl rfl ?_
              refine WL.nil ?_
              refine KX.go (hK_266' [(3, w_2'), (4, w_3'), (6, Value.pointer (some ⟨b, 0, none⟩)), (7, Value.pointer (some ⟨b_1', 0, none⟩)), (12, Value.int .i64 b_12'), (13, Value.int .i64 0)] _ ?_) ⟨rfl, rfl, rfl, rfl, rfl, rfl, trivial⟩
              refine wc_block ?_
              obtain ⟨Inv_12', mu_12', h0_12', hr_12'⟩ := h
              refine wc_loop (S := Int) (fun σ => Inv_12' σ) (fun σ => mu_12' σ) (fun σ => [(3, w_2'), (4, w_3'), (6, Value.pointer (some ⟨b, 0, none⟩)), (7, Value.pointer (some ⟨b_1', 0, none⟩)), (12, Value.int .i64 b_12'), (13, Value.int .i64 σ)]) (fun σ => [HA.blk b_1' (.cells (arr 256 (fun j => Value.bool (seen_11' j))).toArray 27 (0, 0)), HA.blk b (.cells (arr 256 (fun j => Value.int .i64 (place_11' j))).toArray 51 (0, 0)), HA.row w_3' 28 256 x.length (x.flatMap rfC), HA.row w_2' 26 4 (atomsL x).length ((atomsL x).flatMap wl)]) 0 h0_12' ⟨rfl, rfl, rfl, rfl, rfl, rfl, trivial⟩ rfl ?_
              rintro c_3' hi K0_307' hK_307'
              have h := hr_12' c_3' hi
              show WC _ _ _ _ [(3, w_2'), (4, w_3'), (6, Value.pointer (some ⟨b, 0, none⟩)), (7, Value.pointer (some ⟨b_1', 0, none⟩)), (12, Value.int .i64 b_12'), (13, Value.int .i64 c_3')] [HA.blk b_1' (.cells (arr 256 (fun j => Value.bool (seen_11' j))).toArray 27 (0, 0)), HA.blk b (.cells (arr 256 (fun j => Value.int .i64 (place_11' j))).toArray 51 (0, 0)), HA.row w_3' 28 256 x.length (x.flatMap rfC), HA.row w_2' 26 4 (atomsL x).length ((atomsL x).flatMap wl)]
              refine wc_seq (fun K0_308' hK_308' => ?_)
              refine wc_seq (fun K0_309' hK_309' => ?_)
              refine wc_region ?_
              refine WL.val (OV.move rfl) rfl rfl rfl ?_
              refine WL.val (OV.move rfl) rfl rfl rfl ?_
              refine WL.val (OV.lss rfl rfl) rfl rfl rfl ?_
              refine WL.nil ?_
              refine KX.go (hK_309' [(3, w_2'), (4, w_3'), (6, Value.pointer (some ⟨b, 0, none⟩)), (7, Value.pointer (some ⟨b_1', 0, none⟩)), (12, Value.int .i64 b_12'), (13, Value.int .i64 c_3'), (62, Value.bool (decide (c_3' < b_12')))] _ ?_) ⟨rfl, rfl, rfl, rfl, rfl, rfl, rfl, trivial⟩
              refine wc_cond (b := decide (c_3' < b_12')) rfl (fun hb => ?_) (fun hb => ?_)
              · replace h := if_T h hb
                refine wc_skip ?_
                refine KX.go (hK_308' [(3, w_2'), (4, w_3'), (6, Value.pointer (some ⟨b, 0, none⟩)), (7, Value.pointer (some ⟨b_1', 0, none⟩)), (12, Value.int .i64 b_12'), (13, Value.int .i64 c_3')] _ ?_) ⟨rfl, rfl, rfl, rfl, rfl, rfl, trivial⟩
                refine wc_seq (fun K0_310' hK_310' => ?_)
                refine wc_block ?_
                refine wc_seq (fun K0_311' hK_311' => ?_)
                refine wc_region ?_
                refine WL.val (OV.assign rfl) rfl rfl rfl ?_
                refine WL.nil ?_
                refine KX.go (hK_311' [(3, w_2'), (4, w_3'), (6, Value.pointer (some ⟨b, 0, none⟩)), (7, Value.pointer (some ⟨b_1', 0, none⟩)), (12, Value.int .i64 b_12'), (13, Value.int .i64 c_3'), (14, Value.bool true)] _ ?_) ⟨rfl, rfl, rfl, rfl, rfl, rfl, rfl, trivial⟩
                refine wc_seq (fun K0_312' hK_312' => ?_)
                refine wc_seq (fun K0_313' hK_313' => ?_)
                refine wc_region ?_
                refine WL.val (OV.assign rfl) rfl rfl rfl ?_
                refine WL.nil ?_
                refine KX.go (hK_313' [(3, w_2'), (4, w_3'), (6, Value.pointer (some ⟨b, 0, none⟩)), (7, Value.pointer (some ⟨b_1', 0, none⟩)), (12, Value.int .i64 b_12'), (13, Value.int .i64 c_3'), (14, Value.bool true), (15, Value.int .i64 0)] _ ?_) ⟨rfl, rfl, rfl, rfl, rfl, rfl, rfl, rfl, trivial⟩
                refine wc_block ?_
                obtain ⟨Inv_13', mu_13', h0_13', hr_13'⟩ := h
                refine wc_loop (S := Bool × Int) (fun σ => Inv_13' σ.1 σ.2) (fun σ => mu_13' σ.1 σ.2) (fun σ => [(3, w_2'), (4, w_3'), (6, Value.pointer (some ⟨b, 0, none⟩)), (7, Value.pointer (some ⟨b_1', 0, none⟩)), (12, Value.int .i64 b_12'), (13, Value.int .i64 c_3'), (14, Value.bool σ.1), (15, Value.int .i64 σ.2)]) (fun σ => [HA.blk b_1' (.cells (arr 256 (fun j => Value.bool (seen_11' j))).toArray 27 (0, 0)), HA.blk b (.cells (arr 256 (fun j => Value.int .i64 (place_11' j))).toArray 51 (0, 0)), HA.row w_3' 28 256 x.length (x.flatMap rfC), HA.row w_2' 26 4 (atomsL x).length ((atomsL x).flatMap wl)]) (true, 0) h0_13' ⟨rfl, rfl, rfl, rfl, rfl, rfl, rfl, rfl, trivial⟩ rfl ?_
                rintro ⟨alike_11', j_11'⟩ hi K0_321' hK_321'
                have h := hr_13' alike_11' j_11' hi
                show WC _ _ _ _ [(3, w_2'), (4, w_3'), (6, Value.pointer (some ⟨b, 0, none⟩)), (7, Value.pointer (some ⟨b_1', 0, none⟩)), (12, Value.int .i64 b_12'), (13, Value.int .i64 c_3'), (14, Value.bool alike_11'), (15, Value.int .i64 j_11')] [HA.blk b_1' (.cells (arr 256 (fun j => Value.bool (seen_11' j))).toArray 27 (0, 0)), HA.blk b (.cells (arr 256 (fun j => Value.int .i64 (place_11' j))).toArray 51 (0, 0)), HA.row w_3' 28 256 x.length (x.flatMap rfC), HA.row w_2' 26 4 (atomsL x).length ((atomsL x).flatMap wl)]
                refine wc_seq (fun K0_322' hK_322' => ?_)
                refine wc_seq (fun K0_323' hK_323' => ?_)
                refine wc_region ?_
                refine WL.val (OV.move rfl) rfl rfl rfl ?_
                refine WL.val (OV.move rfl) rfl rfl rfl ?_
                refine WL.val (OV.lenRow 2 rfl rfl tf_sl_42) rfl rfl rfl ?_
                refine WL.val (OV.lss rfl rfl) rfl rfl rfl ?_
                refine WL.nil ?_
                refine KX.go (hK_323' [(3, w_2'), (4, w_3'), (6, Value.pointer (some ⟨b, 0, none⟩)), (7, Value.pointer (some ⟨b_1', 0, none⟩)), (12, Value.int .i64 b_12'), (13, Value.int .i64 c_3'), (14, Value.bool alike_11'), (15, Value.int .i64 j_11'), (68, Value.bool (decide (j_11' < (x.length : Int))))] _ ?_) ⟨rfl, rfl, rfl, rfl, rfl, rfl, rfl, rfl, rfl, trivial⟩
                refine wc_cond (b := decide (j_11' < (x.length : Int))) rfl (fun hb => ?_) (fun hb => ?_)
                · replace h := if_T h hb
                  refine wc_skip ?_
                  refine KX.go (hK_322' [(3, w_2'), (4, w_3'), (6, Value.pointer (some ⟨b, 0, none⟩)), (7, Value.pointer (some ⟨b_1', 0, none⟩)), (12, Value.int .i64 b_12'), (13, Value.int .i64 c_3'), (14, Value.bool alike_11'), (15, Value.int .i64 j_11')] _ ?_) ⟨rfl, rfl, rfl, rfl, rfl, rfl, rfl, rfl, trivial⟩
                  refine wc_seq (fun K0_324' hK_324' => ?_)
                  refine wc_block ?_
                  refine wc_draw_all [] tf_mixed (by kernel_rfl) rfl (fun T_22' hT_22' => ?_)
                  refine FL.val (fun _ => OV.move rfl) rfl (fun _ => rfl) rfl rfl ?_
                  refine FL.val (fun _ => OV.move rfl) rfl (fun _ => rfl) rfl rfl ?_
                  obtain ⟨o_170', h⟩ := h
                  refine FL.cut 14 rfl (fun _ => [(3, w_2'), (4, w_3'), (6, Value.pointer (some ⟨b, 0, none⟩)), (7, Value.pointer (some ⟨b_1', 0, none⟩)), (12, Value.int .i64 b_12'), (13, Value.int .i64 c_3'), (14, Value.bool alike_11'), (15, Value.int .i64 j_11'), (86, Value.bool (alike_11' && (((BitVec.getLsbD (x.getD (j_11').toNat default)) ((b_12').toNat)) == ((BitVec.getLsbD (x.getD (j_11').toNat default)) ((c_3').toNat)))))]) ?_ (fun K0_325' hK_325' => ?_)
                  rotate_left
                  · refine FL.split (alike_11') (fun hb => ?_) (fun hb => ?_)
                    · obtain ⟨o_166', o_167', o_168', o_169'⟩ := o_170' hb
                      refine FL.set 72 (fun _ => rfl) (congrArg Value.bool hb) ?_
                      refine FL.val (fun _ => OV.move rfl) rfl (fun _ => rfl) rfl rfl ?_
                      refine FL.val (fun _ => OV.move rfl) rfl (fun _ => rfl) rfl rfl ?_
                      refine FL.val (fun _ => OV.move rfl) rfl (fun _ => rfl) rfl rfl ?_
                      refine FL.val (fun _ => OV.indexRow 2 rfl rfl rfl tf_sl_42 o_166') rfl (fun _ => rfl) rfl rfl ?_
                      refine FL.val (fun _ => OV.indexAddr rfl rfl tf_arr_28 o_167' (by rw [Nat.mul_one])) rfl (fun _ => rfl) rfl rfl ?_
                      refine FL.val (fun _ => OV.loadEF (f := rfC) (o := (b_12').toNat) 2 rfl rfl rfC_len (by omega) (arr_get (by omega)) tf_scal_4) rfl (fun _ => rfl) rfl rfl ?_
                      refine FL.val (fun _ => OV.move rfl) rfl (fun _ => rfl) rfl rfl ?_
                      refine FL.val (fun _ => OV.move rfl) rfl (fun _ => rfl) rfl rfl ?_
                      refine FL.val (fun _ => OV.move rfl) rfl (fun _ => rfl) rfl rfl ?_
                      refine FL.val (fun _ => OV.indexRow 2 rfl rfl rfl tf_sl_42 o_168') rfl (fun _ => rfl) rfl rfl ?_
                      refine FL.val (fun _ => OV.indexAddr rfl rfl tf_arr_28 o_169' (by rw [Nat.mul_one])) rfl (fun _ => rfl) rfl rfl ?_
                      refine FL.val (fun _ => OV.loadEF (f := rfC) (o := (c_3').toNat) 2 rfl rfl rfC_len (by omega) (arr_get (by omega)) tf_scal_4) rfl (fun _ => rfl) rfl rfl ?_
                      refine FL.val (fun _ => OV.eqlB rfl rfl Try.underlying4) rfl (fun _ => rfl) rfl rfl ?_
                      refine FL.val (fun _ => OV.pickT rfl rfl) rfl (fun _ => rfl) rfl rfl ?_
                      refine FL.set 86 (fun _ => rfl) (bT (v := ((BitVec.getLsbD (x.getD (j_11').toNat default)) ((b_12').toNat)) == ((BitVec.getLsbD (x.getD (j_11').toNat default)) ((c_3').toNat))) hb) ?_
                      exact FL.weak (L' := fun _ => [(3, w_2'), (4, w_3'), (6, Value.pointer (some ⟨b, 0, none⟩)), (7, Value.pointer (some ⟨b_1', 0, none⟩)), (12, Value.int .i64 b_12'), (13, Value.int .i64 c_3'), (14, Value.bool alike_11'), (15, Value.int .i64 j_11'), (86, Value.bool (alike_11' && (((BitVec.getLsbD (x.getD (j_11').toNat default)) ((b_12').toNat)) == ((BitVec.getLsbD (x.getD (j_11').toNat default)) ((c_3').toNat)))))]) (fun _ => ⟨rfl, rfl, rfl, rfl, rfl, rfl, rfl, rfl, rfl, trivial⟩) (FL.nil hK_325')
                    · refine FL.set 72 (fun _ => rfl) (congrArg Value.bool hb) ?_
                      refine FL.skip rfl (fun _ => rfl) rfl rfl ?_
                      refine FL.skip rfl (fun _ => rfl) rfl rfl ?_
                      refine FL.skip rfl (fun _ => rfl) rfl rfl ?_
                      refine FL.skip rfl (fun _ => rfl) rfl rfl ?_
                      refine FL.skip rfl (fun _ => rfl) rfl rfl ?_
                      refine FL.skip rfl (fun _ => rfl) rfl rfl ?_
                      refine FL.skip rfl (fun _ => rfl) rfl rfl ?_
                      refine FL.skip rfl (fun _ => rfl) rfl rfl ?_
                      refine FL.skip rfl (fun _ => rfl) rfl rfl ?_
                      refine FL.skip rfl (fun _ => rfl) rfl rfl ?_
                      refine FL.skip rfl (fun _ => rfl) rfl rfl ?_
                      refine FL.skip rfl (fun _ => rfl) rfl rfl ?_
                      refine FL.skip rfl (fun _ => rfl) rfl rfl ?_
                      refine FL.val (fun _ => OV.pickF rfl rfl) rfl (fun _ => rfl) rfl rfl ?_
                      refine FL.set 86 (fun _ => rfl) (bF (v := ((BitVec.getLsbD (x.getD (j_11').toNat default)) ((b_12').toNat)) == ((BitVec.getLsbD (x.getD (j_11').toNat default)) ((c_3').toNat))) hb) ?_
                      exact FL.weak (L' := fun _ => [(3, w_2'), (4, w_3'), (6, Value.pointer (some ⟨b, 0, none⟩)), (7, Value.pointer (some ⟨b_1', 0, none⟩)), (12, Value.int .i64 b_12'), (13, Value.int .i64 c_3'), (14, Value.bool alike_11'), (15, Value.int .i64 j_11'), (86, Value.bool (alike_11' && (((BitVec.getLsbD (x.getD (j_11').toNat default)) ((b_12').toNat)) == ((BitVec.getLsbD (x.getD (j_11').toNat default)) ((c_3').toNat)))))]) (fun _ => ⟨rfl, rfl, rfl, rfl, rfl, rfl, rfl, rfl, rfl, trivial⟩) (FL.nil hK_325')
                  refine FL.val (fun _ => OV.assign rfl) rfl (fun _ => rfl) rfl rfl ?_
                  refine FL.weak (L' := fun _ => [(3, w_2'), (4, w_3'), (6, Value.pointer (some ⟨b, 0, none⟩)), (7, Value.pointer (some ⟨b_1', 0, none⟩)), (12, Value.int .i64 b_12'), (13, Value.int .i64 c_3'), (14, Value.bool (alike_11' && (((BitVec.getLsbD (x.getD (j_11').toNat default)) ((b_12').toNat)) == ((BitVec.getLsbD (x.getD (j_11').toNat default)) ((c_3').toNat))))), (15, Value.int .i64 j_11')]) (fun _ => ⟨rfl, rfl, rfl, rfl, rfl, rfl, rfl, rfl, trivial⟩) (FL.nil (hT_22' (fun _ => [(3, w_2'), (4, w_3'), (6, Value.pointer (some ⟨b, 0, none⟩)), (7, Value.pointer (some ⟨b_1', 0, none⟩)), (12, Value.int .i64 b_12'), (13, Value.int .i64 c_3'), (14, Value.bool (alike_11' && (((BitVec.getLsbD (x.getD (j_11').toNat default)) ((b_12').toNat)) == ((BitVec.getLsbD (x.getD (j_11').toNat default)) ((c_3').toNat))))), (15, Value.int .i64 j_11')]) (fun _ => ?_)))
                  refine KX.go (hK_324' [(3, w_2'), (4, w_3'), (6, Value.pointer (some ⟨b, 0, none⟩)), (7, Value.pointer (some ⟨b_1', 0, none⟩)), (12, Value.int .i64 b_12'), (13, Value.int .i64 c_3'), (14, Value.bool (alike_11' && (((BitVec.getLsbD (x.getD (j_11').toNat default)) ((b_12').toNat)) == ((BitVec.getLsbD (x.getD (j_11').toNat default)) ((c_3').toNat))))), (15, Value.int .i64 j_11')] _ ?_) ⟨rfl, rfl, rfl, rfl, rfl, rfl, rfl, rfl, trivial⟩
                  refine wc_region ?_
                  refine WL.val (OV.move rfl) rfl rfl rfl ?_
                  obtain ⟨o_171', h⟩ := h
                  refine WL.val (OV.add rfl rfl o_171') rfl rfl rfl ?_
                  refine WL.val (OV.assign rfl) rfl rfl rfl ?_
                  refine WL.nil ?_
                  exact KX.goH (hK_321' (alike_11' && (((BitVec.getLsbD (x.getD (j_11').toNat default)) ((b_12').toNat)) == ((BitVec.getLsbD (x.getD (j_11').toNat default)) ((c_3').toNat))), j_11' + 1) h.1 h.2) ⟨rfl, rfl, rfl, rfl, rfl, rfl, rfl, rfl, trivial⟩ [0, 1, 2, 3] rfl rfl
                · replace h := if_F h hb
                  refine wc_exit ?_
                  refine KX.go (hK_312' [(3, w_2'), (4, w_3'), (6, Value.pointer (some ⟨b, 0, none⟩)), (7, Value.pointer (some ⟨b_1', 0, none⟩)), (12, Value.int .i64 b_12'), (13, Value.int .i64 c_3'), (14, Value.bool alike_11')] _ ?_) ⟨rfl, rfl, rfl, rfl, rfl, rfl, rfl, trivial⟩
                  refine wc_seq (fun K0_326' hK_326' => ?_)
                  refine wc_draw 8 [] tf_mixed (by kernel_rfl) rfl (fun T_23' hT_23' => ?_)
                  refine FL.val (fun _ => OV.move rfl) rfl (fun _ => rfl) rfl rfl ?_
                  refine FL.val (fun _ => OV.move rfl) rfl (fun _ => rfl) rfl rfl ?_
                  obtain ⟨o_172', h⟩ := h
                  refine FL.val (fun _ => OV.indexAddr1 rfl rfl tf_arr_51 o_172') rfl (fun _ => rfl) rfl rfl ?_
                  refine FL.val (fun _ => OV.load rfl (At.own 1 rfl) (arr_get (by first | omega | assumption)) tf_scal_3) rfl (fun _ => rfl) rfl rfl ?_
                  refine FL.val (fun _ => OV.move rfl) rfl (fun _ => rfl) rfl rfl ?_
                  obtain ⟨o_173', h⟩ := h
                  refine FL.val (fun _ => OV.indexAddr1 rfl rfl tf_arr_51 o_173') rfl (fun _ => rfl) rfl rfl ?_
                  refine FL.val (fun _ => OV.load rfl (At.own 1 rfl) (arr_get (by first | omega | assumption)) tf_scal_3) rfl (fun _ => rfl) rfl rfl ?_
                  refine FL.val (fun _ => OV.eql rfl rfl) rfl (fun _ => rfl) rfl rfl ?_
                  refine FL.weak (L' := fun γ => [(3, w_2'), (4, w_3'), (6, Value.pointer (some ⟨b, 0, none⟩)), (7, Value.pointer (some ⟨b_1', 0, none⟩)), (12, Value.int .i64 b_12'), (13, Value.int .i64 c_3'), (87, Value.bool alike_11'), (94, Value.bool (decide (place_11' ((b_12').toNat) = place_11' ((c_3').toNat))))]) (fun γ => ⟨rfl, rfl, rfl, rfl, rfl, rfl, rfl, rfl, trivial⟩) (FL.nil (hT_23' (fun γ => [(3, w_2'), (4, w_3'), (6, Value.pointer (some ⟨b, 0, none⟩)), (7, Value.pointer (some ⟨b_1', 0, none⟩)), (12, Value.int .i64 b_12'), (13, Value.int .i64 c_3'), (87, Value.bool alike_11'), (94, Value.bool (decide (place_11' ((b_12').toNat) = place_11' ((c_3').toNat))))]) (fun γ => ?_)))
                  refine WL.val (OV.neqB rfl rfl Try.underlying4) rfl rfl rfl ?_
                  refine WL.nil ?_
                  refine KX.go (hK_326' [(3, w_2'), (4, w_3'), (6, Value.pointer (some ⟨b, 0, none⟩)), (7, Value.pointer (some ⟨b_1', 0, none⟩)), (12, Value.int .i64 b_12'), (13, Value.int .i64 c_3'), (95, Value.bool (!(alike_11' == (decide (place_11' ((b_12').toNat) = place_11' ((c_3').toNat))))))] _ ?_) ⟨rfl, rfl, rfl, rfl, rfl, rfl, rfl, trivial⟩
                  refine wc_cond (b := !(alike_11' == (decide (place_11' ((b_12').toNat) = place_11' ((c_3').toNat))))) rfl (fun hb => ?_) (fun hb => ?_)
                  · replace h := if_T h hb
                    refine wc_seq (fun K0_327' hK_327' => ?_)
                    refine wc_region ?_
                    refine WL.val (OV.assign rfl) rfl rfl rfl ?_
                    refine WL.nil ?_
                    refine KX.go (hK_327' [(2, Value.bool false)] _ ?_) ⟨rfl, trivial⟩
                    refine wc_ret ?_
                    exact hE.ret [] rfl rfl (.inl ⟨_, h, rfl⟩) (ResV.of1 rfl (RV.tmp rfl))
                  · replace h := if_F h hb
                    refine wc_skip ?_
                    refine KX.go (hK_310' [(3, w_2'), (4, w_3'), (6, Value.pointer (some ⟨b, 0, none⟩)), (7, Value.pointer (some ⟨b_1', 0, none⟩)), (12, Value.int .i64 b_12'), (13, Value.int .i64 c_3')] _ ?_) ⟨rfl, rfl, rfl, rfl, rfl, rfl, trivial⟩
                    refine wc_region ?_
                    refine WL.val (OV.move rfl) rfl rfl rfl ?_
                    obtain ⟨o_174', h⟩ := h
                    refine WL.val (OV.add rfl rfl o_174') rfl rfl rfl ?_
                    refine WL.val (OV.assign rfl) rfl rfl rfl ?_
                    refine WL.nil ?_
                    exact KX.goH (hK_307' (c_3' + 1) h.1 h.2) ⟨rfl, rfl, rfl, rfl, rfl, rfl, trivial⟩ [0, 1, 2, 3] rfl rfl
              · replace h := if_F h hb
                refine wc_exit ?_
                refine KX.go (hK_262' [(3, w_2'), (4, w_3'), (6, Value.pointer (some ⟨b, 0, none⟩)), (7, Value.pointer (some ⟨b_1', 0, none⟩)), (12, Value.int .i64 b_12')] _ ?_) ⟨rfl, rfl, rfl, rfl, rfl, trivial⟩
                refine wc_region ?_
                refine WL.val (OV.move rfl) rfl rfl rfl ?_
                obtain ⟨o_175', h⟩ := h
                refine WL.val (OV.add rfl rfl o_175') rfl rfl rfl ?_
                refine WL.val (OV.assign rfl) rfl rfl rfl ?_
                refine WL.nil ?_
                exact KX.goH (hK_259' (b_12' + 1) h.1 h.2) ⟨rfl, rfl, rfl, rfl, rfl, trivial⟩ [0, 1, 2, 3] rfl rfl
          · replace h := if_F h hb
            refine wc_exit ?_
            refine KX.go (hK_177' [(3, w_2')] _ ?_) ⟨rfl, trivial⟩
            refine wc_seq (fun K0_328' hK_328' => ?_)
            refine wc_region ?_
            refine WL.val (OV.move rfl) rfl rfl rfl ?_
            refine WL.val (OV.lenRow 3 rfl rfl tf_sl_46) rfl rfl rfl ?_
            refine WL.val (OV.gtr rfl rfl) rfl rfl rfl ?_
            refine WL.val (OV.assign rfl) rfl rfl rfl ?_
            refine WL.nil ?_
            refine KX.go (hK_328' [(2, Value.bool (decide (0 < ((atomsL x).length : Int))))] _ ?_) ⟨rfl, trivial⟩
            refine wc_ret ?_
            exact hE.ret [] rfl rfl (.inl ⟨_, h, rfl⟩) (ResV.of1 rfl (RV.tmp rfl))
      · obtain ⟨w_3', ho⟩ := hS
        cases ho
    · obtain ⟨w_2', ho⟩ := hS
      cases ho
  · obtain ⟨w_1', ho⟩ := hS
    cases ho

theorem atoms_len (x : List CS) : (atomsL x).length ≤ 256 := by
  unfold atomsL; rw [List.length_map]; exact reps_len x 256
theorem fill_zero {y : List CS} {i : Nat} (h : i < y.length) : (y.take i ++ List.replicate (y.length - i) cs0).set i (y.getD i default) = y.take (i + 1) ++ List.replicate (y.length - (i + 1)) cs0 := set_take h
theorem latoms_does (v u : Value) (x o : List CS) (hx : x.length ≤ 1048576) (ho : o.length ≤ 1048576) (R1 : List (Nat × Obj)) (h1 : InSl v R1 x.length (x.flatMap wl)) (R2 : List (Nat × Obj)) (h2 : InSl u R2 o.length (o.flatMap wl)) :
    Does Try.prog 7 [v, u] (R1 ++ (R2 ++ [])) [] (Ret (.bool true) []) := by
  refine (latoms_wp v u x o R1 h1 R2 h2 (fun r => r = true) ?_).weak (by rintro o (⟨r, rfl, rfl⟩ | h) <;> first | rfl | exact h.elim)
  have hal := atoms_len x
  have lit : ∀ n : Int, 0 ≤ n → n < 100 → 0 ≤ n ∧ n < 18446744073709551616 := fun n a b => ⟨a, by omega⟩
  have l1 : (0 ≤ (1 : Int) ∧ (1 : Int) < 18446744073709551616) ∧ (0 ≤ (2 : Int) ∧ (2 : Int) < 18446744073709551616) ∧ (0 ≤ (3 : Int) ∧ (3 : Int) < 18446744073709551616) ∧ (0 ≤ (4 : Int) ∧ (4 : Int) < 18446744073709551616) := ⟨⟨by decide, by decide⟩, ⟨by decide, by decide⟩, ⟨by decide, by decide⟩, by decide, by decide⟩
  have l2 : (0 ≤ (5 : Int) ∧ (5 : Int) < 18446744073709551616) ∧ (0 ≤ (6 : Int) ∧ (6 : Int) < 18446744073709551616) ∧ (0 ≤ (7 : Int) ∧ (7 : Int) < 18446744073709551616) ∧ (0 ≤ (8 : Int) ∧ (8 : Int) < 18446744073709551616) := ⟨⟨by decide, by decide⟩, ⟨by decide, by decide⟩, ⟨by decide, by decide⟩, by decide, by decide⟩
  have wr : ∀ n : Int, 0 ≤ IntKind.wrap .u64 n ∧ IntKind.wrap .u64 n < 18446744073709551616 := fun n => by
    have : IntKind.wrap .u64 n = n % 18446744073709551616 := by
      unfold IntKind.wrap
      simp [IntKind.bits, IntKind.signed]
    rw [this]; omega
  unfold latoms_vc
  refine ⟨by omega, by omega, ⟨by omega, by omega, by omega⟩, fun i l => 0 ≤ i ∧ i ≤ (atomsL x).length ∧ l = (atomsL x).take i.toNat ++ List.replicate ((atomsL x).length - i.toNat) cs0, fun i _ => ((atomsL x).length - i).toNat, ⟨by omega, by omega, by simp⟩, fun i l ⟨i0, i1, hl⟩ => ?_⟩
  by_cases hi : i < ((atomsL x).length : Int)
  · rw [if_pos (by simpa using hi), hl, fill_zero (by omega)]
    refine ⟨⟨i0, hi⟩, ⟨i0, ?_⟩, ⟨by omega, by omega⟩, ⟨by omega, by omega, by rw [show (i + 1).toNat = i.toNat + 1 by omega]⟩, by show ((atomsL x).length - (i + 1)).toNat < ((atomsL x).length - i).toNat; omega⟩
    rw [List.length_append, List.length_take, List.length_replicate]; omega
  · rw [if_neg (by simpa using hi)]
    have hl2 : l = atomsL x := by rw [hl, show i.toNat = (atomsL x).length by omega, List.take_length, Nat.sub_self]; simp
    subst hl2
    have ht : (x ++ [csW 1 2 3 4, csW 5 6 7 8]).take ((x.length : Int)).toNat = x := by rw [Int.toNat_natCast, List.take_left]
    have hn : (x ++ [csW 1 2 3 4, csW 5 6 7 8]).length = x.length + 2 := by rw [List.length_append]; rfl
    rw [ht, hn]
    refine ⟨by omega, l1, l2, ⟨by omega, by omega⟩, ⟨by omega, by omega⟩, by omega, by omega, by omega, by omega, fun _ => ⟨by omega, by omega⟩, ?_⟩
    rw [if_neg (by simp)]
    refine ⟨fun i l => 0 ≤ i ∧ l.length ≤ 256, fun i l => (l.length - i).toNat, ⟨by omega, hal⟩, fun i l ⟨j0, j1⟩ => ?_⟩
    by_cases hj : i < (l.length : Int)
    · rw [if_pos (by simpa using hj)]
      refine ⟨⟨wr _, lit 1 (by decide) (by decide), lit 1 (by decide) (by decide), lit 1 (by decide) (by decide)⟩, ⟨j0, hj⟩, ⟨by omega, by omega⟩, ⟨by omega, by rw [List.length_set]; exact j1⟩, ?_⟩
      show ((l.set _ _).length - (i + 1)).toNat < (l.length - i).toNat
      rw [List.length_set]; omega
    · rw [if_neg (by simpa using hj)]
      refine ⟨by omega, by omega, by omega, by omega, by omega, fun _ => ⟨by omega, by omega⟩, ?_⟩
      rw [if_neg (by simp)]
      refine ⟨by omega, by omega, fun _ => ⟨⟨by omega, by omega⟩, l1⟩, fun _ => ⟨⟨by omega, by omega⟩, ⟨by omega, by omega⟩, l2⟩, ?_⟩
      have g1 : (x ++ [csW 1 2 3 4, csW 5 6 7 8]).getD ((x.length : Int)).toNat default = csW 1 2 3 4 := by
        rw [Int.toNat_natCast, List.getD_eq_getElem?_getD, List.getElem?_append_right (Nat.le_refl _), Nat.sub_self]; rfl
      have g2 : (x ++ [csW 1 2 3 4, csW 5 6 7 8]).getD ((x.length : Int) + 1).toNat default = csW 5 6 7 8 := by
        rw [show ((x.length : Int) + 1).toNat = x.length + 1 by omega, List.getD_eq_getElem?_getD, List.getElem?_append_right (by omega), show x.length + 1 - x.length = 1 by omega]; rfl
      rw [g1, g2]; simp

/-! ### the atoms part the bytes -/
theorem reps_lt (x : List CS) {i j : Nat} (hi : i < (reps x 256).length) (hj : j < (reps x 256).length) (h : i < j) : (reps x 256)[i] < (reps x 256)[j] :=
  List.pairwise_iff_getElem.1 (List.Pairwise.filter (rep x) List.pairwise_lt_range) i j hi hj h
theorem atom_at {x : List CS} {i : Nat} (h : i < (atomsL x).length) : ∃ r, r < 256 ∧ rep x r = true ∧ (reps x 256)[i]? = some r ∧ (atomsL x).getD i default = cls x r := by
  have h2 : i < (reps x 256).length := by unfold atomsL at h; rwa [List.length_map] at h
  have hm := mem_reps.1 (List.getElem_mem h2)
  refine ⟨(reps x 256)[i], hm.1, hm.2, List.getElem?_eq_getElem h2, ?_⟩
  unfold atomsL
  rw [List.getD_eq_getElem?_getD, List.getElem?_map, List.getElem?_eq_getElem h2]; rfl
theorem atom_uni {x : List CS} {i j b : Nat} (hi : i < (atomsL x).length) (hj : j < (atomsL x).length) (hb : b < 256) (h1 : ((atomsL x).getD i default).getLsbD b = true) (h2 : ((atomsL x).getD j default).getLsbD b = true) : i = j := by
  obtain ⟨r, _, a2, a3, a4⟩ := atom_at hi
  obtain ⟨q, _, b2, b3, b4⟩ := atom_at hj
  rw [a4, cls_bit hb] at h1
  rw [b4, cls_bit hb] at h2
  have := rep_uni a2 b2 (sim_trans h1 (sim_symm h2))
  subst this
  obtain ⟨c1, c2⟩ := List.getElem?_eq_some_iff.1 a3
  obtain ⟨d1, d2⟩ := List.getElem?_eq_some_iff.1 b3
  exact nodup_inj (reps_nodup x 256) c1 d1 (c2.trans d2.symm)
theorem atom_of {x : List CS} {b : Nat} (hb : b < 256) : ∃ j, j < (atomsL x).length ∧ ((atomsL x).getD j default).getLsbD b = true := by
  obtain ⟨r, h1, h2, h3⟩ := rep_of x b
  have hm : r ∈ reps x 256 := mem_reps.2 ⟨by omega, h2⟩
  obtain ⟨j, hj⟩ := List.mem_iff_getElem?.1 hm
  have hjl := (List.getElem?_eq_some_iff.1 hj).1
  have hlt : j < (atomsL x).length := by unfold atomsL; rwa [List.length_map]
  obtain ⟨q, _, _, c3, c4⟩ := atom_at hlt
  rw [hj] at c3
  cases c3
  exact ⟨j, hlt, by rw [c4, cls_bit hb]; exact h3⟩
theorem atom_sim {x : List CS} {j b c : Nat} (hj : j < (atomsL x).length) (hb : b < 256) (hc : c < 256) (h1 : ((atomsL x).getD j default).getLsbD b = true) : ((atomsL x).getD j default).getLsbD c = sim x b c := by
  obtain ⟨r, _, _, _, a4⟩ := atom_at hj
  rw [a4, cls_bit hb] at h1
  rw [a4, cls_bit hc]
  cases h : sim x b c with
  | true => exact sim_trans h1 h
  | false =>
    cases h2 : sim x r c with
    | false => rfl
    | true => rw [sim_trans (sim_symm h1) h2] at h; cases h
theorem part_does (v : Value) (x : List CS) (hx : x.length ≤ 1048576) (R1 : List (Nat × Obj)) (h1 : InSl v R1 x.length (x.flatMap wl)) : Does Try.prog 8 [v] (R1 ++ []) [] (Ret (.bool true) []) := by
  refine (lpart_wp v x R1 h1 (fun r => r = true) ?_).weak (by rintro o (⟨r, rfl, rfl⟩ | h) <;> first | rfl | exact h.elim)
  have hal := atoms_len x
  unfold lpart_vc
  refine ⟨by omega, by omega, by omega, fun last i seen place => 0 ≤ i ∧ i ≤ (atomsL x).length ∧ (i = 0 → last = -1) ∧ (∀ r, 0 < i → (reps x 256)[i.toNat - 1]? = some r → last = (r : Int)) ∧
      (∀ b, b < 256 → ∀ j : Nat, (j : Int) < i → ((atomsL x).getD j default).getLsbD b = true → seen b = true ∧ place b = j) ∧ (∀ b, b < 256 → seen b = true → ∃ j : Nat, (j : Int) < i ∧ ((atomsL x).getD j default).getLsbD b = true),
    fun _ i _ _ => ((atomsL x).length - i).toNat, ⟨by omega, by omega, fun _ => rfl, fun r h => by omega, fun b hb j hj => by omega, fun b hb h => by cases h⟩, fun last i seen place ⟨i0, i1, q1, q2, q3, q4⟩ => ?_⟩
  by_cases hi : i < ((atomsL x).length : Int)
  · rw [if_pos (by simpa using hi)]
    refine ⟨⟨i0, hi⟩, ?_⟩
    obtain ⟨r, r1, r2, r3, r4⟩ := atom_at (x := x) (i := i.toNat) (by omega)
    rw [r4]
    have hrr : (cls x r).getLsbD r = true := by rw [cls_bit r1, sim_refl]
    refine ⟨fun least b sn pl => -1 ≤ b ∧ b ≤ 255 ∧ ((least = -1 ∧ ∀ c : Nat, b < c → c < 256 → (cls x r).getLsbD c = false) ∨ ∃ c : Nat, least = c ∧ b < c ∧ c < 256 ∧ (cls x r).getLsbD c = true ∧ ∀ d : Nat, b < d → d < c → (cls x r).getLsbD d = false) ∧
        (∀ c : Nat, c < 256 → sn c = (seen c || (decide (b < c) && (cls x r).getLsbD c)) ∧ pl c = if b < c ∧ (cls x r).getLsbD c = true then i else place c),
      fun _ b _ _ => (b + 1).toNat, ⟨by omega, by omega, .inl ⟨rfl, fun c h1 h2 => by omega⟩, fun c hc => ⟨by rw [decide_eq_false (by omega : ¬ (255 : Int) < c)]; simp, by rw [if_neg (by omega)]⟩⟩, fun least b sn pl ⟨b0, b1, s1, s2⟩ => ?_⟩
    by_cases hb : 0 ≤ b
    · rw [if_pos (by simpa using hb)]
      refine ⟨fun least' sn' pl' => ((least' = -1 ∧ ∀ c : Nat, b - 1 < c → c < 256 → (cls x r).getLsbD c = false) ∨ ∃ c : Nat, least' = c ∧ b - 1 < c ∧ c < 256 ∧ (cls x r).getLsbD c = true ∧ ∀ d : Nat, b - 1 < d → d < c → (cls x r).getLsbD d = false) ∧
        (∀ c : Nat, c < 256 → sn' c = (seen c || (decide (b - 1 < c) && (cls x r).getLsbD c)) ∧ pl' c = if b - 1 < c ∧ (cls x r).getLsbD c = true then i else place c),
        fun least' sn' pl' ⟨t1, t2⟩ => ⟨⟨by omega, by omega⟩, ⟨by omega, by omega, t1, t2⟩, by show (b - 1 + 1).toNat < (b + 1).toNat; omega⟩, ⟨hb, by omega⟩, ?_⟩
      have hbn : b.toNat < 256 := by omega
      have hbe : ((b.toNat : Nat) : Int) = b := by omega
      by_cases hc : (cls x r).getLsbD b.toNat = true
      · rw [if_pos hc]
        refine ⟨⟨hb, by omega⟩, ?_⟩
        have hsn : sn b.toNat = false := by
          rw [(s2 b.toNat hbn).1, decide_eq_false (by omega : ¬ b < ((b.toNat : Nat) : Int))]
          cases hs : seen b.toNat with
          | false => simp
          | true =>
            obtain ⟨j, hj, hjb⟩ := q4 _ hbn hs
            have := atom_uni (x := x) (i := j) (j := i.toNat) (by omega) (by omega) hbn hjb (by rw [r4]; exact hc)
            omega
        rw [if_neg (by rw [hsn]; simp)]
        refine ⟨⟨hb, by omega⟩, ⟨hb, by omega⟩, .inr ⟨b.toNat, hbe.symm, by omega, hbn, hc, fun d h1 h2 => by omega⟩, fun c hc2 => ?_⟩
        show (if c = b.toNat then true else sn c) = _ ∧ (if c = b.toNat then i else pl c) = _
        by_cases he : c = b.toNat
        · subst he
          rw [if_pos rfl, if_pos rfl, decide_eq_true (by omega : b - 1 < ((b.toNat : Nat) : Int)), hc, if_pos ⟨by omega, rfl⟩]; simp
        · rw [if_neg he, if_neg he, (s2 c hc2).1, (s2 c hc2).2]
          have : (b < (c : Int)) ↔ (b - 1 < (c : Int)) := by omega
          simp only [this, and_self]
      · rw [if_neg hc]
        have hcf : (cls x r).getLsbD b.toNat = false := by simpa using hc
        refine ⟨?_, fun c hc2 => ?_⟩
        · rcases s1 with ⟨rfl, s1⟩ | ⟨c, e1, e2, e3, e4, e5⟩
          · refine .inl ⟨rfl, fun c g1 g2 => ?_⟩
            by_cases he : c = b.toNat
            · rw [he]; exact hcf
            · exact s1 c (by omega) g2
          · refine .inr ⟨c, e1, by omega, e3, e4, fun d g1 g2 => ?_⟩
            by_cases he : d = b.toNat
            · rw [he]; exact hcf
            · exact e5 d (by omega) g2
        · rw [(s2 c hc2).1, (s2 c hc2).2]
          by_cases he : c = b.toNat
          · subst he
            rw [hcf]; simp
          · have : (b < (c : Int)) ↔ (b - 1 < (c : Int)) := by omega
            simp only [this, and_self]
    · rw [if_neg (by simpa using hb)]
      have hle : least = (r : Int) := by
        rcases s1 with ⟨_, s1⟩ | ⟨c, e1, e2, e3, e4, e5⟩
        · have := s1 r (by omega) r1
          rw [hrr] at this; cases this
        · rw [e1]
          rcases Nat.lt_trichotomy c r with hlt | he | hgt
          · rw [cls_bit e3] at e4
            have := rep_iff.1 r2 c hlt
            rw [sim_symm e4] at this; cases this
          · rw [he]
          · have := e5 r (by omega) hgt
            rw [hrr] at this; cases this
      have hgt : last < least := by
        rw [hle]
        by_cases hz : i = 0
        · rw [q1 hz]; omega
        · have hp : i.toNat - 1 < (reps x 256).length := by have := (List.getElem?_eq_some_iff.1 r3).1; omega
          obtain ⟨c1, c2⟩ := List.getElem?_eq_some_iff.1 r3
          have := reps_lt x hp c1 (by omega)
          rw [c2] at this
          rw [q2 _ (by omega) (List.getElem?_eq_getElem hp)]; omega
      rw [if_neg (by simp; omega)]
      refine ⟨⟨by omega, by omega⟩, ⟨by omega, by omega, fun h => by omega, fun q _ hq => ?_, fun c hc2 j hj hjc => ?_, fun c hc2 hs => ?_⟩, by show ((atomsL x).length - (i + 1)).toNat < ((atomsL x).length - i).toNat; omega⟩
      · rw [show (i + 1).toNat - 1 = i.toNat by omega, r3] at hq
        cases hq; exact hle
      · rw [(s2 c hc2).1, (s2 c hc2).2]
        by_cases he : (j : Int) < i
        · obtain ⟨g1, g2⟩ := q3 c hc2 j he hjc
          have hno : (cls x r).getLsbD c = false := by
            cases hh : (cls x r).getLsbD c with
            | false => rfl
            | true =>
              have := atom_uni (x := x) (i := j) (j := i.toNat) (by omega) (by omega) hc2 hjc (by rw [r4]; exact hh)
              omega
          rw [g1, hno, if_neg (by simp)]
          exact ⟨by simp, g2⟩
        · have hji : j = i.toNat := by omega
          rw [hji, r4] at hjc
          rw [hjc, decide_eq_true (by omega : b < (c : Int)), if_pos ⟨by omega, rfl⟩]
          exact ⟨by simp, by omega⟩
      · rw [(s2 c hc2).1] at hs
        rcases Bool.or_eq_true _ _ ▸ hs with hs | hs
        · obtain ⟨j, hj, hjc⟩ := q4 c hc2 hs
          exact ⟨j, by omega, hjc⟩
        · rw [Bool.and_eq_true] at hs
          exact ⟨i.toNat, by omega, by rw [r4]; exact hs.2⟩
  · rw [if_neg (by simpa using hi)]
    have hall : ∀ b, b < 256 → seen b = true ∧ ∃ j : Nat, j < (atomsL x).length ∧ ((atomsL x).getD j default).getLsbD b = true ∧ place b = j := fun b hb => by
      obtain ⟨j, hj, hjb⟩ := atom_of (x := x) hb
      obtain ⟨g1, g2⟩ := q3 b hb j (by omega) hjb
      exact ⟨g1, j, hj, hjb, g2⟩
    refine ⟨fun b => 0 ≤ b ∧ b ≤ 256, fun b => (256 - b).toNat, ⟨by omega, by omega⟩, fun b ⟨b0, b1⟩ => ?_⟩
    by_cases hb : b < 256
    · rw [if_pos (by simpa using hb)]
      refine ⟨⟨b0, hb⟩, ?_⟩
      have hbn : b.toNat < 256 := by omega
      obtain ⟨sb, j, hj, hjb, pb⟩ := hall _ hbn
      rw [if_neg (by rw [sb]; simp)]
      refine ⟨fun c => 0 ≤ c ∧ c ≤ b, fun c => (b - c).toNat, ⟨by omega, by omega⟩, fun c ⟨c0, c1⟩ => ?_⟩
      by_cases hc : c < b
      · rw [if_pos (by simpa using hc)]
        have hcn : c.toNat < 256 := by omega
        obtain ⟨sc, k, hk, hkc, pc⟩ := hall _ hcn
        refine ⟨fun al n => 0 ≤ n ∧ n ≤ x.length ∧ (al = true ↔ ∀ m : Nat, (m : Int) < n → (x.getD m default).getLsbD b.toNat = (x.getD m default).getLsbD c.toNat), fun _ n => (x.length - n).toNat, ⟨by omega, by omega, ⟨fun _ m hm => by omega, fun _ => rfl⟩⟩, fun al n ⟨n0, n1, hal2⟩ => ?_⟩
        by_cases hn : n < (x.length : Int)
        · rw [if_pos (by simpa using hn)]
          refine ⟨fun _ => ⟨⟨n0, hn⟩, ⟨b0, hb⟩, ⟨n0, hn⟩, ⟨c0, by omega⟩⟩, ⟨by omega, by omega⟩, ⟨by omega, by omega, ?_⟩, by show (x.length - (n + 1)).toNat < (x.length - n).toNat; omega⟩
          rw [Bool.and_eq_true, hal2, beq_iff_eq]
          constructor
          · rintro ⟨g1, g2⟩ m hm
            by_cases he : (m : Int) < n
            · exact g1 m he
            · rw [show m = n.toNat by omega]; exact g2
          · intro g
            exact ⟨fun m hm => g m (by omega), g n.toNat (by omega)⟩
        · rw [if_neg (by simpa using hn)]
          have hal3 : al = sim x b.toNat c.toNat := by
            rw [Bool.eq_iff_iff, hal2, sim_iff]
            constructor
            · intro g s hs
              obtain ⟨m, hm⟩ := List.mem_iff_getElem?.1 hs
              have hml := (List.getElem?_eq_some_iff.1 hm).1
              have := g m (by omega)
              rw [List.getD_eq_getElem?_getD, hm] at this; exact this
            · intro g m hm
              refine g _ ?_
              rw [List.getD_eq_getElem?_getD, List.getElem?_eq_getElem (by omega)]; exact List.getElem_mem _
          have hpl : decide (place b.toNat = place c.toNat) = sim x b.toNat c.toNat := by
            rw [pb, pc, ← atom_sim hj hbn hcn hjb]
            by_cases he : j = k
            · subst he
              rw [hkc]; simp
            · rw [decide_eq_false (by omega)]
              cases hh : ((atomsL x).getD j default).getLsbD c.toNat with
              | false => rfl
              | true => exact absurd (atom_uni hj hk hcn hh hkc) he
          refine ⟨⟨b0, hb⟩, ⟨c0, by omega⟩, ?_⟩
          rw [hal3, hpl, if_neg (by simp)]
          exact ⟨⟨by omega, by omega⟩, ⟨by omega, by omega⟩, by show (b - (c + 1)).toNat < (b - c).toNat; omega⟩
      · rw [if_neg (by simpa using hc)]
        exact ⟨⟨by omega, by omega⟩, ⟨by omega, by omega⟩, by show (256 - (b + 1)).toNat < (256 - b).toNat; omega⟩
    · rw [if_neg (by simpa using hb)]
      obtain ⟨j, hj, _⟩ := atom_of (x := x) (b := 0) (by decide)
      exact decide_eq_true (by omega)

end Go.Proofs.Ytkjnhjhkaaampaa
