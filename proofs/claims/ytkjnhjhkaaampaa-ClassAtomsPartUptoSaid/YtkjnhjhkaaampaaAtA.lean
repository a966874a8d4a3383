/-
  Atoms.
-/
import Derived.Test.YtkjnhjhkaaampaaAtV
namespace Go.Proofs.Ytkjnhjhkaaampaa
open Go Go.RowKit

theorem tf_ent_12 : entB Try.prog 12 = true := by kernel_rfl
theorem tf_zero_26 : zeroB Try.prog 26 = some (wl cs0) := by kernel_rfl
theorem tf_ent_17 : entB Try.prog 17 = true := by kernel_rfl
theorem tf_ent_18 : entB Try.prog 18 = true := by kernel_rfl
theorem tf_arr_56 : arrB Try.prog 56 26 2 4 = true := by kernel_rfl
theorem tf_eqg_26 : Program.eqGuardType Try.prog Try.prog.depth 26 = false := by kernel_rfl
theorem tf_ent_9 : entB Try.prog 9 = true := by kernel_rfl
theorem tf_some_5 : (Try.prog.underlying 5).isSome = true := by kernel_rfl
theorem tf_sl_55 : slB Try.prog 55 3 1 = true := by kernel_rfl
theorem tf_scal_3 : scalB Try.prog 3 = true := by kernel_rfl
theorem tf_info_3 : infoB Try.prog 3 = some ([Value.int .i64 0], 1, 8) := by kernel_rfl
theorem tf_size_4 : sizeB Try.prog 4 1 = true := by kernel_rfl

def atoms_vc (sets : List CS) (K : (List CS) → Prop) : Prop :=
  ((0 ≤ (0 : Int) ∧ (0 : Int) < 256) ∧ (0 ≤ (255 : Int) ∧ (255 : Int) < 256)) ∧
  ∃ (Inv_8' : Int → (List CS) → Prop) (mu_8' : Int → (List CS) → Nat),
    Inv_8' 0 [spanS ((0 : Int)).toNat ((255 : Int)).toNat] ∧ ∀ (t21_1' : Int) (l_35' : List CS), Inv_8' t21_1' l_35' →
      (if (decide (t21_1' < (sets.length : Int))) = true then
        (0 ≤ t21_1' ∧ t21_1' < (sets.length : Int)) ∧
        ∃ (Inv_11' : Int → (List CS) → Prop) (mu_11' : Int → (List CS) → Nat),
          Inv_11' 0 [] ∧ ∀ (t27_5' : Int) (l_47' : List CS), Inv_11' t27_5' l_47' →
            (if (decide (t27_5' < (l_35'.length : Int))) = true then
              (0 ≤ t27_5' ∧ t27_5' < (l_35'.length : Int)) ∧
              ∃ (Inv_12' : Int → (List CS) → Prop) (mu_12' : Int → (List CS) → Nat),
                Inv_12' 0 l_47' ∧ ∀ (t38_17' : Int) (l_51' : List CS), Inv_12' t38_17' l_51' →
                  (if (decide (t38_17' < 2)) = true then
                    ∃ (J0_26' : (List CS) → Prop),
                      (∀ (l_52' : List CS), J0_26' l_52' →
                        (I64 (t38_17' + 1)) ∧
                        Inv_12' (t38_17' + 1) l_52' ∧ mu_12' (t38_17' + 1) l_52' < mu_12' t38_17' l_51') ∧
                      (0 ≤ t38_17' ∧ t38_17' < 2) ∧
                      (if (!decide ((if t38_17' = 0 then ((l_35'.getD (t27_5').toNat default) &&& (sets.getD (t21_1').toNat default), (l_35'.getD (t27_5').toNat default) &&& ~~~ (sets.getD (t21_1').toNat default)).1 else ((l_35'.getD (t27_5').toNat default) &&& (sets.getD (t21_1').toNat default), (l_35'.getD (t27_5').toNat default) &&& ~~~ (sets.getD (t21_1').toNat default)).2) = cs0)) = true then
                        (((l_51'.length + 1) + (l_51'.length + 1) / 4 + 192) * 32 ≤ 281474976710656 ∧ l_51'.length + 1 ≤ 9223372036854775807) ∧
                        J0_26' (l_51' ++ [(if t38_17' = 0 then ((l_35'.getD (t27_5').toNat default) &&& (sets.getD (t21_1').toNat default), (l_35'.getD (t27_5').toNat default) &&& ~~~ (sets.getD (t21_1').toNat default)).1 else ((l_35'.getD (t27_5').toNat default) &&& (sets.getD (t21_1').toNat default), (l_35'.getD (t27_5').toNat default) &&& ~~~ (sets.getD (t21_1').toNat default)).2)])
                      else
                        J0_26' l_51')
                  else
                    (I64 (t27_5' + 1)) ∧
                    Inv_11' (t27_5' + 1) l_51' ∧ mu_11' (t27_5' + 1) l_51' < mu_11' t27_5' l_47')
            else
              (I64 (t21_1' + 1)) ∧
              Inv_8' (t21_1' + 1) l_47' ∧ mu_8' (t21_1' + 1) l_47' < mu_8' t21_1' l_35')
      else
        (0 ≤ (l_35'.length : Int) ∧ (32 : Int) * (l_35'.length : Int) ≤ 281474976710656 ∧ (l_35'.length : Int) ≤ 9223372036854775807) ∧
        ∃ (Inv_15' : Int → (List CS) → Prop) (mu_15' : Int → (List CS) → Nat),
          Inv_15' 0 [] ∧ ∀ (t55_1' : Int) (l_64' : List CS), Inv_15' t55_1' l_64' →
            (if (decide (t55_1' < 256)) = true then
              ∃ (Inv_16' : Int → (List CS) → Prop) (mu_16' : Int → (List CS) → Nat),
                Inv_16' 0 l_64' ∧ ∀ (t60_5' : Int) (l_68' : List CS), Inv_16' t60_5' l_68' →
                  (if (decide (t60_5' < (l_35'.length : Int))) = true then
                    ∃ (J0_35' : (List CS) → Prop),
                      (∀ (l_69' : List CS), J0_35' l_69' →
                        (I64 (t60_5' + 1)) ∧
                        Inv_16' (t60_5' + 1) l_69' ∧ mu_16' (t60_5' + 1) l_69' < mu_16' t60_5' l_68') ∧
                      (0 ≤ t60_5' ∧ t60_5' < (l_35'.length : Int)) ∧
                      (I64 (((least (l_35'.getD (t60_5').toNat default)).1 : Int))) ∧
                      (if (decide (((least (l_35'.getD (t60_5').toNat default)).1 : Int) = t55_1')) = true then
                        (((l_68'.length + 1) + (l_68'.length + 1) / 4 + 192) * 32 ≤ 281474976710656 ∧ l_68'.length + 1 ≤ 9223372036854775807) ∧
                        J0_35' (l_68' ++ [(l_35'.getD (t60_5').toNat default)])
                      else
                        J0_35' l_68')
                  else
                    (I64 (t55_1' + 1)) ∧
                    Inv_15' (t55_1' + 1) l_68' ∧ mu_15' (t55_1' + 1) l_68' < mu_15' t55_1' l_64')
            else
              K l_64'))
set_option maxRecDepth 100000 in
theorem atoms_wp (w : Value) (sets : List CS) (Ri1 : List (Nat × Obj)) (hRi1 : InSl w Ri1 sets.length (sets.flatMap wl)) (K : (List CS) → Prop) (h : atoms_vc sets K) :
    Does Try.prog 25 [w] (Ri1 ++ []) [] (fun o => (∃ (w_144' : Value) (v : List CS), K v ∧ o = .ret (w_144') [HA.row w_144' 26 4 v.length (v.flatMap wl)]) ∨ (False)) := by
  unfold atoms_vc at h
  refine does_of_wc (n := 80) (L0 := [(0, w)]) Try.func25 rfl rfl rfl rfl (fun w0 M Q hE => ?_)
  have hi1 : LIn ⟨80, [], w0, M, (Ri1 ++ [])⟩ w sets.length (sets.flatMap wl) := LIn.mk hRi1 (fun p hp => by simp [hp])
  refine wc_seq (fun K0 hK => ?_)
  refine wc_region ?_
  refine WL.val (OV.assign rfl) rfl rfl rfl ?_
  refine WL.nilRow 26 4 wl ?_
  refine WL.nil ?_
  refine KX.go (hK [(0, w)] _ ?_) ⟨rfl, trivial⟩
  refine wc_seq (fun K0_1' hK_1' => ?_)
  refine wc_region ?_
  obtain ⟨o, h⟩ := h
  refine WL.call (A := []) tf_ent_12 rfl (span_does (0 : Int) (255 : Int) o) rfl trivial rfl rfl ?_
  refine WL.make (MV.buildSlice (cs := wl (spanS ((0 : Int)).toNat ((255 : Int)).toNat)) rfl tf_sl_46 (by first | rfl | kernel_rfl)) rfl rfl rfl (fun b => ?_)
  refine WL.asRow (f := wl) (ms := [spanS ((0 : Int)).toNat ((255 : Int)).toNat]) 0 rfl rfl rfl wl_len rfl ?_
  refine WL.val (OV.assign rfl) rfl rfl rfl ?_
  refine WL.nil ?_
  refine KX.go (hK_1' [(0, w), (3, Value.slice (some ⟨b, 0, none⟩) 1 1)] _ ?_) ⟨rfl, rfl, trivial⟩
  refine wc_seq (fun K0_2' hK_2' => ?_)
  refine wc_seq (fun K0_3' hK_3' => ?_)
  refine wc_region ?_
  refine WL.val (OV.move rfl) rfl rfl rfl ?_
  refine WL.val (OV.lenIn hi1 rfl tf_sl_46) rfl rfl rfl ?_
  refine WL.val (OV.move rfl) rfl rfl rfl ?_
  refine WL.nil ?_
  refine KX.go (hK_3' [(3, Value.slice (some ⟨b, 0, none⟩) 1 1), (19, w), (20, Value.int .i64 (sets.length : Int)), (21, Value.int .i64 0)] _ ?_) ⟨rfl, rfl, rfl, rfl, trivial⟩
  refine wc_block ?_
  refine WC.pick (H' := [HA.row (Value.slice (some ⟨b, 0, none⟩) 1 1) 26 4 [spanS ((0 : Int)).toNat ((255 : Int)).toNat].length ([spanS ((0 : Int)).toNat ((255 : Int)).toNat].flatMap wl)]) [0] rfl rfl ?_
  obtain ⟨Inv_8', mu_8', h0_8', hr_8'⟩ := h
  refine wc_loop (S := Int × Value × (List CS)) (fun σ => Inv_8' σ.1 σ.2.2) (fun σ => mu_8' σ.1 σ.2.2) (fun σ => [(3, σ.2.1), (19, w), (20, Value.int .i64 (sets.length : Int)), (21, Value.int .i64 σ.1)]) (fun σ => [HA.row σ.2.1 26 4 σ.2.2.length (σ.2.2.flatMap wl)]) (0, Value.slice (some ⟨b, 0, none⟩) 1 1, [spanS ((0 : Int)).toNat ((255 : Int)).toNat]) h0_8' ⟨rfl, rfl, rfl, rfl, trivial⟩ rfl ?_
  rintro ⟨t21_1', w_72', l_35'⟩ hi K0_182' hK_182'
  have h := hr_8' t21_1' l_35' hi
  show WC _ _ _ _ [(3, w_72'), (19, w), (20, Value.int .i64 (sets.length : Int)), (21, Value.int .i64 t21_1')] [HA.row w_72' 26 4 l_35'.length (l_35'.flatMap wl)]
  refine wc_seq (fun K0_183' hK_183' => ?_)
  refine wc_region ?_
  refine WL.val (OV.lss rfl rfl) rfl rfl rfl ?_
  refine WL.nil ?_
  refine KX.go (hK_183' [(3, w_72'), (19, w), (20, Value.int .i64 (sets.length : Int)), (21, Value.int .i64 t21_1'), (22, Value.bool (decide (t21_1' < (sets.length : Int))))] _ ?_) ⟨rfl, rfl, rfl, rfl, rfl, trivial⟩
  refine wc_seq (fun K0_184' hK_184' => ?_)
  refine wc_cond (b := decide (t21_1' < (sets.length : Int))) rfl (fun hb => ?_) (fun hb => ?_)
  · replace h := if_T h hb
    refine wc_skip ?_
    refine KX.go (hK_184' [(3, w_72'), (19, w), (20, Value.int .i64 (sets.length : Int)), (21, Value.int .i64 t21_1')] _ ?_) ⟨rfl, rfl, rfl, rfl, trivial⟩
    refine wc_seq (fun K0_185' hK_185' => ?_)
    refine wc_block ?_
    refine wc_seq (fun K0_186' hK_186' => ?_)
    refine wc_region ?_
    obtain ⟨o_98', h⟩ := h
    refine WL.val (OV.indexIn hi1 rfl rfl tf_sl_46 o_98') rfl rfl rfl ?_
    refine WL.val (OV.loadInE (f := wl) hi1 rfl wl_len (by decide) (by omega) tf_row_26) rfl rfl rfl ?_
    refine WL.make (MV.alloc tf_zero_26) rfl rfl rfl (fun b_81' => ?_)
    refine WL.storeW (vs := wl (sets.getD (t21_1').toNat default)) 0 rfl rfl rfl rfl rfl tf_size_26 rfl rfl rfl ?_
    refine WL.nil ?_
    refine KX.go (hK_186' [(3, w_72'), (5, Value.pointer (some ⟨b_81', 0, none⟩)), (19, w), (20, Value.int .i64 (sets.length : Int)), (21, Value.int .i64 t21_1')] _ ?_) ⟨rfl, rfl, rfl, rfl, rfl, trivial⟩
    refine wc_seq (fun K0_187' hK_187' => ?_)
    refine wc_region ?_
    refine WL.val (OV.assign rfl) rfl rfl rfl ?_
    refine WL.nilRow 26 4 wl ?_
    refine WL.nil ?_
    refine KX.go (hK_187' [(3, w_72'), (5, Value.pointer (some ⟨b_81', 0, none⟩)), (6, Value.slice none 0 0), (19, w), (20, Value.int .i64 (sets.length : Int)), (21, Value.int .i64 t21_1')] _ ?_) ⟨rfl, rfl, rfl, rfl, rfl, rfl, trivial⟩
    refine wc_seq (fun K0_188' hK_188' => ?_)
    refine wc_seq (fun K0_189' hK_189' => ?_)
    refine wc_region ?_
    refine WL.val (OV.move rfl) rfl rfl rfl ?_
    refine WL.val (OV.lenRow 2 rfl rfl tf_sl_46) rfl rfl rfl ?_
    refine WL.val (OV.move rfl) rfl rfl rfl ?_
    refine WL.nil ?_
    refine KX.go (hK_189' [(5, Value.pointer (some ⟨b_81', 0, none⟩)), (6, Value.slice none 0 0), (19, w), (20, Value.int .i64 (sets.length : Int)), (21, Value.int .i64 t21_1'), (25, w_72'), (26, Value.int .i64 (l_35'.length : Int)), (27, Value.int .i64 0)] _ ?_) ⟨rfl, rfl, rfl, rfl, rfl, rfl, rfl, rfl, trivial⟩
    refine wc_block ?_
    obtain ⟨Inv_11', mu_11', h0_11', hr_11'⟩ := h
    refine wc_loop (S := Int × Value × (List CS)) (fun σ => Inv_11' σ.1 σ.2.2) (fun σ => mu_11' σ.1 σ.2.2) (fun σ => [(5, Value.pointer (some ⟨b_81', 0, none⟩)), (6, σ.2.1), (19, w), (20, Value.int .i64 (sets.length : Int)), (21, Value.int .i64 t21_1'), (25, w_72'), (26, Value.int .i64 (l_35'.length : Int)), (27, Value.int .i64 σ.1)]) (fun σ => [HA.row σ.2.1 26 4 σ.2.2.length (σ.2.2.flatMap wl), HA.blk b_81' (.cells (wl (sets.getD (t21_1').toNat default)).toArray 26 (0, 0)), HA.row w_72' 26 4 l_35'.length (l_35'.flatMap wl)]) (0, Value.slice none 0 0, []) h0_11' ⟨rfl, rfl, rfl, rfl, rfl, rfl, rfl, rfl, trivial⟩ rfl ?_
    rintro ⟨t27_5', w_96', l_47'⟩ hi K0_244' hK_244'
    have h := hr_11' t27_5' l_47' hi
    show WC _ _ _ _ [(5, Value.pointer (some ⟨b_81', 0, none⟩)), (6, w_96'), (19, w), (20, Value.int .i64 (sets.length : Int)), (21, Value.int .i64 t21_1'), (25, w_72'), (26, Value.int .i64 (l_35'.length : Int)), (27, Value.int .i64 t27_5')] [HA.row w_96' 26 4 l_47'.length (l_47'.flatMap wl), HA.blk b_81' (.cells (wl (sets.getD (t21_1').toNat default)).toArray 26 (0, 0)), HA.row w_72' 26 4 l_35'.length (l_35'.flatMap wl)]
    refine wc_seq (fun K0_245' hK_245' => ?_)
    refine wc_region ?_
    refine WL.val (OV.lss rfl rfl) rfl rfl rfl ?_
    refine WL.nil ?_
    refine KX.go (hK_245' [(5, Value.pointer (some ⟨b_81', 0, none⟩)), (6, w_96'), (19, w), (20, Value.int .i64 (sets.length : Int)), (21, Value.int .i64 t21_1'), (25, w_72'), (26, Value.int .i64 (l_35'.length : Int)), (27, Value.int .i64 t27_5'), (28, Value.bool (decide (t27_5' < (l_35'.length : Int))))] _ ?_) ⟨rfl, rfl, rfl, rfl, rfl, rfl, rfl, rfl, rfl, trivial⟩
    refine wc_seq (fun K0_246' hK_246' => ?_)
    refine wc_cond (b := decide (t27_5' < (l_35'.length : Int))) rfl (fun hb => ?_) (fun hb => ?_)
    · replace h := if_T h hb
      refine wc_skip ?_
      refine KX.go (hK_246' [(5, Value.pointer (some ⟨b_81', 0, none⟩)), (6, w_96'), (19, w), (20, Value.int .i64 (sets.length : Int)), (21, Value.int .i64 t21_1'), (25, w_72'), (26, Value.int .i64 (l_35'.length : Int)), (27, Value.int .i64 t27_5')] _ ?_) ⟨rfl, rfl, rfl, rfl, rfl, rfl, rfl, rfl, trivial⟩
      refine wc_seq (fun K0_247' hK_247' => ?_)
      refine wc_block ?_
      refine wc_seq (fun K0_248' hK_248' => ?_)
      refine wc_region ?_
      obtain ⟨o_130', h⟩ := h
      refine WL.val (OV.indexRow 2 rfl rfl rfl tf_sl_46 o_130') rfl rfl rfl ?_
      refine WL.val (OV.loadE (f := wl) 2 rfl rfl wl_len (by decide) (by omega) tf_row_26) rfl rfl rfl ?_
      refine WL.make (MV.alloc tf_zero_26) rfl rfl rfl (fun b_108' => ?_)
      refine WL.storeW (vs := wl (l_35'.getD (t27_5').toNat default)) 0 rfl rfl rfl rfl rfl tf_size_26 rfl rfl rfl ?_
      refine WL.nil ?_
      refine KX.go (hK_248' [(5, Value.pointer (some ⟨b_81', 0, none⟩)), (6, w_96'), (8, Value.pointer (some ⟨b_108', 0, none⟩)), (19, w), (20, Value.int .i64 (sets.length : Int)), (21, Value.int .i64 t21_1'), (25, w_72'), (26, Value.int .i64 (l_35'.length : Int)), (27, Value.int .i64 t27_5')] _ ?_) ⟨rfl, rfl, rfl, rfl, rfl, rfl, rfl, rfl, rfl, trivial⟩
      refine wc_seq (fun K0_249' hK_249' => ?_)
      refine wc_draw_all [] tf_mixed (by kernel_rfl) rfl (fun T_8' hT_8' => ?_)
      refine FL.val (fun _ => OV.loadR rfl (At.own 0 rfl) tf_row_26) rfl (fun _ => rfl) rfl rfl ?_
      refine FL.val (fun _ => OV.loadR rfl (At.own 2 rfl) tf_row_26) rfl (fun _ => rfl) rfl rfl ?_
      refine FL.call tf_ent_17 (fun _ => rfl) (meet_does (l_35'.getD (t27_5').toNat default) (sets.getD (t21_1').toNat default)) trivial rfl (fun _ => rfl) rfl ?_
      refine FL.val (fun _ => OV.loadR rfl (At.own 0 rfl) tf_row_26) rfl (fun _ => rfl) rfl rfl ?_
      refine FL.val (fun _ => OV.loadR rfl (At.own 2 rfl) tf_row_26) rfl (fun _ => rfl) rfl rfl ?_
      refine FL.call tf_ent_18 (fun _ => rfl) (minus_does (l_35'.getD (t27_5').toNat default) (sets.getD (t21_1').toNat default)) trivial rfl (fun _ => rfl) rfl ?_
      refine FL.val (fun _ => OV.build rfl (cs := wl2 ((l_35'.getD (t27_5').toNat default) &&& (sets.getD (t21_1').toNat default), (l_35'.getD (t27_5').toNat default) &&& ~~~ (sets.getD (t21_1').toNat default))) (by kernel_rfl)) rfl (fun _ => rfl) rfl rfl ?_
      refine FL.val (fun _ => OV.move rfl) rfl (fun _ => rfl) rfl rfl ?_
      refine FL.weak (L' := fun _ => [(5, Value.pointer (some ⟨b_81', 0, none⟩)), (6, w_96'), (19, w), (20, Value.int .i64 (sets.length : Int)), (21, Value.int .i64 t21_1'), (25, w_72'), (26, Value.int .i64 (l_35'.length : Int)), (27, Value.int .i64 t27_5'), (37, Value.agg (wl2 ((l_35'.getD (t27_5').toNat default) &&& (sets.getD (t21_1').toNat default), (l_35'.getD (t27_5').toNat default) &&& ~~~ (sets.getD (t21_1').toNat default))).toArray), (38, Value.int .i64 0)]) (fun _ => ⟨rfl, rfl, rfl, rfl, rfl, rfl, rfl, rfl, rfl, rfl, trivial⟩) (FL.nil (hT_8' (fun _ => [(5, Value.pointer (some ⟨b_81', 0, none⟩)), (6, w_96'), (19, w), (20, Value.int .i64 (sets.length : Int)), (21, Value.int .i64 t21_1'), (25, w_72'), (26, Value.int .i64 (l_35'.length : Int)), (27, Value.int .i64 t27_5'), (37, Value.agg (wl2 ((l_35'.getD (t27_5').toNat default) &&& (sets.getD (t21_1').toNat default), (l_35'.getD (t27_5').toNat default) &&& ~~~ (sets.getD (t21_1').toNat default))).toArray), (38, Value.int .i64 0)]) (fun _ => ?_)))
      refine KX.go (hK_249' [(5, Value.pointer (some ⟨b_81', 0, none⟩)), (6, w_96'), (19, w), (20, Value.int .i64 (sets.length : Int)), (21, Value.int .i64 t21_1'), (25, w_72'), (26, Value.int .i64 (l_35'.length : Int)), (27, Value.int .i64 t27_5'), (37, Value.agg (wl2 ((l_35'.getD (t27_5').toNat default) &&& (sets.getD (t21_1').toNat default), (l_35'.getD (t27_5').toNat default) &&& ~~~ (sets.getD (t21_1').toNat default))).toArray), (38, Value.int .i64 0)] _ ?_) ⟨rfl, rfl, rfl, rfl, rfl, rfl, rfl, rfl, rfl, rfl, trivial⟩
      refine wc_block ?_
      refine WC.pick (H' := [HA.row w_96' 26 4 l_47'.length (l_47'.flatMap wl), HA.blk b_81' (.cells (wl (sets.getD (t21_1').toNat default)).toArray 26 (0, 0)), HA.row w_72' 26 4 l_35'.length (l_35'.flatMap wl)]) [1, 2, 3] rfl rfl ?_
      obtain ⟨Inv_12', mu_12', h0_12', hr_12'⟩ := h
      refine wc_loop (S := Int × Value × (List CS)) (fun σ => Inv_12' σ.1 σ.2.2) (fun σ => mu_12' σ.1 σ.2.2) (fun σ => [(5, Value.pointer (some ⟨b_81', 0, none⟩)), (6, σ.2.1), (19, w), (20, Value.int .i64 (sets.length : Int)), (21, Value.int .i64 t21_1'), (25, w_72'), (26, Value.int .i64 (l_35'.length : Int)), (27, Value.int .i64 t27_5'), (37, Value.agg (wl2 ((l_35'.getD (t27_5').toNat default) &&& (sets.getD (t21_1').toNat default), (l_35'.getD (t27_5').toNat default) &&& ~~~ (sets.getD (t21_1').toNat default))).toArray), (38, Value.int .i64 σ.1)]) (fun σ => [HA.row σ.2.1 26 4 σ.2.2.length (σ.2.2.flatMap wl), HA.blk b_81' (.cells (wl (sets.getD (t21_1').toNat default)).toArray 26 (0, 0)), HA.row w_72' 26 4 l_35'.length (l_35'.flatMap wl)]) (0, w_96', l_47') h0_12' ⟨rfl, rfl, rfl, rfl, rfl, rfl, rfl, rfl, rfl, rfl, trivial⟩ rfl ?_
      rintro ⟨t38_17', w_104', l_51'⟩ hi K0_264' hK_264'
      have h := hr_12' t38_17' l_51' hi
      show WC _ _ _ _ [(5, Value.pointer (some ⟨b_81', 0, none⟩)), (6, w_104'), (19, w), (20, Value.int .i64 (sets.length : Int)), (21, Value.int .i64 t21_1'), (25, w_72'), (26, Value.int .i64 (l_35'.length : Int)), (27, Value.int .i64 t27_5'), (37, Value.agg (wl2 ((l_35'.getD (t27_5').toNat default) &&& (sets.getD (t21_1').toNat default), (l_35'.getD (t27_5').toNat default) &&& ~~~ (sets.getD (t21_1').toNat default))).toArray), (38, Value.int .i64 t38_17')] [HA.row w_104' 26 4 l_51'.length (l_51'.flatMap wl), HA.blk b_81' (.cells (wl (sets.getD (t21_1').toNat default)).toArray 26 (0, 0)), HA.row w_72' 26 4 l_35'.length (l_35'.flatMap wl)]
      refine wc_seq (fun K0_265' hK_265' => ?_)
      refine wc_region ?_
      refine WL.val (OV.lss rfl rfl) rfl rfl rfl ?_
      refine WL.nil ?_
      refine KX.go (hK_265' [(5, Value.pointer (some ⟨b_81', 0, none⟩)), (6, w_104'), (19, w), (20, Value.int .i64 (sets.length : Int)), (21, Value.int .i64 t21_1'), (25, w_72'), (26, Value.int .i64 (l_35'.length : Int)), (27, Value.int .i64 t27_5'), (37, Value.agg (wl2 ((l_35'.getD (t27_5').toNat default) &&& (sets.getD (t21_1').toNat default), (l_35'.getD (t27_5').toNat default) &&& ~~~ (sets.getD (t21_1').toNat default))).toArray), (38, Value.int .i64 t38_17'), (39, Value.bool (decide (t38_17' < 2)))] _ ?_) ⟨rfl, rfl, rfl, rfl, rfl, rfl, rfl, rfl, rfl, rfl, rfl, trivial⟩
      refine wc_seq (fun K0_266' hK_266' => ?_)
      refine wc_cond (b := decide (t38_17' < 2)) rfl (fun hb => ?_) (fun hb => ?_)
      · replace h := if_T h hb
        refine wc_skip ?_
        refine KX.go (hK_266' [(5, Value.pointer (some ⟨b_81', 0, none⟩)), (6, w_104'), (19, w), (20, Value.int .i64 (sets.length : Int)), (21, Value.int .i64 t21_1'), (25, w_72'), (26, Value.int .i64 (l_35'.length : Int)), (27, Value.int .i64 t27_5'), (37, Value.agg (wl2 ((l_35'.getD (t27_5').toNat default) &&& (sets.getD (t21_1').toNat default), (l_35'.getD (t27_5').toNat default) &&& ~~~ (sets.getD (t21_1').toNat default))).toArray), (38, Value.int .i64 t38_17')] _ ?_) ⟨rfl, rfl, rfl, rfl, rfl, rfl, rfl, rfl, rfl, rfl, trivial⟩
        obtain ⟨J0_26', hJ_26', h⟩ := h
        refine wc_seqJ (X := Value × (List CS)) (fun σ => J0_26' σ.2) (fun σ => [(5, Value.pointer (some ⟨b_81', 0, none⟩)), (6, σ.1), (19, w), (20, Value.int .i64 (sets.length : Int)), (21, Value.int .i64 t21_1'), (25, w_72'), (26, Value.int .i64 (l_35'.length : Int)), (27, Value.int .i64 t27_5'), (37, Value.agg (wl2 ((l_35'.getD (t27_5').toNat default) &&& (sets.getD (t21_1').toNat default), (l_35'.getD (t27_5').toNat default) &&& ~~~ (sets.getD (t21_1').toNat default))).toArray), (38, Value.int .i64 t38_17')]) (fun σ => [HA.row σ.1 26 4 σ.2.length (σ.2.flatMap wl), HA.blk b_81' (.cells (wl (sets.getD (t21_1').toNat default)).toArray 26 (0, 0)), HA.row w_72' 26 4 l_35'.length (l_35'.flatMap wl)]) ?_ (fun K0_269' hK_269' => ?_)
        · rintro ⟨w_106', l_52'⟩ hj
          replace h := hJ_26' l_52' hj
          show WC _ _ _ _ [(5, Value.pointer (some ⟨b_81', 0, none⟩)), (6, w_106'), (19, w), (20, Value.int .i64 (sets.length : Int)), (21, Value.int .i64 t21_1'), (25, w_72'), (26, Value.int .i64 (l_35'.length : Int)), (27, Value.int .i64 t27_5'), (37, Value.agg (wl2 ((l_35'.getD (t27_5').toNat default) &&& (sets.getD (t21_1').toNat default), (l_35'.getD (t27_5').toNat default) &&& ~~~ (sets.getD (t21_1').toNat default))).toArray), (38, Value.int .i64 t38_17')] [HA.row w_106' 26 4 l_52'.length (l_52'.flatMap wl), HA.blk b_81' (.cells (wl (sets.getD (t21_1').toNat default)).toArray 26 (0, 0)), HA.row w_72' 26 4 l_35'.length (l_35'.flatMap wl)]
          refine wc_region ?_
          obtain ⟨o_142', h⟩ := h
          refine WL.val (OV.add rfl rfl o_142') rfl rfl rfl ?_
          refine WL.val (OV.move rfl) rfl rfl rfl ?_
          refine WL.nil ?_
          exact KX.goH (hK_264' (t38_17' + 1, w_106', l_52') h.1 h.2) ⟨rfl, rfl, rfl, rfl, rfl, rfl, rfl, rfl, rfl, rfl, trivial⟩ [0, 1, 2] rfl rfl
        · skip
          refine wc_block ?_
          refine wc_seq (fun K0_270' hK_270' => ?_)
          refine wc_region ?_
          obtain ⟨o_143', h⟩ := h
          refine WL.val (OV.index2 rfl rfl tf_arr_56 tf_row_26 o_143') rfl rfl rfl ?_
          refine WL.make (MV.alloc tf_zero_26) rfl rfl rfl (fun b_119' => ?_)
          refine WL.storeW (vs := wl (if t38_17' = 0 then ((l_35'.getD (t27_5').toNat default) &&& (sets.getD (t21_1').toNat default), (l_35'.getD (t27_5').toNat default) &&& ~~~ (sets.getD (t21_1').toNat default)).1 else ((l_35'.getD (t27_5').toNat default) &&& (sets.getD (t21_1').toNat default), (l_35'.getD (t27_5').toNat default) &&& ~~~ (sets.getD (t21_1').toNat default)).2)) 0 rfl rfl rfl rfl rfl tf_size_26 rfl rfl rfl ?_
          refine WL.nil ?_
          refine KX.go (hK_270' [(5, Value.pointer (some ⟨b_81', 0, none⟩)), (6, w_104'), (10, Value.pointer (some ⟨b_119', 0, none⟩)), (19, w), (20, Value.int .i64 (sets.length : Int)), (21, Value.int .i64 t21_1'), (25, w_72'), (26, Value.int .i64 (l_35'.length : Int)), (27, Value.int .i64 t27_5'), (37, Value.agg (wl2 ((l_35'.getD (t27_5').toNat default) &&& (sets.getD (t21_1').toNat default), (l_35'.getD (t27_5').toNat default) &&& ~~~ (sets.getD (t21_1').toNat default))).toArray), (38, Value.int .i64 t38_17')] _ ?_) ⟨rfl, rfl, rfl, rfl, rfl, rfl, rfl, rfl, rfl, rfl, rfl, trivial⟩
          refine wc_seq (fun K0_271' hK_271' => ?_)
          refine wc_region ?_
          refine WL.val (OV.loadR rfl (At.own 0 rfl) tf_row_26) rfl rfl rfl ?_
          refine WL.val (OV.build rfl (cs := wl cs0) rfl) rfl rfl rfl ?_
          refine WL.val (OV.neqA (xs := wl (if t38_17' = 0 then ((l_35'.getD (t27_5').toNat default) &&& (sets.getD (t21_1').toNat default), (l_35'.getD (t27_5').toNat default) &&& ~~~ (sets.getD (t21_1').toNat default)).1 else ((l_35'.getD (t27_5').toNat default) &&& (sets.getD (t21_1').toNat default), (l_35'.getD (t27_5').toNat default) &&& ~~~ (sets.getD (t21_1').toNat default)).2)) (ys := wl cs0) rfl rfl tf_eqg_26 (eqlCS Try.underlying26 (if t38_17' = 0 then ((l_35'.getD (t27_5').toNat default) &&& (sets.getD (t21_1').toNat default), (l_35'.getD (t27_5').toNat default) &&& ~~~ (sets.getD (t21_1').toNat default)).1 else ((l_35'.getD (t27_5').toNat default) &&& (sets.getD (t21_1').toNat default), (l_35'.getD (t27_5').toNat default) &&& ~~~ (sets.getD (t21_1').toNat default)).2) cs0)) rfl rfl rfl ?_
          refine WL.nil ?_
          refine KX.go (hK_271' [(5, Value.pointer (some ⟨b_81', 0, none⟩)), (6, w_104'), (10, Value.pointer (some ⟨b_119', 0, none⟩)), (19, w), (20, Value.int .i64 (sets.length : Int)), (21, Value.int .i64 t21_1'), (25, w_72'), (26, Value.int .i64 (l_35'.length : Int)), (27, Value.int .i64 t27_5'), (37, Value.agg (wl2 ((l_35'.getD (t27_5').toNat default) &&& (sets.getD (t21_1').toNat default), (l_35'.getD (t27_5').toNat default) &&& ~~~ (sets.getD (t21_1').toNat default))).toArray), (38, Value.int .i64 t38_17'), (43, Value.bool (!decide ((if t38_17' = 0 then ((l_35'.getD (t27_5').toNat default) &&& (sets.getD (t21_1').toNat default), (l_35'.getD (t27_5').toNat default) &&& ~~~ (sets.getD (t21_1').toNat default)).1 else ((l_35'.getD (t27_5').toNat default) &&& (sets.getD (t21_1').toNat default), (l_35'.getD (t27_5').toNat default) &&& ~~~ (sets.getD (t21_1').toNat default)).2) = cs0)))] _ ?_) ⟨rfl, rfl, rfl, rfl, rfl, rfl, rfl, rfl, rfl, rfl, rfl, rfl, trivial⟩
          refine wc_cond (b := !decide ((if t38_17' = 0 then ((l_35'.getD (t27_5').toNat default) &&& (sets.getD (t21_1').toNat default), (l_35'.getD (t27_5').toNat default) &&& ~~~ (sets.getD (t21_1').toNat default)).1 else ((l_35'.getD (t27_5').toNat default) &&& (sets.getD (t21_1').toNat default), (l_35'.getD (t27_5').toNat default) &&& ~~~ (sets.getD (t21_1').toNat default)).2) = cs0)) rfl (fun hb => ?_) (fun hb => ?_)
          · replace h := if_T h hb
            refine wc_region ?_
            refine WL.val (OV.move rfl) rfl rfl rfl ?_
            refine WL.val (OV.loadR rfl (At.own 0 rfl) tf_row_26) rfl rfl rfl ?_
            refine WL.make (MV.buildSlice (cs := wl (if t38_17' = 0 then ((l_35'.getD (t27_5').toNat default) &&& (sets.getD (t21_1').toNat default), (l_35'.getD (t27_5').toNat default) &&& ~~~ (sets.getD (t21_1').toNat default)).1 else ((l_35'.getD (t27_5').toNat default) &&& (sets.getD (t21_1').toNat default), (l_35'.getD (t27_5').toNat default) &&& ~~~ (sets.getD (t21_1').toNat default)).2)) rfl tf_sl_46 (by first | rfl | kernel_rfl)) rfl rfl rfl (fun b_120' => ?_)
            obtain ⟨o_144', h⟩ := h
            refine WL.append (f := wl) (ms := [(if t38_17' = 0 then ((l_35'.getD (t27_5').toNat default) &&& (sets.getD (t21_1').toNat default), (l_35'.getD (t27_5').toNat default) &&& ~~~ (sets.getD (t21_1').toNat default)).1 else ((l_35'.getD (t27_5').toNat default) &&& (sets.getD (t21_1').toNat default), (l_35'.getD (t27_5').toNat default) &&& ~~~ (sets.getD (t21_1').toNat default)).2)]) 2 0 rfl rfl rfl rfl rfl rfl wl_len (by decide) (wl_one (if t38_17' = 0 then ((l_35'.getD (t27_5').toNat default) &&& (sets.getD (t21_1').toNat default), (l_35'.getD (t27_5').toNat default) &&& ~~~ (sets.getD (t21_1').toNat default)).1 else ((l_35'.getD (t27_5').toNat default) &&& (sets.getD (t21_1').toNat default), (l_35'.getD (t27_5').toNat default) &&& ~~~ (sets.getD (t21_1').toNat default)).2)) tf_sl_46 tf_info_26 rfl o_144' rfl rfl (fun w_107' => ?_)
            refine WL.val (OV.assign rfl) rfl rfl rfl ?_
            refine WL.nil ?_
            exact KX.goH (hK_269' (w_107', l_51' ++ [(if t38_17' = 0 then ((l_35'.getD (t27_5').toNat default) &&& (sets.getD (t21_1').toNat default), (l_35'.getD (t27_5').toNat default) &&& ~~~ (sets.getD (t21_1').toNat default)).1 else ((l_35'.getD (t27_5').toNat default) &&& (sets.getD (t21_1').toNat default), (l_35'.getD (t27_5').toNat default) &&& ~~~ (sets.getD (t21_1').toNat default)).2)]) h) ⟨rfl, rfl, rfl, rfl, rfl, rfl, rfl, rfl, rfl, rfl, trivial⟩ [2, 3, 4] rfl rfl
          · replace h := if_F h hb
            refine wc_skip ?_
            exact KX.goH (hK_269' (w_104', l_51') h) ⟨rfl, rfl, rfl, rfl, rfl, rfl, rfl, rfl, rfl, rfl, trivial⟩ [1, 2, 3] rfl rfl
      · replace h := if_F h hb
        refine wc_exit ?_
        refine KX.go (hK_247' [(5, Value.pointer (some ⟨b_81', 0, none⟩)), (6, w_104'), (19, w), (20, Value.int .i64 (sets.length : Int)), (21, Value.int .i64 t21_1'), (25, w_72'), (26, Value.int .i64 (l_35'.length : Int)), (27, Value.int .i64 t27_5')] _ ?_) ⟨rfl, rfl, rfl, rfl, rfl, rfl, rfl, rfl, trivial⟩
        refine wc_region ?_
        obtain ⟨o_145', h⟩ := h
        refine WL.val (OV.add rfl rfl o_145') rfl rfl rfl ?_
        refine WL.val (OV.move rfl) rfl rfl rfl ?_
        refine WL.nil ?_
        exact KX.goH (hK_244' (t27_5' + 1, w_104', l_51') h.1 h.2) ⟨rfl, rfl, rfl, rfl, rfl, rfl, rfl, rfl, trivial⟩ [0, 1, 2] rfl rfl
    · replace h := if_F h hb
      refine wc_exit ?_
      refine KX.go (hK_188' [(6, w_96'), (19, w), (20, Value.int .i64 (sets.length : Int)), (21, Value.int .i64 t21_1')] _ ?_) ⟨rfl, rfl, rfl, rfl, trivial⟩
      refine wc_region ?_
      refine WL.val (OV.move rfl) rfl rfl rfl ?_
      refine WL.val (OV.assign rfl) rfl rfl rfl ?_
      refine WL.nil ?_
      refine KX.go (hK_185' [(3, w_96'), (19, w), (20, Value.int .i64 (sets.length : Int)), (21, Value.int .i64 t21_1')] _ ?_) ⟨rfl, rfl, rfl, rfl, trivial⟩
      refine wc_region ?_
      obtain ⟨o_146', h⟩ := h
      refine WL.val (OV.add rfl rfl o_146') rfl rfl rfl ?_
      refine WL.val (OV.move rfl) rfl rfl rfl ?_
      refine WL.nil ?_
      exact KX.goH (hK_182' (t21_1' + 1, w_96', l_47') h.1 h.2) ⟨rfl, rfl, rfl, rfl, trivial⟩ [0] rfl rfl
  · replace h := if_F h hb
    refine wc_exit ?_
    refine KX.go (hK_2' [(3, w_72')] _ ?_) ⟨rfl, trivial⟩
    refine wc_seq (fun K0_272' hK_272' => ?_)
    refine wc_region ?_
    refine WL.val (OV.move rfl) rfl rfl rfl ?_
    refine WL.val (OV.lenRow 0 rfl rfl tf_sl_46) rfl rfl rfl ?_
    obtain ⟨o_147', h⟩ := h
    refine WL.makeCap rfl rfl tf_sl_46 tf_info_26 o_147' rfl rfl wl (fun w_108' => ?_)
    refine WL.val (OV.assign rfl) rfl rfl rfl ?_
    refine WL.nil ?_
    refine KX.go (hK_272' [(3, w_72'), (11, w_108')] _ ?_) ⟨rfl, rfl, trivial⟩
    refine wc_seq (fun K0_273' hK_273' => ?_)
    refine wc_seq (fun K0_274' hK_274' => ?_)
    refine wc_region ?_
    refine WL.val (OV.move rfl) rfl rfl rfl ?_
    refine WL.nil ?_
    refine KX.go (hK_274' [(3, w_72'), (11, w_108'), (55, Value.int .i64 0)] _ ?_) ⟨rfl, rfl, rfl, trivial⟩
    refine wc_block ?_
    obtain ⟨Inv_15', mu_15', h0_15', hr_15'⟩ := h
    refine wc_loop (S := Int × Value × (List CS)) (fun σ => Inv_15' σ.1 σ.2.2) (fun σ => mu_15' σ.1 σ.2.2) (fun σ => [(3, w_72'), (11, σ.2.1), (55, Value.int .i64 σ.1)]) (fun σ => [HA.row σ.2.1 26 4 σ.2.2.length (σ.2.2.flatMap wl), HA.row w_72' 26 4 l_35'.length (l_35'.flatMap wl)]) (0, w_108', []) h0_15' ⟨rfl, rfl, rfl, trivial⟩ rfl ?_
    rintro ⟨t55_1', w_132', l_64'⟩ hi K0_341' hK_341'
    have h := hr_15' t55_1' l_64' hi
    show WC _ _ _ _ [(3, w_72'), (11, w_132'), (55, Value.int .i64 t55_1')] [HA.row w_132' 26 4 l_64'.length (l_64'.flatMap wl), HA.row w_72' 26 4 l_35'.length (l_35'.flatMap wl)]
    refine wc_seq (fun K0_342' hK_342' => ?_)
    refine wc_region ?_
    refine WL.val (OV.lss rfl rfl) rfl rfl rfl ?_
    refine WL.nil ?_
    refine KX.go (hK_342' [(3, w_72'), (11, w_132'), (55, Value.int .i64 t55_1'), (56, Value.bool (decide (t55_1' < 256)))] _ ?_) ⟨rfl, rfl, rfl, rfl, trivial⟩
    refine wc_seq (fun K0_343' hK_343' => ?_)
    refine wc_cond (b := decide (t55_1' < 256)) rfl (fun hb => ?_) (fun hb => ?_)
    · replace h := if_T h hb
      refine wc_skip ?_
      refine KX.go (hK_343' [(3, w_72'), (11, w_132'), (55, Value.int .i64 t55_1')] _ ?_) ⟨rfl, rfl, rfl, trivial⟩
      refine wc_seq (fun K0_344' hK_344' => ?_)
      refine wc_block ?_
      refine wc_seq (fun K0_345' hK_345' => ?_)
      refine wc_region ?_
      refine WL.val (OV.move rfl) rfl rfl rfl ?_
      refine WL.val (OV.assign rfl) rfl rfl rfl ?_
      refine WL.nil ?_
      refine KX.go (hK_345' [(3, w_72'), (11, w_132'), (12, Value.int .i64 t55_1'), (55, Value.int .i64 t55_1')] _ ?_) ⟨rfl, rfl, rfl, rfl, trivial⟩
      refine wc_seq (fun K0_346' hK_346' => ?_)
      refine wc_region ?_
      refine WL.val (OV.move rfl) rfl rfl rfl ?_
      refine WL.val (OV.lenRow 1 rfl rfl tf_sl_46) rfl rfl rfl ?_
      refine WL.val (OV.move rfl) rfl rfl rfl ?_
      refine WL.nil ?_
      refine KX.go (hK_346' [(3, w_72'), (11, w_132'), (12, Value.int .i64 t55_1'), (55, Value.int .i64 t55_1'), (58, w_72'), (59, Value.int .i64 (l_35'.length : Int)), (60, Value.int .i64 0)] _ ?_) ⟨rfl, rfl, rfl, rfl, rfl, rfl, rfl, trivial⟩
      refine wc_block ?_
      obtain ⟨Inv_16', mu_16', h0_16', hr_16'⟩ := h
      refine wc_loop (S := Int × Value × (List CS)) (fun σ => Inv_16' σ.1 σ.2.2) (fun σ => mu_16' σ.1 σ.2.2) (fun σ => [(3, w_72'), (11, σ.2.1), (12, Value.int .i64 t55_1'), (55, Value.int .i64 t55_1'), (58, w_72'), (59, Value.int .i64 (l_35'.length : Int)), (60, Value.int .i64 σ.1)]) (fun σ => [HA.row σ.2.1 26 4 σ.2.2.length (σ.2.2.flatMap wl), HA.row w_72' 26 4 l_35'.length (l_35'.flatMap wl)]) (0, w_132', l_64') h0_16' ⟨rfl, rfl, rfl, rfl, rfl, rfl, rfl, trivial⟩ rfl ?_
      rintro ⟨t60_5', w_140', l_68'⟩ hi K0_365' hK_365'
      have h := hr_16' t60_5' l_68' hi
      show WC _ _ _ _ [(3, w_72'), (11, w_140'), (12, Value.int .i64 t55_1'), (55, Value.int .i64 t55_1'), (58, w_72'), (59, Value.int .i64 (l_35'.length : Int)), (60, Value.int .i64 t60_5')] [HA.row w_140' 26 4 l_68'.length (l_68'.flatMap wl), HA.row w_72' 26 4 l_35'.length (l_35'.flatMap wl)]
      refine wc_seq (fun K0_366' hK_366' => ?_)
      refine wc_region ?_
      refine WL.val (OV.lss rfl rfl) rfl rfl rfl ?_
      refine WL.nil ?_
      refine KX.go (hK_366' [(3, w_72'), (11, w_140'), (12, Value.int .i64 t55_1'), (55, Value.int .i64 t55_1'), (58, w_72'), (59, Value.int .i64 (l_35'.length : Int)), (60, Value.int .i64 t60_5'), (61, Value.bool (decide (t60_5' < (l_35'.length : Int))))] _ ?_) ⟨rfl, rfl, rfl, rfl, rfl, rfl, rfl, rfl, trivial⟩
      refine wc_seq (fun K0_367' hK_367' => ?_)
      refine wc_cond (b := decide (t60_5' < (l_35'.length : Int))) rfl (fun hb => ?_) (fun hb => ?_)
      · replace h := if_T h hb
        refine wc_skip ?_
        refine KX.go (hK_367' [(3, w_72'), (11, w_140'), (12, Value.int .i64 t55_1'), (55, Value.int .i64 t55_1'), (58, w_72'), (59, Value.int .i64 (l_35'.length : Int)), (60, Value.int .i64 t60_5')] _ ?_) ⟨rfl, rfl, rfl, rfl, rfl, rfl, rfl, trivial⟩
        obtain ⟨J0_35', hJ_35', h⟩ := h
        refine wc_seqJ (X := Value × (List CS)) (fun σ => J0_35' σ.2) (fun σ => [(3, w_72'), (11, σ.1), (12, Value.int .i64 t55_1'), (55, Value.int .i64 t55_1'), (58, w_72'), (59, Value.int .i64 (l_35'.length : Int)), (60, Value.int .i64 t60_5')]) (fun σ => [HA.row σ.1 26 4 σ.2.length (σ.2.flatMap wl), HA.row w_72' 26 4 l_35'.length (l_35'.flatMap wl)]) ?_ (fun K0_371' hK_371' => ?_)
        · rintro ⟨w_142', l_69'⟩ hj
          replace h := hJ_35' l_69' hj
          show WC _ _ _ _ [(3, w_72'), (11, w_142'), (12, Value.int .i64 t55_1'), (55, Value.int .i64 t55_1'), (58, w_72'), (59, Value.int .i64 (l_35'.length : Int)), (60, Value.int .i64 t60_5')] [HA.row w_142' 26 4 l_69'.length (l_69'.flatMap wl), HA.row w_72' 26 4 l_35'.length (l_35'.flatMap wl)]
          refine wc_region ?_
          obtain ⟨o_205', h⟩ := h
          refine WL.val (OV.add rfl rfl o_205') rfl rfl rfl ?_
          refine WL.val (OV.move rfl) rfl rfl rfl ?_
          refine WL.nil ?_
          exact KX.goH (hK_365' (t60_5' + 1, w_142', l_69') h.1 h.2) ⟨rfl, rfl, rfl, rfl, rfl, rfl, rfl, trivial⟩ [0, 1] rfl rfl
        · skip
          refine wc_block ?_
          refine wc_seq (fun K0_372' hK_372' => ?_)
          refine wc_region ?_
          obtain ⟨o_206', h⟩ := h
          refine WL.val (OV.indexRow 1 rfl rfl rfl tf_sl_46 o_206') rfl rfl rfl ?_
          refine WL.val (OV.loadE (f := wl) 1 rfl rfl wl_len (by decide) (by omega) tf_row_26) rfl rfl rfl ?_
          refine WL.make (MV.alloc tf_zero_26) rfl rfl rfl (fun b_155' => ?_)
          refine WL.storeW (vs := wl (l_35'.getD (t60_5').toNat default)) 0 rfl rfl rfl rfl rfl tf_size_26 rfl rfl rfl ?_
          refine WL.nil ?_
          refine KX.go (hK_372' [(3, w_72'), (11, w_140'), (12, Value.int .i64 t55_1'), (14, Value.pointer (some ⟨b_155', 0, none⟩)), (55, Value.int .i64 t55_1'), (58, w_72'), (59, Value.int .i64 (l_35'.length : Int)), (60, Value.int .i64 t60_5')] _ ?_) ⟨rfl, rfl, rfl, rfl, rfl, rfl, rfl, rfl, trivial⟩
          refine wc_seq (fun K0_373' hK_373' => ?_)
          refine wc_region ?_
          refine WL.val (OV.loadR rfl (At.own 0 rfl) tf_row_26) rfl rfl rfl ?_
          refine WL.call (A := []) tf_ent_9 rfl (next0_does (l_35'.getD (t60_5').toNat default)) rfl trivial rfl rfl ?_
          refine WL.val (OV.move rfl) rfl rfl rfl ?_
          refine WL.val (OV.extract 0 rfl rfl) rfl rfl rfl ?_
          refine WL.val (OV.extract 1 rfl rfl) rfl rfl rfl ?_
          refine WL.val (OV.assign rfl) rfl rfl rfl ?_
          refine WL.val (OV.assign rfl) rfl rfl rfl ?_
          refine WL.nil ?_
          refine KX.go (hK_373' [(3, w_72'), (11, w_140'), (12, Value.int .i64 t55_1'), (14, Value.pointer (some ⟨b_155', 0, none⟩)), (15, Value.int .u8 ((least (l_35'.getD (t60_5').toNat default)).1 : Int)), (55, Value.int .i64 t55_1'), (58, w_72'), (59, Value.int .i64 (l_35'.length : Int)), (60, Value.int .i64 t60_5')] _ ?_) ⟨rfl, rfl, rfl, rfl, rfl, rfl, rfl, rfl, rfl, trivial⟩
          refine wc_seq (fun K0_374' hK_374' => ?_)
          refine wc_region ?_
          refine WL.val (OV.move rfl) rfl rfl rfl ?_
          obtain ⟨o_207', h⟩ := h
          refine WL.val (OV.conv64 rfl tf_some_5 Try.underlying3 o_207') rfl rfl rfl ?_
          refine WL.val (OV.move rfl) rfl rfl rfl ?_
          refine WL.val (OV.eql rfl rfl) rfl rfl rfl ?_
          refine WL.nil ?_
          refine KX.go (hK_374' [(3, w_72'), (11, w_140'), (12, Value.int .i64 t55_1'), (14, Value.pointer (some ⟨b_155', 0, none⟩)), (55, Value.int .i64 t55_1'), (58, w_72'), (59, Value.int .i64 (l_35'.length : Int)), (60, Value.int .i64 t60_5'), (72, Value.bool (decide (((least (l_35'.getD (t60_5').toNat default)).1 : Int) = t55_1')))] _ ?_) ⟨rfl, rfl, rfl, rfl, rfl, rfl, rfl, rfl, rfl, trivial⟩
          refine wc_cond (b := decide (((least (l_35'.getD (t60_5').toNat default)).1 : Int) = t55_1')) rfl (fun hb => ?_) (fun hb => ?_)
          · replace h := if_T h hb
            refine wc_region ?_
            refine WL.val (OV.move rfl) rfl rfl rfl ?_
            refine WL.val (OV.loadR rfl (At.own 0 rfl) tf_row_26) rfl rfl rfl ?_
            refine WL.make (MV.buildSlice (cs := wl (l_35'.getD (t60_5').toNat default)) rfl tf_sl_46 (by first | rfl | kernel_rfl)) rfl rfl rfl (fun b_156' => ?_)
            obtain ⟨o_208', h⟩ := h
            refine WL.append (f := wl) (ms := [(l_35'.getD (t60_5').toNat default)]) 2 0 rfl rfl rfl rfl rfl rfl wl_len (by decide) (wl_one (l_35'.getD (t60_5').toNat default)) tf_sl_46 tf_info_26 rfl o_208' rfl rfl (fun w_143' => ?_)
            refine WL.val (OV.assign rfl) rfl rfl rfl ?_
            refine WL.nil ?_
            exact KX.goH (hK_371' (w_143', l_68' ++ [(l_35'.getD (t60_5').toNat default)]) h) ⟨rfl, rfl, rfl, rfl, rfl, rfl, rfl, trivial⟩ [2, 3] rfl rfl
          · replace h := if_F h hb
            refine wc_skip ?_
            exact KX.goH (hK_371' (w_140', l_68') h) ⟨rfl, rfl, rfl, rfl, rfl, rfl, rfl, trivial⟩ [1, 2] rfl rfl
      · replace h := if_F h hb
        refine wc_exit ?_
        refine KX.go (hK_344' [(3, w_72'), (11, w_140'), (55, Value.int .i64 t55_1')] _ ?_) ⟨rfl, rfl, rfl, trivial⟩
        refine wc_region ?_
        obtain ⟨o_209', h⟩ := h
        refine WL.val (OV.add rfl rfl o_209') rfl rfl rfl ?_
        refine WL.val (OV.move rfl) rfl rfl rfl ?_
        refine WL.nil ?_
        exact KX.goH (hK_341' (t55_1' + 1, w_140', l_68') h.1 h.2) ⟨rfl, rfl, rfl, trivial⟩ [0, 1] rfl rfl
    · replace h := if_F h hb
      refine wc_exit ?_
      refine KX.go (hK_273' [(11, w_132')] _ ?_) ⟨rfl, trivial⟩
      refine wc_seq (fun K0_375' hK_375' => ?_)
      refine wc_region ?_
      refine WL.val (OV.move rfl) rfl rfl rfl ?_
      refine WL.val (OV.assign rfl) rfl rfl rfl ?_
      refine WL.nil ?_
      refine KX.go (hK_375' [(2, w_132')] _ ?_) ⟨rfl, trivial⟩
      refine wc_ret ?_
      exact hE.ret [0] rfl rfl (.inl ⟨_, _, h, rfl⟩) (ResV.of1 rfl (RV.tmp rfl))

def ratoms_vc (sets : List CS) (K : (List CS) → Prop) : Prop :=
  ∃ (Inv_14' : Int → (List Int) → (List CS) → Prop) (mu_14' : Int → (List Int) → (List CS) → Nat),
    Inv_14' 0 [] [] ∧ ∀ (b_9' : Int) (l_6' : List Int) (l_7' : List CS), Inv_14' b_9' l_6' l_7' →
      (if (decide (b_9' < 256)) = true then
        ∃ (Inv_19' : Int → Int → Prop) (mu_19' : Int → Int → Nat),
          Inv_19' (-1) 0 ∧ ∀ (found_15' : Int) (k_5' : Int), Inv_19' found_15' k_5' →
            (if ((decide (k_5' < (l_6'.length : Int))) && (decide (found_15' < 0))) = true then
              ∃ (J0_10' : Int → Prop),
                (∀ (found_16' : Int), J0_10' found_16' →
                  (I64 (k_5' + 1)) ∧
                  Inv_19' found_16' (k_5' + 1) ∧ mu_19' found_16' (k_5' + 1) < mu_19' found_15' k_5') ∧
                ∃ (Inv_21' : Bool → Int → Prop) (mu_21' : Bool → Int → Nat),
                  Inv_21' true 0 ∧ ∀ (alike_35' : Bool) (j_35' : Int), Inv_21' alike_35' j_35' →
                    (if ((decide (j_35' < (sets.length : Int))) && alike_35') = true then
                      (0 ≤ j_35' ∧ j_35' < (sets.length : Int)) ∧
                      (0 ≤ b_9' ∧ b_9' < 256) ∧
                      (0 ≤ k_5' ∧ k_5' < (l_6'.length : Int)) ∧
                      (0 ≤ j_35' ∧ j_35' < (sets.length : Int)) ∧
                      (0 ≤ (l_6'.getD (k_5').toNat default) ∧ (l_6'.getD (k_5').toNat default) < 256) ∧
                      (I64 (j_35' + 1)) ∧
                      Inv_21' (((BitVec.getLsbD (sets.getD (j_35').toNat default)) ((b_9').toNat)) == ((BitVec.getLsbD (sets.getD (j_35').toNat default)) (((l_6'.getD (k_5').toNat default)).toNat))) (j_35' + 1) ∧ mu_21' (((BitVec.getLsbD (sets.getD (j_35').toNat default)) ((b_9').toNat)) == ((BitVec.getLsbD (sets.getD (j_35').toNat default)) (((l_6'.getD (k_5').toNat default)).toNat))) (j_35' + 1) < mu_21' alike_35' j_35'
                    else
                      (if alike_35' = true then
                        J0_10' k_5'
                      else
                        J0_10' found_15'))
            else
              ∃ (J0_11' : Int → (List Int) → (List CS) → Prop),
                (∀ (found_17' : Int) (l_8' : List Int) (l_9' : List CS), J0_11' found_17' l_8' l_9' →
                  (0 ≤ found_17' ∧ found_17' < (l_9'.length : Int)) ∧
                  (0 ≤ b_9' ∧ b_9' < 256) ∧
                  (I64 (b_9' + 1)) ∧
                  Inv_14' (b_9' + 1) l_8' (l_9'.set ((found_17').toNat) (setB (l_9'.getD (found_17').toNat default) ((b_9').toNat))) ∧ mu_14' (b_9' + 1) l_8' (l_9'.set ((found_17').toNat) (setB (l_9'.getD (found_17').toNat default) ((b_9').toNat))) < mu_14' b_9' l_6' l_7') ∧
                (if (decide (found_15' < 0)) = true then
                  (((l_7'.length + 1) + (l_7'.length + 1) / 4 + 192) * 256 ≤ 281474976710656 ∧ l_7'.length + 1 ≤ 9223372036854775807) ∧
                  (((l_6'.length + 1) + (l_6'.length + 1) / 4 + 192) * 8 ≤ 281474976710656 ∧ l_6'.length + 1 ≤ 9223372036854775807) ∧
                  J0_11' (l_7'.length : Int) (l_6' ++ [b_9']) (l_7' ++ [cs0])
                else
                  J0_11' found_15' l_6' l_7'))
      else
        K l_7')
set_option maxRecDepth 100000 in
theorem ratoms_wp (w : Value) (sets : List CS) (Ri1 : List (Nat × Obj)) (hRi1 : InSl w Ri1 sets.length (sets.flatMap rfC)) (K : (List CS) → Prop) (h : ratoms_vc sets K) :
    Does Try.prog 21 [w] (Ri1 ++ []) [] (fun o => (∃ (w_23' : Value) (v : List CS), K v ∧ o = .ret (w_23') [HA.row w_23' 28 256 v.length (v.flatMap rfC)]) ∨ (False)) := by
  unfold ratoms_vc at h
  refine does_of_wc (n := 69) (L0 := [(0, w)]) Try.func21 rfl rfl rfl rfl (fun w0 M Q hE => ?_)
  have hi1 : LIn ⟨69, [], w0, M, (Ri1 ++ [])⟩ w sets.length (sets.flatMap rfC) := LIn.mk hRi1 (fun p hp => by simp [hp])
  refine wc_seq (fun K0 hK => ?_)
  refine wc_region ?_
  refine WL.val (OV.assign rfl) rfl rfl rfl ?_
  refine WL.nilRow 28 256 rfC ?_
  refine WL.nil ?_
  refine KX.go (hK [(0, w)] _ ?_) ⟨rfl, trivial⟩
  refine wc_seq (fun K0_1' hK_1' => ?_)
  refine wc_region ?_
  refine WL.val (OV.assign rfl) rfl rfl rfl ?_
  refine WL.nilRow 28 256 rfC ?_
  refine WL.nil ?_
  refine KX.go (hK_1' [(0, w), (3, Value.slice none 0 0)] _ ?_) ⟨rfl, rfl, trivial⟩
  refine wc_seq (fun K0_2' hK_2' => ?_)
  refine wc_region ?_
  refine WL.val (OV.assign rfl) rfl rfl rfl ?_
  refine WL.nilRow 3 1 intC ?_
  refine WL.nil ?_
  refine KX.go (hK_2' [(0, w), (3, Value.slice none 0 0), (4, Value.slice none 0 0)] _ ?_) ⟨rfl, rfl, rfl, trivial⟩
  refine wc_seq (fun K0_3' hK_3' => ?_)
  refine wc_seq (fun K0_4' hK_4' => ?_)
  refine wc_region ?_
  refine WL.val (OV.assign rfl) rfl rfl rfl ?_
  refine WL.nil ?_
  refine KX.go (hK_4' [(0, w), (3, Value.slice none 0 0), (4, Value.slice none 0 0), (5, Value.int .i64 0)] _ ?_) ⟨rfl, rfl, rfl, rfl, trivial⟩
  refine wc_block ?_
  refine WC.pick (H' := [HA.row (Value.slice none 0 0) 3 1 ([] : List Int).length (([] : List Int).flatMap intC), HA.row (Value.slice none 0 0) 28 256 ([] : List CS).length (([] : List CS).flatMap rfC)]) [0, 1] rfl rfl ?_
  obtain ⟨Inv_14', mu_14', h0_14', hr_14'⟩ := h
  refine wc_loop (S := Int × Value × (List Int) × Value × (List CS)) (fun σ => Inv_14' σ.1 σ.2.2.1 σ.2.2.2.2) (fun σ => mu_14' σ.1 σ.2.2.1 σ.2.2.2.2) (fun σ => [(0, w), (3, σ.2.2.2.1), (4, σ.2.1), (5, Value.int .i64 σ.1)]) (fun σ => [HA.row σ.2.1 3 1 σ.2.2.1.length (σ.2.2.1.flatMap intC), HA.row σ.2.2.2.1 28 256 σ.2.2.2.2.length (σ.2.2.2.2.flatMap rfC)]) (0, Value.slice none 0 0, [], Value.slice none 0 0, []) h0_14' ⟨rfl, rfl, rfl, rfl, trivial⟩ rfl ?_
  rintro ⟨b_9', w_15', l_6', w_16', l_7'⟩ hi K0_261' hK_261'
  have h := hr_14' b_9' l_6' l_7' hi
  show WC _ _ _ _ [(0, w), (3, w_16'), (4, w_15'), (5, Value.int .i64 b_9')] [HA.row w_15' 3 1 l_6'.length (l_6'.flatMap intC), HA.row w_16' 28 256 l_7'.length (l_7'.flatMap rfC)]
  refine wc_seq (fun K0_262' hK_262' => ?_)
  refine wc_seq (fun K0_263' hK_263' => ?_)
  refine wc_region ?_
  refine WL.val (OV.move rfl) rfl rfl rfl ?_
  refine WL.val (OV.lss rfl rfl) rfl rfl rfl ?_
  refine WL.nil ?_
  refine KX.go (hK_263' [(0, w), (3, w_16'), (4, w_15'), (5, Value.int .i64 b_9'), (11, Value.bool (decide (b_9' < 256)))] _ ?_) ⟨rfl, rfl, rfl, rfl, rfl, trivial⟩
  refine wc_cond (b := decide (b_9' < 256)) rfl (fun hb => ?_) (fun hb => ?_)
  · replace h := if_T h hb
    refine wc_skip ?_
    refine KX.go (hK_262' [(0, w), (3, w_16'), (4, w_15'), (5, Value.int .i64 b_9')] _ ?_) ⟨rfl, rfl, rfl, rfl, trivial⟩
    refine wc_seq (fun K0_264' hK_264' => ?_)
    refine wc_block ?_
    refine wc_seq (fun K0_265' hK_265' => ?_)
    refine wc_region ?_
    refine WL.val (OV.assign rfl) rfl rfl rfl ?_
    refine WL.nil ?_
    refine KX.go (hK_265' [(0, w), (3, w_16'), (4, w_15'), (5, Value.int .i64 b_9'), (6, Value.int .i64 (-1))] _ ?_) ⟨rfl, rfl, rfl, rfl, rfl, trivial⟩
    refine wc_seq (fun K0_266' hK_266' => ?_)
    refine wc_seq (fun K0_267' hK_267' => ?_)
    refine wc_region ?_
    refine WL.val (OV.assign rfl) rfl rfl rfl ?_
    refine WL.nil ?_
    refine KX.go (hK_267' [(0, w), (3, w_16'), (4, w_15'), (5, Value.int .i64 b_9'), (6, Value.int .i64 (-1)), (7, Value.int .i64 0)] _ ?_) ⟨rfl, rfl, rfl, rfl, rfl, rfl, trivial⟩
    refine wc_block ?_
    obtain ⟨Inv_19', mu_19', h0_19', hr_19'⟩ := h
    refine wc_loop (S := Int × Int) (fun σ => Inv_19' σ.1 σ.2) (fun σ => mu_19' σ.1 σ.2) (fun σ => [(0, w), (3, w_16'), (4, w_15'), (5, Value.int .i64 b_9'), (6, Value.int .i64 σ.1), (7, Value.int .i64 σ.2)]) (fun σ => [HA.row w_15' 3 1 l_6'.length (l_6'.flatMap intC), HA.row w_16' 28 256 l_7'.length (l_7'.flatMap rfC)]) ((-1), 0) h0_19' ⟨rfl, rfl, rfl, rfl, rfl, rfl, trivial⟩ rfl ?_
    rintro ⟨found_15', k_5'⟩ hi K0_344' hK_344'
    have h := hr_19' found_15' k_5' hi
    show WC _ _ _ _ [(0, w), (3, w_16'), (4, w_15'), (5, Value.int .i64 b_9'), (6, Value.int .i64 found_15'), (7, Value.int .i64 k_5')] [HA.row w_15' 3 1 l_6'.length (l_6'.flatMap intC), HA.row w_16' 28 256 l_7'.length (l_7'.flatMap rfC)]
    refine wc_seq (fun K0_345' hK_345' => ?_)
    refine wc_seq (fun K0_346' hK_346' => ?_)
    refine wc_region ?_
    refine WL.val (OV.move rfl) rfl rfl rfl ?_
    refine WL.val (OV.move rfl) rfl rfl rfl ?_
    refine WL.val (OV.lenRow 0 rfl rfl tf_sl_55) rfl rfl rfl ?_
    refine WL.val (OV.lss rfl rfl) rfl rfl rfl ?_
    refine WL.val (OV.move rfl) rfl rfl rfl ?_
    refine WL.cut 3 [(0, w), (3, w_16'), (4, w_15'), (5, Value.int .i64 b_9'), (6, Value.int .i64 found_15'), (7, Value.int .i64 k_5'), (21, Value.bool ((decide (k_5' < (l_6'.length : Int))) && (decide (found_15' < 0))))] ?_ (fun K0_347' hK_347' => ?_)
    rotate_left
    · refine WL.split (decide (k_5' < (l_6'.length : Int))) (fun hb => ?_) (fun hb => ?_)
      · refine WL.set 18 rfl (congrArg Value.bool hb) ?_
        refine WL.val (OV.move rfl) rfl rfl rfl ?_
        refine WL.val (OV.lss rfl rfl) rfl rfl rfl ?_
        refine WL.val (OV.pickT rfl rfl) rfl rfl rfl ?_
        refine WL.set 21 rfl (bT (v := decide (found_15' < 0)) hb) ?_
        exact WL.end_ (KX.go hK_347' ⟨rfl, rfl, rfl, rfl, rfl, rfl, rfl, trivial⟩)
      · refine WL.set 18 rfl (congrArg Value.bool hb) ?_
        refine WL.skip rfl rfl rfl ?_
        refine WL.skip rfl rfl rfl ?_
        refine WL.val (OV.pickF rfl rfl) rfl rfl rfl ?_
        refine WL.set 21 rfl (bF (v := decide (found_15' < 0)) hb) ?_
        exact WL.end_ (KX.go hK_347' ⟨rfl, rfl, rfl, rfl, rfl, rfl, rfl, trivial⟩)
    refine WL.nil ?_
    refine KX.go (hK_346' [(0, w), (3, w_16'), (4, w_15'), (5, Value.int .i64 b_9'), (6, Value.int .i64 found_15'), (7, Value.int .i64 k_5'), (21, Value.bool ((decide (k_5' < (l_6'.length : Int))) && (decide (found_15' < 0))))] _ ?_) ⟨rfl, rfl, rfl, rfl, rfl, rfl, rfl, trivial⟩
    refine wc_cond (b := (decide (k_5' < (l_6'.length : Int))) && (decide (found_15' < 0))) rfl (fun hb => ?_) (fun hb => ?_)
    · replace h := if_T h hb
      refine wc_skip ?_
      refine KX.go (hK_345' [(0, w), (3, w_16'), (4, w_15'), (5, Value.int .i64 b_9'), (6, Value.int .i64 found_15'), (7, Value.int .i64 k_5')] _ ?_) ⟨rfl, rfl, rfl, rfl, rfl, rfl, trivial⟩
      obtain ⟨J0_10', hJ_10', h⟩ := h
      refine wc_seqJ (X := Int) (fun σ => J0_10' σ) (fun σ => [(0, w), (3, w_16'), (4, w_15'), (5, Value.int .i64 b_9'), (6, Value.int .i64 σ), (7, Value.int .i64 k_5')]) (fun σ => [HA.row w_15' 3 1 l_6'.length (l_6'.flatMap intC), HA.row w_16' 28 256 l_7'.length (l_7'.flatMap rfC)]) ?_ (fun K0_365' hK_365' => ?_)
      · rintro found_16' hj
        replace h := hJ_10' found_16' hj
        show WC _ _ _ _ [(0, w), (3, w_16'), (4, w_15'), (5, Value.int .i64 b_9'), (6, Value.int .i64 found_16'), (7, Value.int .i64 k_5')] [HA.row w_15' 3 1 l_6'.length (l_6'.flatMap intC), HA.row w_16' 28 256 l_7'.length (l_7'.flatMap rfC)]
        refine wc_region ?_
        refine WL.val (OV.move rfl) rfl rfl rfl ?_
        obtain ⟨o_367', h⟩ := h
        refine WL.val (OV.add rfl rfl o_367') rfl rfl rfl ?_
        refine WL.val (OV.assign rfl) rfl rfl rfl ?_
        refine WL.nil ?_
        exact KX.goH (hK_344' (found_16', k_5' + 1) h.1 h.2) ⟨rfl, rfl, rfl, rfl, rfl, rfl, trivial⟩ [0, 1] rfl rfl
      · skip
        refine wc_block ?_
        refine wc_seq (fun K0_366' hK_366' => ?_)
        refine wc_region ?_
        refine WL.val (OV.assign rfl) rfl rfl rfl ?_
        refine WL.nil ?_
        refine KX.go (hK_366' [(0, w), (3, w_16'), (4, w_15'), (5, Value.int .i64 b_9'), (6, Value.int .i64 found_15'), (7, Value.int .i64 k_5'), (8, Value.bool true)] _ ?_) ⟨rfl, rfl, rfl, rfl, rfl, rfl, rfl, trivial⟩
        refine wc_seq (fun K0_367' hK_367' => ?_)
        refine wc_seq (fun K0_368' hK_368' => ?_)
        refine wc_region ?_
        refine WL.val (OV.assign rfl) rfl rfl rfl ?_
        refine WL.nil ?_
        refine KX.go (hK_368' [(0, w), (3, w_16'), (4, w_15'), (5, Value.int .i64 b_9'), (6, Value.int .i64 found_15'), (7, Value.int .i64 k_5'), (8, Value.bool true), (9, Value.int .i64 0)] _ ?_) ⟨rfl, rfl, rfl, rfl, rfl, rfl, rfl, rfl, trivial⟩
        refine wc_block ?_
        obtain ⟨Inv_21', mu_21', h0_21', hr_21'⟩ := h
        refine wc_loop (S := Bool × Int) (fun σ => Inv_21' σ.1 σ.2) (fun σ => mu_21' σ.1 σ.2) (fun σ => [(0, w), (3, w_16'), (4, w_15'), (5, Value.int .i64 b_9'), (6, Value.int .i64 found_15'), (7, Value.int .i64 k_5'), (8, Value.bool σ.1), (9, Value.int .i64 σ.2)]) (fun σ => [HA.row w_15' 3 1 l_6'.length (l_6'.flatMap intC), HA.row w_16' 28 256 l_7'.length (l_7'.flatMap rfC)]) (true, 0) h0_21' ⟨rfl, rfl, rfl, rfl, rfl, rfl, rfl, rfl, trivial⟩ rfl ?_
        rintro ⟨alike_35', j_35'⟩ hi K0_377' hK_377'
        have h := hr_21' alike_35' j_35' hi
        show WC _ _ _ _ [(0, w), (3, w_16'), (4, w_15'), (5, Value.int .i64 b_9'), (6, Value.int .i64 found_15'), (7, Value.int .i64 k_5'), (8, Value.bool alike_35'), (9, Value.int .i64 j_35')] [HA.row w_15' 3 1 l_6'.length (l_6'.flatMap intC), HA.row w_16' 28 256 l_7'.length (l_7'.flatMap rfC)]
        refine wc_seq (fun K0_378' hK_378' => ?_)
        refine wc_seq (fun K0_379' hK_379' => ?_)
        refine wc_region ?_
        refine WL.val (OV.move rfl) rfl rfl rfl ?_
        refine WL.val (OV.move rfl) rfl rfl rfl ?_
        refine WL.val (OV.lenIn hi1 rfl tf_sl_42) rfl rfl rfl ?_
        refine WL.val (OV.lss rfl rfl) rfl rfl rfl ?_
        refine WL.val (OV.move rfl) rfl rfl rfl ?_
        refine WL.cut 2 [(0, w), (3, w_16'), (4, w_15'), (5, Value.int .i64 b_9'), (6, Value.int .i64 found_15'), (7, Value.int .i64 k_5'), (8, Value.bool alike_35'), (9, Value.int .i64 j_35'), (30, Value.bool ((decide (j_35' < (sets.length : Int))) && alike_35'))] ?_ (fun K0_380' hK_380' => ?_)
        rotate_left
        · refine WL.split (decide (j_35' < (sets.length : Int))) (fun hb => ?_) (fun hb => ?_)
          · refine WL.set 28 rfl (congrArg Value.bool hb) ?_
            refine WL.val (OV.move rfl) rfl rfl rfl ?_
            refine WL.val (OV.pickT rfl rfl) rfl rfl rfl ?_
            refine WL.set 30 rfl (bT (v := alike_35') hb) ?_
            exact WL.end_ (KX.go hK_380' ⟨rfl, rfl, rfl, rfl, rfl, rfl, rfl, rfl, rfl, trivial⟩)
          · refine WL.set 28 rfl (congrArg Value.bool hb) ?_
            refine WL.skip rfl rfl rfl ?_
            refine WL.val (OV.pickF rfl rfl) rfl rfl rfl ?_
            refine WL.set 30 rfl (bF (v := alike_35') hb) ?_
            exact WL.end_ (KX.go hK_380' ⟨rfl, rfl, rfl, rfl, rfl, rfl, rfl, rfl, rfl, trivial⟩)
        refine WL.nil ?_
        refine KX.go (hK_379' [(0, w), (3, w_16'), (4, w_15'), (5, Value.int .i64 b_9'), (6, Value.int .i64 found_15'), (7, Value.int .i64 k_5'), (8, Value.bool alike_35'), (9, Value.int .i64 j_35'), (30, Value.bool ((decide (j_35' < (sets.length : Int))) && alike_35'))] _ ?_) ⟨rfl, rfl, rfl, rfl, rfl, rfl, rfl, rfl, rfl, trivial⟩
        refine wc_cond (b := (decide (j_35' < (sets.length : Int))) && alike_35') rfl (fun hb => ?_) (fun hb => ?_)
        · replace h := if_T h hb
          refine wc_skip ?_
          refine KX.go (hK_378' [(0, w), (3, w_16'), (4, w_15'), (5, Value.int .i64 b_9'), (6, Value.int .i64 found_15'), (7, Value.int .i64 k_5'), (9, Value.int .i64 j_35')] _ ?_) ⟨rfl, rfl, rfl, rfl, rfl, rfl, rfl, trivial⟩
          refine wc_seq (fun K0_381' hK_381' => ?_)
          refine wc_block ?_
          refine wc_draw 15 [] tf_mixed (by kernel_rfl) rfl (fun T_53' hT_53' => ?_)
          refine FL.val (fun _ => OV.move rfl) rfl (fun _ => rfl) rfl rfl ?_
          refine FL.val (fun _ => OV.move rfl) rfl (fun _ => rfl) rfl rfl ?_
          refine FL.val (fun _ => OV.move rfl) rfl (fun _ => rfl) rfl rfl ?_
          obtain ⟨o_382', h⟩ := h
          refine FL.val (fun _ => OV.indexIn hi1 rfl rfl tf_sl_42 o_382') rfl (fun _ => rfl) rfl rfl ?_
          obtain ⟨o_383', h⟩ := h
          refine FL.val (fun _ => OV.indexAddr rfl rfl tf_arr_28 o_383' (by rw [Nat.mul_one])) rfl (fun _ => rfl) rfl rfl ?_
          refine FL.val (fun _ => OV.loadInEF (f := rfC) (o := (b_9').toNat) hi1 rfl rfC_len (by omega) (arr_get (by omega)) tf_scal_4) rfl (fun _ => rfl) rfl rfl ?_
          refine FL.val (fun _ => OV.move rfl) rfl (fun _ => rfl) rfl rfl ?_
          refine FL.val (fun _ => OV.move rfl) rfl (fun _ => rfl) rfl rfl ?_
          refine FL.val (fun _ => OV.move rfl) rfl (fun _ => rfl) rfl rfl ?_
          refine FL.val (fun _ => OV.move rfl) rfl (fun _ => rfl) rfl rfl ?_
          obtain ⟨o_384', h⟩ := h
          refine FL.val (fun _ => OV.indexRow 0 rfl rfl rfl tf_sl_55 o_384') rfl (fun _ => rfl) rfl rfl ?_
          refine FL.val (fun _ => OV.loadE1 (f := intC) 0 rfl rfl intC_len (by omega) rfl tf_scal_3) rfl (fun _ => rfl) rfl rfl ?_
          obtain ⟨o_385', h⟩ := h
          refine FL.val (fun _ => OV.indexIn hi1 rfl rfl tf_sl_42 o_385') rfl (fun _ => rfl) rfl rfl ?_
          obtain ⟨o_386', h⟩ := h
          refine FL.val (fun _ => OV.indexAddr rfl rfl tf_arr_28 o_386' (by rw [Nat.mul_one])) rfl (fun _ => rfl) rfl rfl ?_
          refine FL.val (fun _ => OV.loadInEF (f := rfC) (o := ((l_6'.getD (k_5').toNat default)).toNat) hi1 rfl rfC_len (by omega) (arr_get (by omega)) tf_scal_4) rfl (fun _ => rfl) rfl rfl ?_
          refine FL.weak (L' := fun γ => [(0, w), (3, w_16'), (4, w_15'), (5, Value.int .i64 b_9'), (6, Value.int .i64 found_15'), (7, Value.int .i64 k_5'), (9, Value.int .i64 j_35'), (38, Value.bool ((BitVec.getLsbD (sets.getD (j_35').toNat default)) ((b_9').toNat))), (47, Value.bool ((BitVec.getLsbD (sets.getD (j_35').toNat default)) (((l_6'.getD (k_5').toNat default)).toNat)))]) (fun γ => ⟨rfl, rfl, rfl, rfl, rfl, rfl, rfl, rfl, rfl, trivial⟩) (FL.nil (hT_53' (fun γ => [(0, w), (3, w_16'), (4, w_15'), (5, Value.int .i64 b_9'), (6, Value.int .i64 found_15'), (7, Value.int .i64 k_5'), (9, Value.int .i64 j_35'), (38, Value.bool ((BitVec.getLsbD (sets.getD (j_35').toNat default)) ((b_9').toNat))), (47, Value.bool ((BitVec.getLsbD (sets.getD (j_35').toNat default)) (((l_6'.getD (k_5').toNat default)).toNat)))]) (fun γ => ?_)))
          refine WL.val (OV.eqlB rfl rfl Try.underlying4) rfl rfl rfl ?_
          refine WL.val (OV.assign rfl) rfl rfl rfl ?_
          refine WL.nil ?_
          refine KX.go (hK_381' [(0, w), (3, w_16'), (4, w_15'), (5, Value.int .i64 b_9'), (6, Value.int .i64 found_15'), (7, Value.int .i64 k_5'), (8, Value.bool (((BitVec.getLsbD (sets.getD (j_35').toNat default)) ((b_9').toNat)) == ((BitVec.getLsbD (sets.getD (j_35').toNat default)) (((l_6'.getD (k_5').toNat default)).toNat)))), (9, Value.int .i64 j_35')] _ ?_) ⟨rfl, rfl, rfl, rfl, rfl, rfl, rfl, rfl, trivial⟩
          refine wc_region ?_
          refine WL.val (OV.move rfl) rfl rfl rfl ?_
          obtain ⟨o_387', h⟩ := h
          refine WL.val (OV.add rfl rfl o_387') rfl rfl rfl ?_
          refine WL.val (OV.assign rfl) rfl rfl rfl ?_
          refine WL.nil ?_
          exact KX.goH (hK_377' (((BitVec.getLsbD (sets.getD (j_35').toNat default)) ((b_9').toNat)) == ((BitVec.getLsbD (sets.getD (j_35').toNat default)) (((l_6'.getD (k_5').toNat default)).toNat)), j_35' + 1) h.1 h.2) ⟨rfl, rfl, rfl, rfl, rfl, rfl, rfl, rfl, trivial⟩ [0, 1] rfl rfl
        · replace h := if_F h hb
          refine wc_exit ?_
          refine KX.go (hK_367' [(0, w), (3, w_16'), (4, w_15'), (5, Value.int .i64 b_9'), (6, Value.int .i64 found_15'), (7, Value.int .i64 k_5'), (8, Value.bool alike_35')] _ ?_) ⟨rfl, rfl, rfl, rfl, rfl, rfl, rfl, trivial⟩
          refine wc_seq (fun K0_382' hK_382' => ?_)
          refine wc_region ?_
          refine WL.val (OV.move rfl) rfl rfl rfl ?_
          refine WL.nil ?_
          refine KX.go (hK_382' [(0, w), (3, w_16'), (4, w_15'), (5, Value.int .i64 b_9'), (6, Value.int .i64 found_15'), (7, Value.int .i64 k_5'), (49, Value.bool alike_35')] _ ?_) ⟨rfl, rfl, rfl, rfl, rfl, rfl, rfl, trivial⟩
          refine wc_cond (b := alike_35') rfl (fun hb => ?_) (fun hb => ?_)
          · replace h := if_T h hb
            refine wc_region ?_
            refine WL.val (OV.move rfl) rfl rfl rfl ?_
            refine WL.val (OV.assign rfl) rfl rfl rfl ?_
            refine WL.nil ?_
            exact KX.goH (hK_365' k_5' h) ⟨rfl, rfl, rfl, rfl, rfl, rfl, trivial⟩ [0, 1] rfl rfl
          · replace h := if_F h hb
            refine wc_skip ?_
            exact KX.goH (hK_365' found_15' h) ⟨rfl, rfl, rfl, rfl, rfl, rfl, trivial⟩ [0, 1] rfl rfl
    · replace h := if_F h hb
      refine wc_exit ?_
      refine KX.go (hK_266' [(0, w), (3, w_16'), (4, w_15'), (5, Value.int .i64 b_9'), (6, Value.int .i64 found_15')] _ ?_) ⟨rfl, rfl, rfl, rfl, rfl, trivial⟩
      obtain ⟨J0_11', hJ_11', h⟩ := h
      refine wc_seqJ (X := Int × Value × (List Int) × Value × (List CS)) (fun σ => J0_11' σ.1 σ.2.2.1 σ.2.2.2.2) (fun σ => [(0, w), (3, σ.2.2.2.1), (4, σ.2.1), (5, Value.int .i64 b_9'), (6, Value.int .i64 σ.1)]) (fun σ => [HA.row σ.2.1 3 1 σ.2.2.1.length (σ.2.2.1.flatMap intC), HA.row σ.2.2.2.1 28 256 σ.2.2.2.2.length (σ.2.2.2.2.flatMap rfC)]) ?_ (fun K0_386' hK_386' => ?_)
      · rintro ⟨found_17', w_19', l_8', w_20', l_9'⟩ hj
        replace h := hJ_11' found_17' l_8' l_9' hj
        show WC _ _ _ _ [(0, w), (3, w_20'), (4, w_19'), (5, Value.int .i64 b_9'), (6, Value.int .i64 found_17')] [HA.row w_19' 3 1 l_8'.length (l_8'.flatMap intC), HA.row w_20' 28 256 l_9'.length (l_9'.flatMap rfC)]
        refine wc_region ?_
        refine WL.val (OV.move rfl) rfl rfl rfl ?_
        refine WL.val (OV.move rfl) rfl rfl rfl ?_
        refine WL.val (OV.move rfl) rfl rfl rfl ?_
        obtain ⟨o_390', h⟩ := h
        refine WL.val (OV.indexRow 1 rfl rfl rfl tf_sl_42 o_390') rfl rfl rfl ?_
        obtain ⟨o_391', h⟩ := h
        refine WL.val (OV.indexAddr rfl rfl tf_arr_28 o_391' (by rw [Nat.mul_one])) rfl rfl rfl ?_
        refine WL.storeEF (f := rfC) (o := (b_9').toNat) (z := (setB (l_9'.getD (found_17').toNat default) ((b_9').toNat))) 1 rfl rfl rfl rfC_len (by omega) (by omega) rfl tf_size_4 rfl rfC_set rfl ?_
        refine WL.nil ?_
        refine KX.go (hK_264' [(0, w), (3, w_20'), (4, w_19'), (5, Value.int .i64 b_9')] _ ?_) ⟨rfl, rfl, rfl, rfl, trivial⟩
        refine wc_region ?_
        refine WL.val (OV.move rfl) rfl rfl rfl ?_
        obtain ⟨o_392', h⟩ := h
        refine WL.val (OV.add rfl rfl o_392') rfl rfl rfl ?_
        refine WL.val (OV.assign rfl) rfl rfl rfl ?_
        refine WL.nil ?_
        exact KX.goH (hK_261' (b_9' + 1, w_19', l_8', w_20', l_9'.set ((found_17').toNat) (setB (l_9'.getD (found_17').toNat default) ((b_9').toNat))) h.1 h.2) ⟨rfl, rfl, rfl, rfl, trivial⟩ [0, 1] rfl rfl
      · skip
        refine wc_seq (fun K0_387' hK_387' => ?_)
        refine wc_region ?_
        refine WL.val (OV.move rfl) rfl rfl rfl ?_
        refine WL.val (OV.lss rfl rfl) rfl rfl rfl ?_
        refine WL.nil ?_
        refine KX.go (hK_387' [(0, w), (3, w_16'), (4, w_15'), (5, Value.int .i64 b_9'), (6, Value.int .i64 found_15'), (52, Value.bool (decide (found_15' < 0)))] _ ?_) ⟨rfl, rfl, rfl, rfl, rfl, rfl, trivial⟩
        refine wc_cond (b := decide (found_15' < 0)) rfl (fun hb => ?_) (fun hb => ?_)
        · replace h := if_T h hb
          refine wc_seq (fun K0_388' hK_388' => ?_)
          refine wc_region ?_
          refine WL.val (OV.move rfl) rfl rfl rfl ?_
          refine WL.val (OV.lenRow 1 rfl rfl tf_sl_42) rfl rfl rfl ?_
          refine WL.val (OV.assign rfl) rfl rfl rfl ?_
          refine WL.nil ?_
          refine KX.go (hK_388' [(0, w), (3, w_16'), (4, w_15'), (5, Value.int .i64 b_9'), (6, Value.int .i64 (l_7'.length : Int))] _ ?_) ⟨rfl, rfl, rfl, rfl, rfl, trivial⟩
          refine wc_seq (fun K0_389' hK_389' => ?_)
          refine wc_region ?_
          refine WL.val (OV.move rfl) rfl rfl rfl ?_
          refine WL.val (OV.build rfl (cs := arr 256 (fun j => Value.bool ((fun _ => false) j))) (by kernel_rfl)) rfl rfl rfl ?_
          refine WL.make (MV.buildSlice (cs := arr 256 (fun j => Value.bool ((fun _ => false) j))) rfl tf_sl_42 (by kernel_rfl)) rfl rfl rfl (fun b_12' => ?_)
          obtain ⟨o_393', h⟩ := h
          refine WL.append (f := rfC) (ms := [cs0]) 2 0 rfl rfl rfl rfl (rfC_zero) rfl rfC_len (by decide) (rfC_one cs0) tf_sl_42 tf_info_28 rfl o_393' rfl rfl (fun w_21' => ?_)
          refine WL.val (OV.assign rfl) rfl rfl rfl ?_
          refine WL.nil ?_
          refine KX.go (hK_389' [(0, w), (3, w_21'), (4, w_15'), (5, Value.int .i64 b_9'), (6, Value.int .i64 (l_7'.length : Int))] _ ?_) ⟨rfl, rfl, rfl, rfl, rfl, trivial⟩
          refine wc_region ?_
          refine WL.val (OV.move rfl) rfl rfl rfl ?_
          refine WL.val (OV.move rfl) rfl rfl rfl ?_
          refine WL.make (MV.buildSlice (cs := [Value.int .i64 b_9']) rfl tf_sl_55 (by kernel_rfl)) rfl rfl rfl (fun b_13' => ?_)
          obtain ⟨o_394', h⟩ := h
          refine WL.append (f := intC) (ms := [b_9']) 2 0 rfl rfl rfl rfl rfl rfl intC_len (by decide) rfl tf_sl_55 tf_info_3 rfl o_394' rfl rfl (fun w_22' => ?_)
          refine WL.val (OV.assign rfl) rfl rfl rfl ?_
          refine WL.nil ?_
          exact KX.goH (hK_386' ((l_7'.length : Int), w_22', l_6' ++ [b_9'], w_21', l_7' ++ [cs0]) h) ⟨rfl, rfl, rfl, rfl, rfl, trivial⟩ [2, 3] rfl rfl
        · replace h := if_F h hb
          refine wc_skip ?_
          exact KX.goH (hK_386' (found_15', w_15', l_6', w_16', l_7') h) ⟨rfl, rfl, rfl, rfl, rfl, trivial⟩ [0, 1] rfl rfl
  · replace h := if_F h hb
    refine wc_exit ?_
    refine KX.go (hK_3' [(3, w_16')] _ ?_) ⟨rfl, trivial⟩
    refine wc_seq (fun K0_390' hK_390' => ?_)
    refine wc_region ?_
    refine WL.val (OV.move rfl) rfl rfl rfl ?_
    refine WL.val (OV.assign rfl) rfl rfl rfl ?_
    refine WL.nil ?_
    refine KX.go (hK_390' [(2, w_16')] _ ?_) ⟨rfl, trivial⟩
    refine wc_ret ?_
    exact hE.ret [1] rfl rfl (.inl ⟨_, _, h, rfl⟩) (ResV.of1 rfl (RV.tmp rfl))

/-! ### the parting of all bytes -/
def allS : CS := spanS 0 255
theorem allS_bit {b : Nat} (h : b < 256) : allS.getLsbD b = true := by
  unfold allS spanS
  rw [mkS_bit _ _ h]
  simp; omega
/-- No given set tells the bytes apart. -/
def sim (l : List CS) (b c : Nat) : Bool := l.all fun s => s.getLsbD b == s.getLsbD c
theorem sim_refl (l : List CS) (b : Nat) : sim l b b = true := by simp [sim]
theorem sim_iff {l : List CS} {b c : Nat} : sim l b c = true ↔ ∀ s ∈ l, s.getLsbD b = s.getLsbD c := by simp [sim]
theorem sim_symm {l : List CS} {b c : Nat} (h : sim l b c = true) : sim l c b = true := sim_iff.2 fun s hs => (sim_iff.1 h s hs).symm
theorem sim_trans {l : List CS} {b c d : Nat} (h : sim l b c = true) (h2 : sim l c d = true) : sim l b d = true := sim_iff.2 fun s hs => (sim_iff.1 h s hs).trans (sim_iff.1 h2 s hs)
def cls (l : List CS) (b : Nat) : CS := mkS fun c => sim l b c
theorem cls_bit {l : List CS} {b c : Nat} (h : c < 256) : (cls l b).getLsbD c = sim l b c := mkS_bit _ _ h
def rep (l : List CS) (b : Nat) : Bool := (List.range b).all fun c => !sim l c b
theorem rep_iff {l : List CS} {b : Nat} : rep l b = true ↔ ∀ c, c < b → sim l c b = false := by simp [rep]
def reps (l : List CS) (n : Nat) : List Nat := (List.range n).filter (rep l)
/-- The atoms, each once, by their least byte. -/
def atomsL (l : List CS) : List CS := (reps l 256).map (cls l)
theorem bit_ge (s : CS) {i : Nat} (h : 256 ≤ i) : s.getLsbD i = false := BitVec.getLsbD_of_ge s i h
theorem bits_ext {s t : CS} (h : ∀ i, i < 256 → s.getLsbD i = t.getLsbD i) : s = t := BitVec.eq_of_getLsbD_eq fun i hi => h i hi
theorem ne_zero {s : CS} (h : s ≠ cs0) : ∃ b, b < 256 ∧ s.getLsbD b = true := by
  refine Classical.byContradiction fun hn => h (bits_ext fun i hi => ?_)
  have : s.getLsbD i = false := by
    cases hb : s.getLsbD i with
    | false => rfl
    | true => exact absurd ⟨i, hi, hb⟩ hn
  rw [this]; simp [cs0]
theorem zero_bit (b : Nat) : cs0.getLsbD b = false := by simp [cs0]
/-- One set more cuts the blocks. -/
def splitS (s : CS) (bs : List CS) : List CS := bs.flatMap fun b => [b &&& s, b &&& ~~~ s].filter fun x => decide (x ≠ cs0)
def blocksL (l : List CS) : List CS := l.foldl (fun bs s => splitS s bs) [allS]
theorem flat_one {bs : List CS} {p : CS → Bool} {g : CS → List CS} {h : CS → CS} (hg : ∀ x ∈ bs, g x = if p x = true then [h x] else []) : bs.flatMap g = (bs.filter p).map h := by
  induction bs with
  | nil => rfl
  | cons x bs ih =>
    rw [List.flatMap_cons, hg x (by simp), ih fun y hy => hg y (by simp [hy]), List.filter_cons]
    by_cases hp : p x = true
    · rw [if_pos hp, if_pos hp]; rfl
    · rw [if_neg hp, if_neg hp]; rfl
theorem filter_flat {α β : Type} (q : β → Bool) (g : α → List β) : ∀ l : List α, (l.flatMap g).filter q = l.flatMap fun x => (g x).filter q
  | [] => rfl
  | x :: l => by rw [List.flatMap_cons, List.flatMap_cons, List.filter_append, filter_flat q g l]
theorem part_bit {x s : CS} {b : Nat} (hb : b < 256) : (x &&& s).getLsbD b = (x.getLsbD b && s.getLsbD b) ∧ (x &&& ~~~ s).getLsbD b = (x.getLsbD b && !s.getLsbD b) := by
  constructor
  · rw [BitVec.getLsbD_and]
  · rw [BitVec.getLsbD_and, BitVec.getLsbD_not]; simp [hb]
theorem part_filter {x s : CS} {b : Nat} (hb : b < 256) : (([x &&& s, x &&& ~~~ s].filter fun y => decide (y ≠ cs0)).filter fun y => y.getLsbD b) = if x.getLsbD b = true then [if s.getLsbD b = true then x &&& s else x &&& ~~~ s] else [] := by
  obtain ⟨h1, h2⟩ := part_bit (x := x) (s := s) hb
  have key : ∀ y : CS, (decide (y ≠ cs0) && y.getLsbD b) = y.getLsbD b := fun y => by
    by_cases hy : y = cs0
    · subst hy; rw [zero_bit]; simp
    · simp [hy]
  rw [List.filter_filter]
  have key' : ∀ y : CS, (y.getLsbD b && decide (y ≠ cs0)) = y.getLsbD b := fun y => by rw [Bool.and_comm]; exact key y
  simp only [List.filter_cons, List.filter_nil, key', h1, h2]
  cases x.getLsbD b <;> cases s.getLsbD b <;> simp
theorem blocks_snoc (l : List CS) (s : CS) : blocksL (l ++ [s]) = splitS s (blocksL l) := by
  unfold blocksL; rw [List.foldl_append]; rfl
theorem sim_snoc {l : List CS} {s : CS} {b c : Nat} : sim (l ++ [s]) b c = (sim l b c && (s.getLsbD b == s.getLsbD c)) := by simp [sim]
theorem cls_snoc {l : List CS} {s : CS} {b : Nat} : cls (l ++ [s]) b = if s.getLsbD b = true then cls l b &&& s else cls l b &&& ~~~ s := by
  refine bits_ext fun c hc => ?_
  rw [cls_bit hc, sim_snoc]
  obtain ⟨h1, h2⟩ := part_bit (x := cls l b) (s := s) hc
  cases hb : s.getLsbD b
  · rw [if_neg (by simp), h2, cls_bit hc]; cases s.getLsbD c <;> simp
  · rw [if_pos rfl, h1, cls_bit hc]; cases s.getLsbD c <;> simp
/-- Each byte lies in one block alone, which is its class; no block is void. -/
theorem blocks_ok {b : Nat} (hb : b < 256) : ∀ n (l : List CS), l.length = n → (blocksL l).filter (fun x => x.getLsbD b) = [cls l b]
  | 0, l, h => by
    have : l = [] := List.eq_nil_of_length_eq_zero h
    subst this
    have e : cls [] b = allS := bits_ext fun c hc => by rw [cls_bit hc, allS_bit hc]; rfl
    show [allS].filter _ = _
    rw [e, List.filter_cons, if_pos (allS_bit hb)]; rfl
  | n + 1, l, h => by
    obtain ⟨l, s, rfl⟩ : ∃ l' s, l = l' ++ [s] := ⟨l.dropLast, l.getLast (fun e => by subst e; simp at h), (List.dropLast_concat_getLast _).symm⟩
    have ih := blocks_ok hb n l (by simpa using h)
    rw [blocks_snoc]
    unfold splitS
    rw [filter_flat, flat_one (p := fun x => x.getLsbD b) (h := fun x => if s.getLsbD b = true then x &&& s else x &&& ~~~ s) (fun x _ => part_filter hb), ih, cls_snoc]; rfl
theorem blocks_full : ∀ n (l : List CS), l.length = n → ∀ x ∈ blocksL l, x ≠ cs0
  | 0, l, h => by
    have : l = [] := List.eq_nil_of_length_eq_zero h
    subst this
    intro x hx
    rw [List.mem_singleton.1 hx]
    intro e
    have := allS_bit (b := 0) (by decide)
    rw [e, zero_bit] at this; cases this
  | n + 1, l, h => by
    obtain ⟨l, s, rfl⟩ : ∃ l' s, l = l' ++ [s] := ⟨l.dropLast, l.getLast (fun e => by subst e; simp at h), (List.dropLast_concat_getLast _).symm⟩
    intro x hx
    rw [blocks_snoc] at hx
    unfold splitS at hx
    rw [List.mem_flatMap] at hx
    obtain ⟨y, _, hy⟩ := hx
    simpa using (List.mem_filter.1 hy).2
theorem sum_add {f g : Nat → Nat} : ∀ l : List Nat, (l.map fun b => f b + g b).sum = (l.map f).sum + (l.map g).sum
  | [] => rfl
  | x :: l => by simp only [List.map_cons, List.sum_cons, sum_add l]; omega
theorem sum_pos {f : Nat → Nat} : ∀ {l : List Nat} {b : Nat}, b ∈ l → 1 ≤ f b → 1 ≤ (l.map f).sum
  | x :: l, b, h, hb => by
    simp only [List.map_cons, List.sum_cons]
    rcases List.mem_cons.1 h with rfl | h
    · omega
    · have := sum_pos h hb; omega
theorem len_sum : ∀ bs : List CS, (∀ x ∈ bs, x ≠ cs0) → bs.length ≤ ((List.range 256).map fun b => (bs.filter fun x => x.getLsbD b).length).sum
  | [], _ => by simp
  | x :: bs, h => by
    have ih := len_sum bs fun y hy => h y (by simp [hy])
    obtain ⟨b, hb, hx⟩ := ne_zero (h x (by simp))
    have e : (fun b => ((x :: bs).filter fun y => y.getLsbD b).length) = fun b => (if x.getLsbD b = true then 1 else 0) + (bs.filter fun y => y.getLsbD b).length := by
      funext b
      rw [List.filter_cons]
      split <;> simp <;> omega
    rw [e, sum_add, List.length_cons]
    have := sum_pos (f := fun b => if x.getLsbD b = true then 1 else 0) (List.mem_range.2 hb) (by simp [hx])
    omega
theorem sum_ones {f : Nat → Nat} : ∀ l : List Nat, (∀ b ∈ l, f b = 1) → (l.map f).sum = l.length
  | [], _ => rfl
  | x :: l, h => by simp only [List.map_cons, List.sum_cons, List.length_cons, h x (by simp), sum_ones l fun b hb => h b (by simp [hb])]; omega
theorem blocks_len (l : List CS) : (blocksL l).length ≤ 256 := by
  have h := len_sum (blocksL l) (blocks_full _ l rfl)
  rw [sum_ones _ fun b hb => by rw [blocks_ok (List.mem_range.1 hb) _ l rfl]; rfl] at h
  simpa using h
theorem least_bit {s : CS} (h : s ≠ cs0) : (least s).1 < 256 ∧ s.getLsbD (least s).1 = true ∧ ∀ c, c < (least s).1 → s.getLsbD c = false := by
  unfold least
  obtain ⟨b, hb, hs⟩ := ne_zero h
  cases hn : nextS s 0 with
  | none =>
    have := nextFrom_none hn b (by omega) (by omega)
    rw [hs] at this; cases this
  | some c =>
    have := nextFrom_some hn
    exact ⟨by show c < 256; omega, this.2.2.1, fun i hi => this.2.2.2 i (by omega) hi⟩
theorem least_iff {l : List CS} {b : Nat} (hb : b < 256) : (least (cls l b)).1 = b ↔ rep l b = true := by
  have hne : cls l b ≠ cs0 := fun e => by
    have := cls_bit (l := l) (b := b) hb
    rw [e, zero_bit, sim_refl] at this; cases this
  obtain ⟨h1, h2, h3⟩ := least_bit hne
  rw [rep_iff]
  constructor
  · intro e c hc
    have := h3 c (by omega)
    rw [cls_bit (by omega)] at this
    cases hs : sim l c b with
    | false => rfl
    | true => rw [sim_symm hs] at this; cases this
  · intro h
    rw [cls_bit h1] at h2
    rcases Nat.lt_trichotomy (least (cls l b)).1 b with hlt | he | hgt
    · have := h _ hlt
      rw [sim_symm h2] at this; cases this
    · exact he
    · have := h3 b hgt
      rw [cls_bit hb, sim_refl] at this; cases this
theorem least_filter {l : List CS} {b : Nat} (hb : b < 256) : (blocksL l).filter (fun s => decide ((least s).1 = b)) = if rep l b = true then [cls l b] else [] := by
  have h1 : (blocksL l).filter (fun s => decide ((least s).1 = b)) = ((blocksL l).filter (fun x => x.getLsbD b)).filter (fun s => decide ((least s).1 = b)) := by
    rw [List.filter_filter]
    refine List.filter_congr fun x hx => ?_
    have := least_bit (blocks_full _ l rfl x hx)
    by_cases he : (least x).1 = b
    · rw [← he, this.2.1]; simp
    · simp [he]
  rw [h1, blocks_ok hb _ l rfl, List.filter_cons]
  by_cases hr : rep l b = true
  · rw [if_pos hr, if_pos (by simpa using (least_iff hb).2 hr)]; rfl
  · rw [if_neg hr, if_neg (by simpa using fun e => hr ((least_iff hb).1 e))]; rfl
theorem atoms_eq (l : List CS) : ((List.range 256).flatMap fun b => (blocksL l).filter fun s => decide ((least s).1 = b)) = atomsL l := by
  unfold atomsL reps
  have : ∀ n, n ≤ 256 → ((List.range n).flatMap fun b => (blocksL l).filter fun s => decide ((least s).1 = b)) = ((List.range n).filter (rep l)).map (cls l) := by
    intro n
    induction n with
    | zero => intro _; rfl
    | succ n ih =>
      intro h
      rw [List.range_succ, List.flatMap_append, ih (by omega), List.filter_append, List.map_append, List.flatMap_singleton, least_filter (by omega), List.filter_cons]
      by_cases hr : rep l n = true
      · rw [if_pos hr, if_pos hr]; rfl
      · rw [if_neg hr, if_neg hr]; rfl
  exact this 256 (Nat.le_refl _)

theorem take_nx {α : Type} [Inhabited α] {l : List α} {i : Int} (h : 0 ≤ i ∧ i < l.length) : l.take (i + 1).toNat = l.take i.toNat ++ [l.getD i.toNat default] := by
  have hlt : i.toNat < l.length := by omega
  rw [show (i + 1).toNat = i.toNat + 1 by omega, List.take_add_one, List.getElem?_eq_getElem hlt, List.getD_eq_getElem?_getD, List.getElem?_eq_getElem hlt]
  rfl
theorem split_len (s : CS) : ∀ bs : List CS, (splitS s bs).length ≤ 2 * bs.length
  | [] => by simp [splitS]
  | b :: bs => by
    have ih := split_len s bs
    unfold splitS at ih ⊢
    rw [List.flatMap_cons, List.length_append, List.length_cons]
    have := List.length_filter_le (fun x => decide (x ≠ cs0)) [b &&& s, b &&& ~~~ s]
    simp only [List.length_cons, List.length_nil] at this
    omega
theorem split_append (s : CS) (a b : List CS) : splitS s (a ++ b) = splitS s a ++ splitS s b := by unfold splitS; rw [List.flatMap_append]
theorem flat_le (g : Nat → List CS) (k : Nat) (h : ∀ b, (g b).length ≤ k) : ∀ n, ((List.range n).flatMap g).length ≤ n * k
  | 0 => by simp
  | n + 1 => by
    have := flat_le g k h n
    rw [List.range_succ, List.flatMap_append, List.length_append, List.flatMap_singleton, Nat.add_mul]
    have := h n
    omega
theorem atoms_does (v : Value) (x : List CS) (h : x.length ≤ 2097152) (R : List (Nat × Obj)) (hR : InSl v R x.length (x.flatMap wl)) : Does Try.prog 25 [v] (R ++ []) [] (fun o => ∃ w : Value, o = .ret w [HA.row w 26 4 (atomsL x).length ((atomsL x).flatMap wl)]) := by
  refine (atoms_wp v x R hR (fun l => l = atomsL x) ?_).weak (by rintro o (⟨w, d, rfl, rfl⟩ | h) <;> first | exact ⟨w, rfl⟩ | exact h.elim)
  unfold atoms_vc
  refine ⟨⟨⟨by decide, by decide⟩, by decide, by decide⟩, fun t bs => 0 ≤ t ∧ t ≤ x.length ∧ bs = blocksL (x.take t.toNat), fun t _ => (x.length - t).toNat, ⟨by omega, by omega, rfl⟩, fun t bs ⟨t0, t1, hbs⟩ => ?_⟩
  have hbl := blocks_len (x.take t.toNat)
  rw [← hbs] at hbl
  by_cases ht : t < (x.length : Int)
  · rw [if_pos (by simpa using ht)]
    refine ⟨⟨t0, ht⟩, ?_⟩
    have hnx := take_nx ⟨t0, ht⟩
    generalize x.getD t.toNat default = s at hnx ⊢
    refine ⟨fun i nx => 0 ≤ i ∧ i ≤ bs.length ∧ nx = splitS s (bs.take i.toNat), fun i _ => (bs.length - i).toNat, ⟨by omega, by omega, rfl⟩, fun i nx ⟨i0, i1, hn⟩ => ?_⟩
    have hnl := split_len s (bs.take i.toNat)
    rw [← hn, List.length_take] at hnl
    by_cases hi : i < (bs.length : Int)
    · rw [if_pos (by simpa using hi)]
      refine ⟨⟨i0, hi⟩, ?_⟩
      have hbx := take_nx ⟨i0, hi⟩
      generalize bs.getD i.toNat default = b at hbx ⊢
      refine ⟨fun k l => 0 ≤ k ∧ k ≤ 2 ∧ l = nx ++ ([b &&& s, b &&& ~~~ s].take k.toNat).filter fun y => decide (y ≠ cs0), fun k _ => (2 - k).toNat, ⟨by omega, by omega, by simp⟩, fun k l ⟨k0, k1, hl⟩ => ?_⟩
      have hll : l.length ≤ nx.length + 2 := by
        rw [hl, List.length_append]
        have := List.length_filter_le (fun y => decide (y ≠ cs0)) ([b &&& s, b &&& ~~~ s].take k.toNat)
        have h2 : ([b &&& s, b &&& ~~~ s].take k.toNat).length ≤ 2 := by rw [List.length_take]; simp only [List.length_cons, List.length_nil]; omega
        omega
      by_cases hk : k < 2
      · rw [if_pos (by simpa using hk)]
        refine ⟨fun l' => l' = nx ++ ([b &&& s, b &&& ~~~ s].take (k + 1).toNat).filter fun y => decide (y ≠ cs0), fun l' hl' => ⟨⟨by omega, by omega⟩, ⟨by omega, by omega, hl'⟩, by show (2 - (k + 1)).toNat < (2 - k).toNat; omega⟩, ⟨k0, hk⟩, ?_⟩
        rw [hl]
        have hstep : ∀ y : CS, [b &&& s, b &&& ~~~ s].take (k + 1).toNat = [b &&& s, b &&& ~~~ s].take k.toNat ++ [y] → (if (!decide (y = cs0)) = true then
            ((((nx ++ ([b &&& s, b &&& ~~~ s].take k.toNat).filter fun y => decide (y ≠ cs0)).length + 1) + ((nx ++ ([b &&& s, b &&& ~~~ s].take k.toNat).filter fun y => decide (y ≠ cs0)).length + 1) / 4 + 192) * 32 ≤ 281474976710656 ∧ (nx ++ ([b &&& s, b &&& ~~~ s].take k.toNat).filter fun y => decide (y ≠ cs0)).length + 1 ≤ 9223372036854775807) ∧
            (nx ++ ([b &&& s, b &&& ~~~ s].take k.toNat).filter fun y => decide (y ≠ cs0)) ++ [y] = nx ++ ([b &&& s, b &&& ~~~ s].take (k + 1).toNat).filter fun y => decide (y ≠ cs0)
          else (nx ++ ([b &&& s, b &&& ~~~ s].take k.toNat).filter fun y => decide (y ≠ cs0)) = nx ++ ([b &&& s, b &&& ~~~ s].take (k + 1).toNat).filter fun y => decide (y ≠ cs0)) := fun y hy => by
          rw [← hl, hy, List.filter_append, ← List.append_assoc, ← hl, List.filter_cons]
          by_cases hz : y = cs0
          · rw [if_neg (by simp [hz]), if_neg (by simp [hz])]; simp
          · rw [if_pos (by simp [hz]), if_pos (by simp [hz])]
            exact ⟨⟨by omega, by omega⟩, rfl⟩
        rcases (by omega : k = 0 ∨ k = 1) with rfl | rfl
        · exact hstep _ rfl
        · exact hstep _ rfl
      · rw [if_neg (by simpa using hk)]
        refine ⟨⟨by omega, by omega⟩, ⟨by omega, by omega, ?_⟩, by show (bs.length - (i + 1)).toNat < (bs.length - i).toNat; omega⟩
        rw [hl, show k.toNat = 2 by omega, hbx, split_append, hn]
        congr 1
        unfold splitS
        rw [List.flatMap_singleton]; rfl
    · rw [if_neg (by simpa using hi)]
      refine ⟨⟨by omega, by omega⟩, ⟨by omega, by omega, ?_⟩, by show (x.length - (t + 1)).toNat < (x.length - t).toNat; omega⟩
      rw [hnx, blocks_snoc, ← hbs, hn, List.take_of_length_le (by omega)]
  · rw [if_neg (by simpa using ht)]
    rw [List.take_of_length_le (by omega)] at hbs
    subst hbs
    refine ⟨⟨by omega, by omega, by omega⟩, fun b out => 0 ≤ b ∧ b ≤ 256 ∧ out = (List.range b.toNat).flatMap fun b => (blocksL x).filter fun s => decide ((least s).1 = b), fun b _ => (256 - b).toNat, ⟨by omega, by omega, rfl⟩, fun b out ⟨b0, b1, ho⟩ => ?_⟩
    have hol : out.length ≤ b.toNat * 256 := by
      rw [ho]
      exact flat_le _ 256 (fun q => Nat.le_trans (List.length_filter_le _ _) hbl) _
    by_cases hb : b < 256
    · rw [if_pos (by simpa using hb)]
      refine ⟨fun i l => 0 ≤ i ∧ i ≤ (blocksL x).length ∧ l = out ++ ((blocksL x).take i.toNat).filter fun s => decide ((least s).1 = b.toNat), fun i _ => ((blocksL x).length - i).toNat, ⟨by omega, by omega, by simp⟩, fun i l ⟨i0, i1, hl⟩ => ?_⟩
      have hll : l.length ≤ 65536 + 256 := by
        rw [hl, List.length_append]
        have h1 := List.length_filter_le (fun s => decide ((least s).1 = b.toNat)) ((blocksL x).take i.toNat)
        rw [List.length_take] at h1
        have h2 : b.toNat * 256 ≤ 256 * 256 := Nat.mul_le_mul_right _ (by omega)
        omega
      by_cases hi : i < ((blocksL x).length : Int)
      · rw [if_pos (by simpa using hi)]
        have hbx := take_nx ⟨i0, hi⟩
        have hmem : (blocksL x).getD i.toNat default ∈ blocksL x := by
          rw [List.getD_eq_getElem?_getD, List.getElem?_eq_getElem (by omega)]; exact List.getElem_mem _
        have hlb := (least_bit (blocks_full _ x rfl _ hmem)).1
        generalize (blocksL x).getD i.toNat default = y at hbx hlb ⊢
        refine ⟨fun l' => l' = out ++ ((blocksL x).take (i + 1).toNat).filter fun s => decide ((least s).1 = b.toNat), fun l' hl' => ⟨⟨by omega, by omega⟩, ⟨by omega, by omega, hl'⟩, by show ((blocksL x).length - (i + 1)).toNat < ((blocksL x).length - i).toNat; omega⟩, ⟨i0, hi⟩, ⟨by omega, by omega⟩, ?_⟩
        rw [hbx, List.filter_append, ← List.append_assoc, ← hl, List.filter_cons]
        by_cases hz : (least y).1 = b.toNat
        · rw [if_pos (by simp; omega), if_pos (by simp [hz])]
          exact ⟨⟨by omega, by omega⟩, rfl⟩
        · rw [if_neg (by simp; omega), if_neg (by simp [hz])]; simp
      · rw [if_neg (by simpa using hi)]
        refine ⟨⟨by omega, by omega⟩, ⟨by omega, by omega, ?_⟩, by show (256 - (b + 1)).toNat < (256 - b).toNat; omega⟩
        rw [hl, List.take_of_length_le (by omega), show (b + 1).toNat = b.toNat + 1 by omega, List.range_succ, List.flatMap_append, ← ho, List.flatMap_singleton]
    · rw [if_neg (by simpa using hb), ho, show b.toNat = 256 by omega]
      exact atoms_eq x

/-! ### the document's list -/
def clsB (l : List CS) (b r : Nat) : CS := mkS fun c => decide (c < b) && sim l r c
theorem clsB_bit {l : List CS} {b r c : Nat} (h : c < 256) : (clsB l b r).getLsbD c = (decide (c < b) && sim l r c) := mkS_bit _ _ h
theorem clsB_all (l : List CS) (r : Nat) : clsB l 256 r = cls l r := bits_ext fun c hc => by rw [clsB_bit hc, cls_bit hc]; simp [hc]
theorem setB_bit {s : CS} {b c : Nat} (h : c < 256) : (setB s b).getLsbD c = if c = b then true else s.getLsbD c := mkS_bit _ _ h
theorem clsB_hit {l : List CS} {b r : Nat} (hs : sim l r b = true) : setB (clsB l b r) b = clsB l (b + 1) r := bits_ext fun c hc => by
  rw [setB_bit hc, clsB_bit hc, clsB_bit hc]
  by_cases h : c = b
  · subst h; rw [if_pos rfl, hs]; simp
  · rw [if_neg h]
    have : decide (c < b + 1) = decide (c < b) := by
      by_cases h2 : c < b
      · simp [h2]; omega
      · simp [h2]; omega
    rw [this]
theorem clsB_miss {l : List CS} {b r : Nat} (hs : sim l r b = false) : clsB l b r = clsB l (b + 1) r := bits_ext fun c hc => by
  rw [clsB_bit hc, clsB_bit hc]
  by_cases h : c = b
  · subst h; rw [hs]; simp
  · have : decide (c < b + 1) = decide (c < b) := by
      by_cases h2 : c < b
      · simp [h2]; omega
      · simp [h2]; omega
    rw [this]
theorem clsB_new {l : List CS} {b : Nat} (hr : rep l b = true) : setB cs0 b = clsB l (b + 1) b := bits_ext fun c hc => by
  rw [setB_bit hc, clsB_bit hc]
  by_cases h : c = b
  · subst h; rw [if_pos rfl, sim_refl]; simp
  · rw [if_neg h, zero_bit]
    by_cases h2 : c < b
    · have := rep_iff.1 hr c h2
      cases hs : sim l b c with
      | false => simp
      | true => rw [sim_symm hs] at this; cases this
    · rw [decide_eq_false (by omega : ¬ c < b + 1)]; rfl
theorem reps_succ (l : List CS) (n : Nat) : reps l (n + 1) = reps l n ++ (if rep l n = true then [n] else []) := by
  unfold reps
  rw [List.range_succ, List.filter_append, List.filter_cons]
  by_cases h : rep l n = true
  · rw [if_pos h, if_pos h]; rfl
  · rw [if_neg h, if_neg h]; rfl
theorem mem_reps {l : List CS} {n r : Nat} : r ∈ reps l n ↔ r < n ∧ rep l r = true := by simp [reps]
theorem rep_of (l : List CS) : ∀ c, ∃ r, r ≤ c ∧ rep l r = true ∧ sim l r c = true := by
  intro c
  induction c using Nat.strongRecOn with
  | _ c ih =>
    by_cases hr : rep l c = true
    · exact ⟨c, Nat.le_refl _, hr, sim_refl l c⟩
    · have : ∃ d, d < c ∧ sim l d c = true := by
        refine Classical.byContradiction fun hn => hr (rep_iff.2 fun d hd => ?_)
        cases hs : sim l d c with
        | false => rfl
        | true => exact absurd ⟨d, hd, hs⟩ hn
      obtain ⟨d, hd, hs⟩ := this
      obtain ⟨r, h1, h2, h3⟩ := ih d hd
      exact ⟨r, by omega, h2, sim_trans h3 hs⟩
theorem rep_uni {l : List CS} {r q : Nat} (h1 : rep l r = true) (h2 : rep l q = true) (hs : sim l r q = true) : r = q := by
  rcases Nat.lt_trichotomy r q with h | h | h
  · have := rep_iff.1 h2 r h
    rw [hs] at this; cases this
  · exact h
  · have := rep_iff.1 h1 q h
    rw [sim_symm hs] at this; cases this
theorem reps_len (l : List CS) (n : Nat) : (reps l n).length ≤ n := by
  have := List.length_filter_le (rep l) (List.range n)
  rw [List.length_range] at this; exact this
theorem reps_nodup (l : List CS) (n : Nat) : (reps l n).Nodup := List.Pairwise.filter (rep l) List.nodup_range
theorem nodup_inj {l : List Nat} (h : l.Nodup) {i j : Nat} (hi : i < l.length) (hj : j < l.length) (he : l[i] = l[j]) : i = j := by
  rcases Nat.lt_trichotomy i j with hlt | hq | hgt
  · exact absurd he (List.pairwise_iff_getElem.1 h i j hi hj hlt)
  · exact hq
  · exact absurd he.symm (List.pairwise_iff_getElem.1 h j i hj hi hgt)
theorem map_set {l : List CS} {b k : Nat} {rs : List Nat} (hk : k < rs.length) (hn : rs.Nodup) (hrep : ∀ r ∈ rs, rep l r = true) (hs : sim l (rs.getD k 0) b = true) :
    (rs.map (clsB l b)).set k (setB ((rs.map (clsB l b)).getD k default) b) = rs.map (clsB l (b + 1)) := by
  refine List.ext_getElem? fun j => ?_
  rw [List.getElem?_set]
  have hget : rs.getD k 0 = rs[k] := by rw [List.getD_eq_getElem?_getD, List.getElem?_eq_getElem hk]; rfl
  by_cases hj : k = j
  · subst hj
    rw [if_pos rfl, if_pos (show k < (rs.map (clsB l b)).length by rw [List.length_map]; exact hk), List.getD_eq_getElem?_getD, List.getElem?_map, List.getElem?_eq_getElem hk]
    simp only [Option.map_some, Option.getD_some]
    rw [List.getElem?_map, List.getElem?_eq_getElem hk]
    rw [hget] at hs
    simp only [Option.map_some]
    rw [clsB_hit hs]
  · rw [if_neg hj, List.getElem?_map, List.getElem?_map]
    cases hr : rs[j]? with
    | none => simp only [Option.map_none]
    | some r =>
      have hjl : j < rs.length := (List.getElem?_eq_some_iff.1 hr).1
      have hr' : rs[j] = r := (List.getElem?_eq_some_iff.1 hr).2
      simp only [Option.map_some]
      rw [clsB_miss (l := l) (b := b) (r := r)]
      cases hc : sim l r b with
      | false => rfl
      | true =>
        have h1 := hrep r (List.mem_of_getElem? hr)
        have h2 := hrep rs[k] (List.getElem_mem _)
        rw [hget] at hs
        have := rep_uni h1 h2 (sim_trans hc (sim_symm hs))
        rw [← hr'] at this
        exact absurd (nodup_inj hn hjl hk this).symm hj
theorem ratoms_does (v : Value) (x : List CS) (h : x.length ≤ 2097152) (R : List (Nat × Obj)) (hR : InSl v R x.length (x.flatMap rfC)) : Does Try.prog 21 [v] (R ++ []) [] (fun o => ∃ w : Value, o = .ret w [HA.row w 28 256 (atomsL x).length ((atomsL x).flatMap rfC)]) := by
  refine (ratoms_wp v x R hR (fun l => l = atomsL x) ?_).weak (by rintro o (⟨w, d, rfl, rfl⟩ | h) <;> first | exact ⟨w, rfl⟩ | exact h.elim)
  unfold ratoms_vc
  refine ⟨fun b fs out => 0 ≤ b ∧ b ≤ 256 ∧ fs = (reps x b.toNat).map (fun r : Nat => (r : Int)) ∧ out = (reps x b.toNat).map (clsB x b.toNat), fun b _ _ => (256 - b).toNat, ⟨by omega, by omega, rfl, rfl⟩, fun b fs out ⟨b0, b1, hf, ho⟩ => ?_⟩
  have hrl := reps_len x b.toNat
  have hfl : fs.length = (reps x b.toNat).length := by rw [hf, List.length_map]
  have hol : out.length = (reps x b.toNat).length := by rw [ho, List.length_map]
  by_cases hb : b < 256
  · rw [if_pos (by simpa using hb)]
    have hfg : ∀ k : Nat, k < fs.length → fs.getD k default = (((reps x b.toNat).getD k 0 : Nat) : Int) ∧ (reps x b.toNat).getD k 0 < b.toNat ∧ rep x ((reps x b.toNat).getD k 0) = true := fun k hk => by
      have hk2 : k < (reps x b.toNat).length := by omega
      have hg : (reps x b.toNat).getD k 0 = (reps x b.toNat)[k] := by rw [List.getD_eq_getElem?_getD, List.getElem?_eq_getElem hk2]; rfl
      have := mem_reps.1 (List.getElem_mem hk2)
      refine ⟨?_, by rw [hg]; exact this.1, by rw [hg]; exact this.2⟩
      rw [hf, List.getD_eq_getElem?_getD, List.getElem?_map, List.getElem?_eq_getElem hk2, hg]; rfl
    refine ⟨fun f k => 0 ≤ k ∧ k ≤ fs.length ∧ (f = -1 ∧ (∀ i : Nat, (i : Int) < k → sim x ((reps x b.toNat).getD i 0) b.toNat = false) ∨ 0 ≤ f ∧ f < fs.length ∧ sim x ((reps x b.toNat).getD f.toNat 0) b.toNat = true), fun _ k => (fs.length - k).toNat, ⟨by omega, by omega, .inl ⟨rfl, fun i hi => by omega⟩⟩, fun f k ⟨k0, k1, hfk⟩ => ?_⟩
    by_cases hk : k < (fs.length : Int) ∧ f < 0
    · rw [if_pos (by simp [hk.1, hk.2])]
      have hno : f = -1 ∧ ∀ i : Nat, (i : Int) < k → sim x ((reps x b.toNat).getD i 0) b.toNat = false := by
        rcases hfk with hfk | hfk
        · exact hfk
        · omega
      obtain ⟨e1, e2, e3⟩ := hfg k.toNat (by omega)
      rw [e1]
      generalize hrdef : (reps x b.toNat).getD k.toNat 0 = r at e2 e3 ⊢
      refine ⟨fun f' => f' = -1 ∧ sim x r b.toNat = false ∨ f' = k ∧ sim x r b.toNat = true, fun f' hJ => ⟨⟨by omega, by omega⟩, ⟨by omega, by omega, ?_⟩, by show (fs.length - (k + 1)).toNat < (fs.length - k).toNat; omega⟩, ?_⟩
      · rcases hJ with ⟨rfl, hJ⟩ | ⟨rfl, hJ⟩
        · refine .inl ⟨rfl, fun i hi => ?_⟩
          by_cases hik : (i : Int) < k
          · exact hno.2 i hik
          · rw [show i = k.toNat by omega, hrdef]; exact hJ
        · exact .inr ⟨by omega, by omega, by rw [hrdef]; exact hJ⟩
      · refine ⟨fun al j => 0 ≤ j ∧ j ≤ x.length ∧ (al = true ∧ (∀ i : Nat, (i : Int) < j → (x.getD i default).getLsbD b.toNat = (x.getD i default).getLsbD r) ∨ al = false ∧ ∃ i : Nat, i < x.length ∧ (x.getD i default).getLsbD b.toNat ≠ (x.getD i default).getLsbD r), fun _ j => (x.length - j).toNat, ⟨by omega, by omega, .inl ⟨rfl, fun i hi => by omega⟩⟩, fun al j ⟨j0, j1, hal⟩ => ?_⟩
        by_cases hj : j < (x.length : Int) ∧ al = true
        · rw [if_pos (by simp [hj.1, hj.2])]
          refine ⟨⟨j0, hj.1⟩, ⟨b0, hb⟩, ⟨k0, hk.1⟩, ⟨j0, hj.1⟩, ⟨by omega, by omega⟩, ⟨by omega, by omega⟩, ⟨by omega, by omega, ?_⟩, by show (x.length - (j + 1)).toNat < (x.length - j).toNat; omega⟩
          rw [Int.toNat_natCast]
          have hall : ∀ i : Nat, (i : Int) < j → (x.getD i default).getLsbD b.toNat = (x.getD i default).getLsbD r := by
            rcases hal with hal | hal
            · exact hal.2
            · rw [hj.2] at hal; exact absurd hal.1 (by simp)
          by_cases he : (x.getD j.toNat default).getLsbD b.toNat = (x.getD j.toNat default).getLsbD r
          · refine .inl ⟨by rw [he]; simp, fun i hi => ?_⟩
            by_cases hij : (i : Int) < j
            · exact hall i hij
            · rw [show i = j.toNat by omega]; exact he
          · exact .inr ⟨by simpa using he, j.toNat, by omega, he⟩
        · rw [if_neg (by simpa using hj)]
          rcases hal with ⟨rfl, hal⟩ | ⟨rfl, i, hi, hne⟩
          · rw [if_pos rfl]
            refine .inr ⟨rfl, sim_iff.2 fun s hs => ?_⟩
            obtain ⟨i, hi⟩ := List.mem_iff_getElem?.1 hs
            have hil := (List.getElem?_eq_some_iff.1 hi).1
            have := hal i (by simp at hj; omega)
            rw [List.getD_eq_getElem?_getD, hi] at this
            exact this.symm
          · rw [if_neg (by simp)]
            refine .inl ⟨hno.1, ?_⟩
            cases hs : sim x r b.toNat with
            | false => rfl
            | true =>
              refine absurd (sim_iff.1 hs (x.getD i default) ?_).symm hne
              rw [List.getD_eq_getElem?_getD, List.getElem?_eq_getElem hi]; exact List.getElem_mem _
    · rw [if_neg (by simpa using hk)]
      refine ⟨fun f' fs' out' => 0 ≤ f' ∧ f' < out'.length ∧ fs' = (reps x (b + 1).toNat).map (fun r : Nat => (r : Int)) ∧ out'.set f'.toNat (setB (out'.getD f'.toNat default) b.toNat) = (reps x (b + 1).toNat).map (clsB x (b + 1).toNat), fun f' fs' out' ⟨q0, q1, q2, q3⟩ => ⟨⟨q0, q1⟩, ⟨b0, hb⟩, ⟨by omega, by omega⟩, ⟨by omega, by omega, q2, q3⟩, by show (256 - (b + 1)).toNat < (256 - b).toNat; omega⟩, ?_⟩
      rw [show (b + 1).toNat = b.toNat + 1 by omega, reps_succ]
      rcases hfk with ⟨rfl, hno⟩ | ⟨f0, f1, hyes⟩
      · rw [if_pos (by decide)]
        have hkl : k = fs.length := by omega
        have hr : rep x b.toNat = true := rep_iff.2 fun c hc => by
          cases hs : sim x c b.toNat with
          | false => rfl
          | true =>
            obtain ⟨r, h1, h2, h3⟩ := rep_of x c
            have hm : r ∈ reps x b.toNat := mem_reps.2 ⟨by omega, h2⟩
            obtain ⟨i, hi⟩ := List.mem_iff_getElem?.1 hm
            have hil := (List.getElem?_eq_some_iff.1 hi).1
            have := hno i (by omega)
            rw [List.getD_eq_getElem?_getD, hi] at this
            exact (sim_trans h3 hs).symm.trans this
        rw [if_pos hr]
        refine ⟨⟨by omega, by omega⟩, ⟨by omega, by omega⟩, by omega, by rw [List.length_append]; simp only [List.length_cons, List.length_nil]; omega, ?_, ?_⟩
        · rw [List.map_append, ← hf, show [b] = [b.toNat].map (fun r : Nat => (r : Int)) by simp; omega]
        · have hlen : (out.length : Int).toNat = out.length := by omega
          rw [hlen, List.getD_eq_getElem?_getD, List.getElem?_append_right (Nat.le_refl _), Nat.sub_self, List.set_append_right _ _ (Nat.le_refl _), Nat.sub_self]
          simp only [List.getElem?_cons_zero, Option.getD_some, List.set_cons_zero]
          have he : (reps x b.toNat).map (clsB x b.toNat) = (reps x b.toNat).map (clsB x (b.toNat + 1)) :=
            List.map_congr_left fun r hrm => clsB_miss (rep_iff.1 hr r (mem_reps.1 hrm).1)
          rw [clsB_new hr, List.map_append, ho, he]
          simp only [List.map_cons, List.map_nil]
      · rw [if_neg (by simp; omega)]
        have hr : rep x b.toNat = false := by
          cases hs : rep x b.toNat with
          | false => rfl
          | true =>
            obtain ⟨_, e2, _⟩ := hfg f.toNat (by omega)
            have := rep_iff.1 hs _ e2
            rw [hyes] at this; cases this
        rw [hr, if_neg (by simp), List.append_nil]
        refine ⟨f0, by omega, hf, ?_⟩
        rw [ho]
        exact map_set (by omega) (reps_nodup x _) (fun r hrm => (mem_reps.1 hrm).2) hyes
  · rw [if_neg (by simpa using hb), ho, show b.toNat = 256 by omega]
    unfold atomsL
    refine List.map_congr_left fun r _ => clsB_all x r

end Go.Proofs.Ytkjnhjhkaaampaa
