/-
  Lists of sets.
-/
import Derived.Test.YtkjnhjhkaaampaaChecked
import Derived.Test.YtkjnhjhkaaampaaGwl
import Derived.Test.YtkjnhjhkaaampaaGwe
import Derived.Test.YtkjnhjhkaaampaaClassD
import Derived.Test.YtkjnhjhkaaampaaAtD
namespace Go.Proofs.Ytkjnhjhkaaampaa
open Go Go.RowKit

theorem tf_sl_41 : slB Try.prog 41 23 4 = true := by kernel_rfl
theorem tf_info_26 : infoB Try.prog 26 = some ([Value.int .u64 0, Value.int .u64 0, Value.int .u64 0, Value.int .u64 0], 4, 32) := by kernel_rfl
theorem tf_sl_46 : slB Try.prog 46 26 4 = true := by kernel_rfl
theorem tf_row_23 : RowT Try.prog 23 4 := ⟨by kernel_rfl, by kernel_rfl⟩
theorem tf_size_26 : sizeB Try.prog 26 4 = true := by kernel_rfl
theorem tf_info_23 : infoB Try.prog 23 = some ([Value.int .u64 0, Value.int .u64 0, Value.int .u64 0, Value.int .u64 0], 4, 32) := by kernel_rfl
theorem tf_row_26 : RowT Try.prog 26 4 := ⟨by kernel_rfl, by kernel_rfl⟩
theorem tf_size_23 : sizeB Try.prog 23 4 = true := by kernel_rfl
theorem tf_info_28 : infoB Try.prog 28 = some ((arr 256 (fun _ => Value.bool false)), 256, 256) := by kernel_rfl
theorem tf_sl_42 : slB Try.prog 42 28 256 = true := by kernel_rfl
theorem tf_ent_10 : entB Try.prog 10 = true := by kernel_rfl
theorem tf_size_28 : sizeB Try.prog 28 256 = true := by kernel_rfl
theorem tf_zero_23a : zeroB Try.prog 23 = some (arr 4 (fun j => Value.int .u64 ((fun _ => 0) j))) := by kernel_rfl
theorem tf_arr_23 : arrB Try.prog 23 22 4 1 = true := by kernel_rfl
theorem tf_scal_22 : scalB Try.prog 22 = true := by kernel_rfl
theorem tf_size_22 : sizeB Try.prog 22 1 = true := by kernel_rfl
theorem tf_arr_28 : arrB Try.prog 28 4 256 1 = true := by kernel_rfl
theorem tf_scal_4 : scalB Try.prog 4 = true := by kernel_rfl
theorem tf_mixed : Try.prog.follows .mixedOrders = true := by kernel_rfl

def lsets_vc (x : List CS) (K : (List CS) → Prop) : Prop :=
  (0 ≤ (x.length : Int) ∧ (32 : Int) * (x.length : Int) ≤ 281474976710656 ∧ (x.length : Int) ≤ 9223372036854775807) ∧
  ∃ (Inv : Int → (List CS) → Prop) (mu : Int → (List CS) → Nat),
    Inv 0 (List.replicate (x.length : Int).toNat cs0) ∧ ∀ (i_1' : Int) (l_1' : List CS), Inv i_1' l_1' →
      (if (decide (i_1' < (x.length : Int))) = true then
        (0 ≤ i_1' ∧ i_1' < (x.length : Int)) ∧
        (0 ≤ i_1' ∧ i_1' < (l_1'.length : Int)) ∧
        (I64 (i_1' + 1)) ∧
        Inv (i_1' + 1) (l_1'.set ((i_1').toNat) (x.getD (i_1').toNat default)) ∧ mu (i_1' + 1) (l_1'.set ((i_1').toNat) (x.getD (i_1').toNat default)) < mu i_1' l_1'
      else
        K l_1')
set_option maxRecDepth 100000 in
theorem lsets_wp (w : Value) (x : List CS) (Ri1 : List (Nat × Obj)) (hRi1 : InSl w Ri1 x.length (x.flatMap wl)) (K : (List CS) → Prop) (h : lsets_vc x K) :
    Does Try.prog 24 [w] (Ri1 ++ []) [] (fun o => (∃ (w_2' : Value) (v : List CS), K v ∧ o = .ret (w_2') [HA.row w_2' 26 4 v.length (v.flatMap wl)]) ∨ (False)) := by
  unfold lsets_vc at h
  refine does_of_wc (n := 22) (L0 := [(0, w)]) Try.func24 rfl rfl rfl rfl (fun w0 M Q hE => ?_)
  have hi1 : LIn ⟨22, [], w0, M, (Ri1 ++ [])⟩ w x.length (x.flatMap wl) := LIn.mk hRi1 (fun p hp => by simp [hp])
  refine wc_seq (fun K0 hK => ?_)
  refine wc_region ?_
  refine WL.val (OV.assign rfl) rfl rfl rfl ?_
  refine WL.nilRow 26 4 wl ?_
  refine WL.nil ?_
  refine KX.go (hK [(0, w)] _ ?_) ⟨rfl, trivial⟩
  refine wc_seq (fun K0_1' hK_1' => ?_)
  refine wc_region ?_
  refine WL.val (OV.move rfl) rfl rfl rfl ?_
  refine WL.val (OV.lenIn hi1 rfl tf_sl_41) rfl rfl rfl ?_
  obtain ⟨o, h⟩ := h
  refine WL.makeRow (zero := cs0) rfl rfl tf_sl_46 tf_info_26 o wl rfl wl_len rfl rfl (fun w_1' => ?_)
  refine WL.val (OV.assign rfl) rfl rfl rfl ?_
  refine WL.nil ?_
  refine KX.go (hK_1' [(0, w), (3, w_1')] _ ?_) ⟨rfl, rfl, trivial⟩
  refine wc_seq (fun K0_2' hK_2' => ?_)
  refine wc_seq (fun K0_3' hK_3' => ?_)
  refine wc_region ?_
  refine WL.val (OV.assign rfl) rfl rfl rfl ?_
  refine WL.nil ?_
  refine KX.go (hK_3' [(0, w), (3, w_1'), (4, Value.int .i64 0)] _ ?_) ⟨rfl, rfl, rfl, trivial⟩
  refine wc_block ?_
  refine WC.pick (H' := [HA.row w_1' 26 4 (List.replicate (x.length : Int).toNat cs0).length ((List.replicate (x.length : Int).toNat cs0).flatMap wl)]) [0] rfl rfl ?_
  obtain ⟨Inv, mu, h0, hr⟩ := h
  refine wc_loop (S := Int × (List CS)) (fun σ => Inv σ.1 σ.2) (fun σ => mu σ.1 σ.2) (fun σ => [(0, w), (3, w_1'), (4, Value.int .i64 σ.1)]) (fun σ => [HA.row w_1' 26 4 σ.2.length (σ.2.flatMap wl)]) (0, List.replicate (x.length : Int).toNat cs0) h0 ⟨rfl, rfl, rfl, trivial⟩ rfl ?_
  rintro ⟨i_1', l_1'⟩ hi K0_10' hK_10'
  have h := hr i_1' l_1' hi
  show WC _ _ _ _ [(0, w), (3, w_1'), (4, Value.int .i64 i_1')] [HA.row w_1' 26 4 l_1'.length (l_1'.flatMap wl)]
  refine wc_seq (fun K0_11' hK_11' => ?_)
  refine wc_seq (fun K0_12' hK_12' => ?_)
  refine wc_region ?_
  refine WL.val (OV.move rfl) rfl rfl rfl ?_
  refine WL.val (OV.move rfl) rfl rfl rfl ?_
  refine WL.val (OV.lenIn hi1 rfl tf_sl_41) rfl rfl rfl ?_
  refine WL.val (OV.lss rfl rfl) rfl rfl rfl ?_
  refine WL.nil ?_
  refine KX.go (hK_12' [(0, w), (3, w_1'), (4, Value.int .i64 i_1'), (11, Value.bool (decide (i_1' < (x.length : Int))))] _ ?_) ⟨rfl, rfl, rfl, rfl, trivial⟩
  refine wc_cond (b := decide (i_1' < (x.length : Int))) rfl (fun hb => ?_) (fun hb => ?_)
  · replace h := if_T h hb
    refine wc_skip ?_
    refine KX.go (hK_11' [(0, w), (3, w_1'), (4, Value.int .i64 i_1')] _ ?_) ⟨rfl, rfl, rfl, trivial⟩
    refine wc_seq (fun K0_13' hK_13' => ?_)
    refine wc_block ?_
    refine wc_region ?_
    refine WL.val (OV.move rfl) rfl rfl rfl ?_
    refine WL.val (OV.move rfl) rfl rfl rfl ?_
    refine WL.val (OV.move rfl) rfl rfl rfl ?_
    refine WL.val (OV.move rfl) rfl rfl rfl ?_
    obtain ⟨o_6', h⟩ := h
    refine WL.val (OV.indexIn hi1 rfl rfl tf_sl_41 o_6') rfl rfl rfl ?_
    refine WL.val (OV.loadInE (f := wl) hi1 rfl wl_len (by decide) (by omega) tf_row_23) rfl rfl rfl ?_
    obtain ⟨o_7', h⟩ := h
    refine WL.val (OV.indexRow 0 rfl rfl rfl tf_sl_46 o_7') rfl rfl rfl ?_
    refine WL.storeE (f := wl) (z := (x.getD (i_1').toNat default)) 0 rfl rfl rfl wl_len (by decide) (by omega) rfl tf_size_26 (wl_one (x.getD (i_1').toNat default)) rfl ?_
    refine WL.nil ?_
    refine KX.go (hK_13' [(0, w), (3, w_1'), (4, Value.int .i64 i_1')] _ ?_) ⟨rfl, rfl, rfl, trivial⟩
    refine wc_region ?_
    refine WL.val (OV.move rfl) rfl rfl rfl ?_
    obtain ⟨o_8', h⟩ := h
    refine WL.val (OV.add rfl rfl o_8') rfl rfl rfl ?_
    refine WL.val (OV.assign rfl) rfl rfl rfl ?_
    refine WL.nil ?_
    exact KX.goH (hK_10' (i_1' + 1, l_1'.set ((i_1').toNat) (x.getD (i_1').toNat default)) h.1 h.2) ⟨rfl, rfl, rfl, trivial⟩ [0] rfl rfl
  · replace h := if_F h hb
    refine wc_exit ?_
    refine KX.go (hK_2' [(3, w_1')] _ ?_) ⟨rfl, trivial⟩
    refine wc_seq (fun K0_14' hK_14' => ?_)
    refine wc_region ?_
    refine WL.val (OV.move rfl) rfl rfl rfl ?_
    refine WL.val (OV.assign rfl) rfl rfl rfl ?_
    refine WL.nil ?_
    refine KX.go (hK_14' [(2, w_1')] _ ?_) ⟨rfl, trivial⟩
    refine wc_ret ?_
    exact hE.ret [0] rfl rfl (.inl ⟨_, _, h, rfl⟩) (ResV.of1 rfl (RV.tmp rfl))

def lplain_vc (a : List CS) (K : (List CS) → Prop) : Prop :=
  (0 ≤ (a.length : Int) ∧ (32 : Int) * (a.length : Int) ≤ 281474976710656 ∧ (a.length : Int) ≤ 9223372036854775807) ∧
  ∃ (Inv : Int → (List CS) → Prop) (mu : Int → (List CS) → Nat),
    Inv 0 (List.replicate (a.length : Int).toNat cs0) ∧ ∀ (i_1' : Int) (l_1' : List CS), Inv i_1' l_1' →
      (if (decide (i_1' < (a.length : Int))) = true then
        (0 ≤ i_1' ∧ i_1' < (a.length : Int)) ∧
        (0 ≤ i_1' ∧ i_1' < (l_1'.length : Int)) ∧
        (I64 (i_1' + 1)) ∧
        Inv (i_1' + 1) (l_1'.set ((i_1').toNat) (a.getD (i_1').toNat default)) ∧ mu (i_1' + 1) (l_1'.set ((i_1').toNat) (a.getD (i_1').toNat default)) < mu i_1' l_1'
      else
        K l_1')
set_option maxRecDepth 100000 in
theorem lplain_wp (w : Value) (a : List CS) (Ri1 : List (Nat × Obj)) (hRi1 : InSl w Ri1 a.length (a.flatMap wl)) (K : (List CS) → Prop) (h : lplain_vc a K) :
    Does Try.prog 27 [w] (Ri1 ++ []) [] (fun o => (∃ (w_2' : Value) (v : List CS), K v ∧ o = .ret (w_2') [HA.row w_2' 23 4 v.length (v.flatMap wl)]) ∨ (False)) := by
  unfold lplain_vc at h
  refine does_of_wc (n := 22) (L0 := [(0, w)]) Try.func27 rfl rfl rfl rfl (fun w0 M Q hE => ?_)
  have hi1 : LIn ⟨22, [], w0, M, (Ri1 ++ [])⟩ w a.length (a.flatMap wl) := LIn.mk hRi1 (fun p hp => by simp [hp])
  refine wc_seq (fun K0 hK => ?_)
  refine wc_region ?_
  refine WL.val (OV.assign rfl) rfl rfl rfl ?_
  refine WL.nilRow 23 4 wl ?_
  refine WL.nil ?_
  refine KX.go (hK [(0, w)] _ ?_) ⟨rfl, trivial⟩
  refine wc_seq (fun K0_1' hK_1' => ?_)
  refine wc_region ?_
  refine WL.val (OV.move rfl) rfl rfl rfl ?_
  refine WL.val (OV.lenIn hi1 rfl tf_sl_46) rfl rfl rfl ?_
  obtain ⟨o, h⟩ := h
  refine WL.makeRow (zero := cs0) rfl rfl tf_sl_41 tf_info_23 o wl rfl wl_len rfl rfl (fun w_1' => ?_)
  refine WL.val (OV.assign rfl) rfl rfl rfl ?_
  refine WL.nil ?_
  refine KX.go (hK_1' [(0, w), (3, w_1')] _ ?_) ⟨rfl, rfl, trivial⟩
  refine wc_seq (fun K0_2' hK_2' => ?_)
  refine wc_seq (fun K0_3' hK_3' => ?_)
  refine wc_region ?_
  refine WL.val (OV.assign rfl) rfl rfl rfl ?_
  refine WL.nil ?_
  refine KX.go (hK_3' [(0, w), (3, w_1'), (4, Value.int .i64 0)] _ ?_) ⟨rfl, rfl, rfl, trivial⟩
  refine wc_block ?_
  refine WC.pick (H' := [HA.row w_1' 23 4 (List.replicate (a.length : Int).toNat cs0).length ((List.replicate (a.length : Int).toNat cs0).flatMap wl)]) [0] rfl rfl ?_
  obtain ⟨Inv, mu, h0, hr⟩ := h
  refine wc_loop (S := Int × (List CS)) (fun σ => Inv σ.1 σ.2) (fun σ => mu σ.1 σ.2) (fun σ => [(0, w), (3, w_1'), (4, Value.int .i64 σ.1)]) (fun σ => [HA.row w_1' 23 4 σ.2.length (σ.2.flatMap wl)]) (0, List.replicate (a.length : Int).toNat cs0) h0 ⟨rfl, rfl, rfl, trivial⟩ rfl ?_
  rintro ⟨i_1', l_1'⟩ hi K0_10' hK_10'
  have h := hr i_1' l_1' hi
  show WC _ _ _ _ [(0, w), (3, w_1'), (4, Value.int .i64 i_1')] [HA.row w_1' 23 4 l_1'.length (l_1'.flatMap wl)]
  refine wc_seq (fun K0_11' hK_11' => ?_)
  refine wc_seq (fun K0_12' hK_12' => ?_)
  refine wc_region ?_
  refine WL.val (OV.move rfl) rfl rfl rfl ?_
  refine WL.val (OV.move rfl) rfl rfl rfl ?_
  refine WL.val (OV.lenIn hi1 rfl tf_sl_46) rfl rfl rfl ?_
  refine WL.val (OV.lss rfl rfl) rfl rfl rfl ?_
  refine WL.nil ?_
  refine KX.go (hK_12' [(0, w), (3, w_1'), (4, Value.int .i64 i_1'), (11, Value.bool (decide (i_1' < (a.length : Int))))] _ ?_) ⟨rfl, rfl, rfl, rfl, trivial⟩
  refine wc_cond (b := decide (i_1' < (a.length : Int))) rfl (fun hb => ?_) (fun hb => ?_)
  · replace h := if_T h hb
    refine wc_skip ?_
    refine KX.go (hK_11' [(0, w), (3, w_1'), (4, Value.int .i64 i_1')] _ ?_) ⟨rfl, rfl, rfl, trivial⟩
    refine wc_seq (fun K0_13' hK_13' => ?_)
    refine wc_block ?_
    refine wc_region ?_
    refine WL.val (OV.move rfl) rfl rfl rfl ?_
    refine WL.val (OV.move rfl) rfl rfl rfl ?_
    refine WL.val (OV.move rfl) rfl rfl rfl ?_
    refine WL.val (OV.move rfl) rfl rfl rfl ?_
    obtain ⟨o_6', h⟩ := h
    refine WL.val (OV.indexIn hi1 rfl rfl tf_sl_46 o_6') rfl rfl rfl ?_
    refine WL.val (OV.loadInE (f := wl) hi1 rfl wl_len (by decide) (by omega) tf_row_26) rfl rfl rfl ?_
    obtain ⟨o_7', h⟩ := h
    refine WL.val (OV.indexRow 0 rfl rfl rfl tf_sl_41 o_7') rfl rfl rfl ?_
    refine WL.storeE (f := wl) (z := (a.getD (i_1').toNat default)) 0 rfl rfl rfl wl_len (by decide) (by omega) rfl tf_size_23 (wl_one (a.getD (i_1').toNat default)) rfl ?_
    refine WL.nil ?_
    refine KX.go (hK_13' [(0, w), (3, w_1'), (4, Value.int .i64 i_1')] _ ?_) ⟨rfl, rfl, rfl, trivial⟩
    refine wc_region ?_
    refine WL.val (OV.move rfl) rfl rfl rfl ?_
    obtain ⟨o_8', h⟩ := h
    refine WL.val (OV.add rfl rfl o_8') rfl rfl rfl ?_
    refine WL.val (OV.assign rfl) rfl rfl rfl ?_
    refine WL.nil ?_
    exact KX.goH (hK_10' (i_1' + 1, l_1'.set ((i_1').toNat) (a.getD (i_1').toNat default)) h.1 h.2) ⟨rfl, rfl, rfl, trivial⟩ [0] rfl rfl
  · replace h := if_F h hb
    refine wc_exit ?_
    refine KX.go (hK_2' [(3, w_1')] _ ?_) ⟨rfl, trivial⟩
    refine wc_seq (fun K0_14' hK_14' => ?_)
    refine wc_region ?_
    refine WL.val (OV.move rfl) rfl rfl rfl ?_
    refine WL.val (OV.assign rfl) rfl rfl rfl ?_
    refine WL.nil ?_
    refine KX.go (hK_14' [(2, w_1')] _ ?_) ⟨rfl, trivial⟩
    refine wc_ret ?_
    exact hE.ret [0] rfl rfl (.inl ⟨_, _, h, rfl⟩) (ResV.of1 rfl (RV.tmp rfl))

def lmarked_vc (x : List CS) (K : (List CS) → Prop) : Prop :=
  (0 ≤ (x.length : Int) ∧ (256 : Int) * (x.length : Int) ≤ 281474976710656 ∧ (x.length : Int) ≤ 9223372036854775807) ∧
  ∃ (Inv : Int → (List CS) → Prop) (mu : Int → (List CS) → Nat),
    Inv 0 (List.replicate (x.length : Int).toNat cs0) ∧ ∀ (i_1' : Int) (l_1' : List CS), Inv i_1' l_1' →
      (if (decide (i_1' < (x.length : Int))) = true then
        (0 ≤ i_1' ∧ i_1' < (x.length : Int)) ∧
        (0 ≤ i_1' ∧ i_1' < (l_1'.length : Int)) ∧
        (I64 (i_1' + 1)) ∧
        Inv (i_1' + 1) (l_1'.set ((i_1').toNat) (x.getD (i_1').toNat default)) ∧ mu (i_1' + 1) (l_1'.set ((i_1').toNat) (x.getD (i_1').toNat default)) < mu i_1' l_1'
      else
        K l_1')
set_option maxRecDepth 100000 in
theorem lmarked_wp (w : Value) (x : List CS) (Ri1 : List (Nat × Obj)) (hRi1 : InSl w Ri1 x.length (x.flatMap wl)) (K : (List CS) → Prop) (h : lmarked_vc x K) :
    Does Try.prog 22 [w] (Ri1 ++ []) [] (fun o => (∃ (w_2' : Value) (v : List CS), K v ∧ o = .ret (w_2') [HA.row w_2' 28 256 v.length (v.flatMap rfC)]) ∨ (False)) := by
  unfold lmarked_vc at h
  refine does_of_wc (n := 23) (L0 := [(0, w)]) Try.func22 rfl rfl rfl rfl (fun w0 M Q hE => ?_)
  have hi1 : LIn ⟨23, [], w0, M, (Ri1 ++ [])⟩ w x.length (x.flatMap wl) := LIn.mk hRi1 (fun p hp => by simp [hp])
  refine wc_seq (fun K0 hK => ?_)
  refine wc_region ?_
  refine WL.val (OV.assign rfl) rfl rfl rfl ?_
  refine WL.nilRow 28 256 rfC ?_
  refine WL.nil ?_
  refine KX.go (hK [(0, w)] _ ?_) ⟨rfl, trivial⟩
  refine wc_seq (fun K0_1' hK_1' => ?_)
  refine wc_region ?_
  refine WL.val (OV.move rfl) rfl rfl rfl ?_
  refine WL.val (OV.lenIn hi1 rfl tf_sl_41) rfl rfl rfl ?_
  obtain ⟨o, h⟩ := h
  refine WL.makeRow (zero := cs0) rfl rfl tf_sl_42 tf_info_28 o rfC rfl rfC_len rfl rfl (fun w_1' => ?_)
  refine WL.val (OV.assign rfl) rfl rfl rfl ?_
  refine WL.nil ?_
  refine KX.go (hK_1' [(0, w), (3, w_1')] _ ?_) ⟨rfl, rfl, trivial⟩
  refine wc_seq (fun K0_2' hK_2' => ?_)
  refine wc_seq (fun K0_3' hK_3' => ?_)
  refine wc_region ?_
  refine WL.val (OV.assign rfl) rfl rfl rfl ?_
  refine WL.nil ?_
  refine KX.go (hK_3' [(0, w), (3, w_1'), (4, Value.int .i64 0)] _ ?_) ⟨rfl, rfl, rfl, trivial⟩
  refine wc_block ?_
  refine WC.pick (H' := [HA.row w_1' 28 256 (List.replicate (x.length : Int).toNat cs0).length ((List.replicate (x.length : Int).toNat cs0).flatMap rfC)]) [0] rfl rfl ?_
  obtain ⟨Inv, mu, h0, hr⟩ := h
  refine wc_loop (S := Int × (List CS)) (fun σ => Inv σ.1 σ.2) (fun σ => mu σ.1 σ.2) (fun σ => [(0, w), (3, w_1'), (4, Value.int .i64 σ.1)]) (fun σ => [HA.row w_1' 28 256 σ.2.length (σ.2.flatMap rfC)]) (0, List.replicate (x.length : Int).toNat cs0) h0 ⟨rfl, rfl, rfl, trivial⟩ rfl ?_
  rintro ⟨i_1', l_1'⟩ hi K0_10' hK_10'
  have h := hr i_1' l_1' hi
  show WC _ _ _ _ [(0, w), (3, w_1'), (4, Value.int .i64 i_1')] [HA.row w_1' 28 256 l_1'.length (l_1'.flatMap rfC)]
  refine wc_seq (fun K0_11' hK_11' => ?_)
  refine wc_seq (fun K0_12' hK_12' => ?_)
  refine wc_region ?_
  refine WL.val (OV.move rfl) rfl rfl rfl ?_
  refine WL.val (OV.move rfl) rfl rfl rfl ?_
  refine WL.val (OV.lenIn hi1 rfl tf_sl_41) rfl rfl rfl ?_
  refine WL.val (OV.lss rfl rfl) rfl rfl rfl ?_
  refine WL.nil ?_
  refine KX.go (hK_12' [(0, w), (3, w_1'), (4, Value.int .i64 i_1'), (11, Value.bool (decide (i_1' < (x.length : Int))))] _ ?_) ⟨rfl, rfl, rfl, rfl, trivial⟩
  refine wc_cond (b := decide (i_1' < (x.length : Int))) rfl (fun hb => ?_) (fun hb => ?_)
  · replace h := if_T h hb
    refine wc_skip ?_
    refine KX.go (hK_11' [(0, w), (3, w_1'), (4, Value.int .i64 i_1')] _ ?_) ⟨rfl, rfl, rfl, trivial⟩
    refine wc_seq (fun K0_13' hK_13' => ?_)
    refine wc_block ?_
    refine wc_region ?_
    refine WL.val (OV.move rfl) rfl rfl rfl ?_
    refine WL.val (OV.move rfl) rfl rfl rfl ?_
    refine WL.val (OV.move rfl) rfl rfl rfl ?_
    refine WL.val (OV.move rfl) rfl rfl rfl ?_
    obtain ⟨o_6', h⟩ := h
    refine WL.val (OV.indexIn hi1 rfl rfl tf_sl_41 o_6') rfl rfl rfl ?_
    refine WL.val (OV.loadInE (f := wl) hi1 rfl wl_len (by decide) (by omega) tf_row_23) rfl rfl rfl ?_
    refine WL.call (A := []) tf_ent_10 rfl (from_does (x.getD (i_1').toNat default)) rfl trivial rfl rfl ?_
    obtain ⟨o_7', h⟩ := h
    refine WL.val (OV.indexRow 0 rfl rfl rfl tf_sl_42 o_7') rfl rfl rfl ?_
    refine WL.storeE (f := rfC) (z := (x.getD (i_1').toNat default)) 0 rfl rfl rfl rfC_len (by decide) (by omega) rfl tf_size_28 (rfC_one (x.getD (i_1').toNat default)) rfl ?_
    refine WL.nil ?_
    refine KX.go (hK_13' [(0, w), (3, w_1'), (4, Value.int .i64 i_1')] _ ?_) ⟨rfl, rfl, rfl, trivial⟩
    refine wc_region ?_
    refine WL.val (OV.move rfl) rfl rfl rfl ?_
    obtain ⟨o_8', h⟩ := h
    refine WL.val (OV.add rfl rfl o_8') rfl rfl rfl ?_
    refine WL.val (OV.assign rfl) rfl rfl rfl ?_
    refine WL.nil ?_
    exact KX.goH (hK_10' (i_1' + 1, l_1'.set ((i_1').toNat) (x.getD (i_1').toNat default)) h.1 h.2) ⟨rfl, rfl, rfl, trivial⟩ [0] rfl rfl
  · replace h := if_F h hb
    refine wc_exit ?_
    refine KX.go (hK_2' [(3, w_1')] _ ?_) ⟨rfl, trivial⟩
    refine wc_seq (fun K0_14' hK_14' => ?_)
    refine wc_region ?_
    refine WL.val (OV.move rfl) rfl rfl rfl ?_
    refine WL.val (OV.assign rfl) rfl rfl rfl ?_
    refine WL.nil ?_
    refine KX.go (hK_14' [(2, w_1')] _ ?_) ⟨rfl, trivial⟩
    refine wc_ret ?_
    exact hE.ret [0] rfl rfl (.inl ⟨_, _, h, rfl⟩) (ResV.of1 rfl (RV.tmp rfl))

def words_vc (s : Nat → Bool) (K : (Nat → Int) → Prop) : Prop :=
  ∃ (Inv : Int → (Nat → Int) → Prop) (mu : Int → (Nat → Int) → Nat),
    Inv 255 (fun _ => 0) ∧ ∀ (b_4' : Int) (w_3' : Nat → Int), Inv b_4' w_3' →
      (if (decide (0 ≤ b_4')) = true then
        ∃ (J0_2' : (Nat → Int) → Prop),
          (∀ (w_4' : Nat → Int), J0_2' w_4' →
            (I64 (b_4' - 1)) ∧
            Inv (b_4' - 1) w_4' ∧ mu (b_4' - 1) w_4' < mu b_4' w_3') ∧
          (0 ≤ b_4' ∧ b_4' ≤ 9223372036854775807 ∧ 0 < (64 : Int)) ∧
          (0 ≤ b_4' ∧ b_4' ≤ 9223372036854775807 ∧ 0 < (64 : Int)) ∧
          (0 ≤ b_4' / 64 ∧ b_4' / 64 < 4) ∧
          (0 ≤ b_4' / 64 ∧ b_4' / 64 < 4) ∧
          (0 ≤ b_4' ∧ b_4' < 256) ∧
          (if (s ((b_4').toNat)) = true then
            (0 ≤ b_4' ∧ b_4' ≤ 9223372036854775807 ∧ 0 < (64 : Int)) ∧
            (0 ≤ b_4' / 64 ∧ b_4' / 64 < 4) ∧
            (0 ≤ b_4' / 64 ∧ b_4' / 64 < 4) ∧
            J0_2' (fun j => if j = (b_4' / 64).toNat then IntKind.wrap .u64 (((fun j => if j = (b_4' / 64).toNat then IntKind.wrap .u64 ((w_3' ((b_4' / 64).toNat)) * 2) else w_3' j) ((b_4' / 64).toNat)) + 1) else (fun j => if j = (b_4' / 64).toNat then IntKind.wrap .u64 ((w_3' ((b_4' / 64).toNat)) * 2) else w_3' j) j)
          else
            J0_2' (fun j => if j = (b_4' / 64).toNat then IntKind.wrap .u64 ((w_3' ((b_4' / 64).toNat)) * 2) else w_3' j))
      else
        K w_3')
set_option maxRecDepth 100000 in
theorem words_wp  (s : Nat → Bool) (K : (Nat → Int) → Prop) (h : words_vc s K) :
    Does Try.prog 23 [Value.agg (arr 256 (fun j => Value.bool (s j))).toArray] [] [] (fun o => (∃ (v : Nat → Int), K v ∧ o = .ret (Value.agg (arr 4 (fun j => Value.int .u64 (v j))).toArray) []) ∨ (False)) := by
  unfold words_vc at h
  refine does_of_wc (n := 27) (L0 := [(0, Value.agg (arr 256 (fun j => Value.bool (s j))).toArray)]) Try.func23 rfl rfl rfl rfl (fun w0 M Q hE => ?_)
  refine wc_seq (fun K0 hK => ?_)
  refine wc_region ?_
  refine WL.make (MV.box (cs := arr 256 (fun j => Value.bool (s j))) rfl rfl) rfl rfl rfl (fun b => ?_)
  refine WL.make (MV.alloc tf_zero_23a) rfl rfl rfl (fun b_1' => ?_)
  refine WL.nil ?_
  refine KX.go (hK [(1, Value.pointer (some ⟨b, 0, none⟩)), (2, Value.pointer (some ⟨b_1', 0, none⟩))] _ ?_) ⟨rfl, rfl, trivial⟩
  refine wc_seq (fun K0_1' hK_1' => ?_)
  refine wc_region ?_
  refine WL.make (MV.alloc tf_zero_23a) rfl rfl rfl (fun b_2' => ?_)
  refine WL.nil ?_
  refine KX.go (hK_1' [(1, Value.pointer (some ⟨b, 0, none⟩)), (2, Value.pointer (some ⟨b_1', 0, none⟩)), (3, Value.pointer (some ⟨b_2', 0, none⟩))] _ ?_) ⟨rfl, rfl, rfl, trivial⟩
  refine wc_seq (fun K0_2' hK_2' => ?_)
  refine wc_seq (fun K0_3' hK_3' => ?_)
  refine wc_region ?_
  refine WL.val (OV.assign rfl) rfl rfl rfl ?_
  refine WL.nil ?_
  refine KX.go (hK_3' [(1, Value.pointer (some ⟨b, 0, none⟩)), (2, Value.pointer (some ⟨b_1', 0, none⟩)), (3, Value.pointer (some ⟨b_2', 0, none⟩)), (4, Value.int .i64 255)] _ ?_) ⟨rfl, rfl, rfl, rfl, trivial⟩
  refine wc_block ?_
  obtain ⟨Inv, mu, h0, hr⟩ := h
  refine wc_loop (S := Int × (Nat → Int)) (fun σ => Inv σ.1 σ.2) (fun σ => mu σ.1 σ.2) (fun σ => [(1, Value.pointer (some ⟨b, 0, none⟩)), (2, Value.pointer (some ⟨b_1', 0, none⟩)), (3, Value.pointer (some ⟨b_2', 0, none⟩)), (4, Value.int .i64 σ.1)]) (fun σ => [HA.blk b_2' (.cells (arr 4 (fun j => Value.int .u64 (σ.2 j))).toArray 23 (0, 0)), HA.blk b_1' (.cells (arr 4 (fun j => Value.int .u64 ((fun _ => 0) j))).toArray 23 (0, 0)), HA.blk b (.cells (arr 256 (fun j => Value.bool (s j))).toArray 28 (0, 0))]) (255, fun _ => 0) h0 ⟨rfl, rfl, rfl, rfl, trivial⟩ rfl ?_
  rintro ⟨b_4', w_3'⟩ hi K0_18' hK_18'
  have h := hr b_4' w_3' hi
  show WC _ _ _ _ [(1, Value.pointer (some ⟨b, 0, none⟩)), (2, Value.pointer (some ⟨b_1', 0, none⟩)), (3, Value.pointer (some ⟨b_2', 0, none⟩)), (4, Value.int .i64 b_4')] [HA.blk b_2' (.cells (arr 4 (fun j => Value.int .u64 (w_3' j))).toArray 23 (0, 0)), HA.blk b_1' (.cells (arr 4 (fun j => Value.int .u64 ((fun _ => 0) j))).toArray 23 (0, 0)), HA.blk b (.cells (arr 256 (fun j => Value.bool (s j))).toArray 28 (0, 0))]
  refine wc_seq (fun K0_19' hK_19' => ?_)
  refine wc_seq (fun K0_20' hK_20' => ?_)
  refine wc_region ?_
  refine WL.val (OV.move rfl) rfl rfl rfl ?_
  refine WL.val (OV.geq rfl rfl) rfl rfl rfl ?_
  refine WL.nil ?_
  refine KX.go (hK_20' [(1, Value.pointer (some ⟨b, 0, none⟩)), (2, Value.pointer (some ⟨b_1', 0, none⟩)), (3, Value.pointer (some ⟨b_2', 0, none⟩)), (4, Value.int .i64 b_4'), (6, Value.bool (decide (0 ≤ b_4')))] _ ?_) ⟨rfl, rfl, rfl, rfl, rfl, trivial⟩
  refine wc_cond (b := decide (0 ≤ b_4')) rfl (fun hb => ?_) (fun hb => ?_)
  · replace h := if_T h hb
    refine wc_skip ?_
    refine KX.go (hK_19' [(1, Value.pointer (some ⟨b, 0, none⟩)), (2, Value.pointer (some ⟨b_1', 0, none⟩)), (3, Value.pointer (some ⟨b_2', 0, none⟩)), (4, Value.int .i64 b_4')] _ ?_) ⟨rfl, rfl, rfl, rfl, trivial⟩
    obtain ⟨J0_2', hJ_2', h⟩ := h
    refine wc_seqJ (X := (Nat → Int)) (fun σ => J0_2' σ) (fun σ => [(1, Value.pointer (some ⟨b, 0, none⟩)), (2, Value.pointer (some ⟨b_1', 0, none⟩)), (3, Value.pointer (some ⟨b_2', 0, none⟩)), (4, Value.int .i64 b_4')]) (fun σ => [HA.blk b_2' (.cells (arr 4 (fun j => Value.int .u64 (σ j))).toArray 23 (0, 0)), HA.blk b_1' (.cells (arr 4 (fun j => Value.int .u64 ((fun _ => 0) j))).toArray 23 (0, 0)), HA.blk b (.cells (arr 256 (fun j => Value.bool (s j))).toArray 28 (0, 0))]) ?_ (fun K0_23' hK_23' => ?_)
    · rintro w_4' hj
      replace h := hJ_2' w_4' hj
      show WC _ _ _ _ [(1, Value.pointer (some ⟨b, 0, none⟩)), (2, Value.pointer (some ⟨b_1', 0, none⟩)), (3, Value.pointer (some ⟨b_2', 0, none⟩)), (4, Value.int .i64 b_4')] [HA.blk b_2' (.cells (arr 4 (fun j => Value.int .u64 (w_4' j))).toArray 23 (0, 0)), HA.blk b_1' (.cells (arr 4 (fun j => Value.int .u64 ((fun _ => 0) j))).toArray 23 (0, 0)), HA.blk b (.cells (arr 256 (fun j => Value.bool (s j))).toArray 28 (0, 0))]
      refine wc_region ?_
      refine WL.val (OV.move rfl) rfl rfl rfl ?_
      obtain ⟨o_39', h⟩ := h
      refine WL.val (OV.sub rfl rfl o_39') rfl rfl rfl ?_
      refine WL.val (OV.assign rfl) rfl rfl rfl ?_
      refine WL.nil ?_
      exact KX.goH (hK_18' (b_4' - 1, w_4') h.1 h.2) ⟨rfl, rfl, rfl, rfl, trivial⟩ [0, 1, 2] rfl rfl
    · skip
      refine wc_block ?_
      refine wc_seq (fun K0_24' hK_24' => ?_)
      refine wc_region ?_
      refine WL.val (OV.move rfl) rfl rfl rfl ?_
      obtain ⟨o_40', h⟩ := h
      refine WL.val (OV.quo rfl rfl o_40') rfl rfl rfl ?_
      refine WL.val (OV.move rfl) rfl rfl rfl ?_
      obtain ⟨o_41', h⟩ := h
      refine WL.val (OV.quo rfl rfl o_41') rfl rfl rfl ?_
      obtain ⟨o_42', h⟩ := h
      refine WL.val (OV.indexAddr1 rfl rfl tf_arr_23 o_42') rfl rfl rfl ?_
      refine WL.val (OV.load rfl (At.own 0 rfl) (arr_get (by first | omega | assumption)) tf_scal_22) rfl rfl rfl ?_
      refine WL.val (OV.mulW rfl rfl) rfl rfl rfl ?_
      obtain ⟨o_43', h⟩ := h
      refine WL.val (OV.indexAddr1 rfl rfl tf_arr_23 o_43') rfl rfl rfl ?_
      refine WL.storeA' (f' := fun j => Value.int .u64 (if j = (b_4' / 64).toNat then IntKind.wrap .u64 ((w_3' ((b_4' / 64).toNat)) * 2) else w_3' j)) 0 rfl rfl rfl rfl tf_size_22 (by first | decide | omega) rfl rfl (fun j => by by_cases hj : j = (b_4' / 64).toNat <;> simp [hj]) ?_
      refine WL.nil ?_
      refine KX.go (hK_24' [(1, Value.pointer (some ⟨b, 0, none⟩)), (2, Value.pointer (some ⟨b_1', 0, none⟩)), (3, Value.pointer (some ⟨b_2', 0, none⟩)), (4, Value.int .i64 b_4')] _ ?_) ⟨rfl, rfl, rfl, rfl, trivial⟩
      refine wc_seq (fun K0_25' hK_25' => ?_)
      refine wc_region ?_
      refine WL.val (OV.move rfl) rfl rfl rfl ?_
      obtain ⟨o_44', h⟩ := h
      refine WL.val (OV.indexAddr1 rfl rfl tf_arr_28 o_44') rfl rfl rfl ?_
      refine WL.val (OV.load rfl (At.own 2 rfl) (arr_get (by first | omega | assumption)) tf_scal_4) rfl rfl rfl ?_
      refine WL.nil ?_
      refine KX.go (hK_25' [(1, Value.pointer (some ⟨b, 0, none⟩)), (2, Value.pointer (some ⟨b_1', 0, none⟩)), (3, Value.pointer (some ⟨b_2', 0, none⟩)), (4, Value.int .i64 b_4'), (19, Value.bool (s ((b_4').toNat)))] _ ?_) ⟨rfl, rfl, rfl, rfl, rfl, trivial⟩
      refine wc_cond (b := s ((b_4').toNat)) rfl (fun hb => ?_) (fun hb => ?_)
      · replace h := if_T h hb
        refine wc_region ?_
        refine WL.val (OV.move rfl) rfl rfl rfl ?_
        obtain ⟨o_45', h⟩ := h
        refine WL.val (OV.quo rfl rfl o_45') rfl rfl rfl ?_
        obtain ⟨o_46', h⟩ := h
        refine WL.val (OV.indexAddr1 rfl rfl tf_arr_23 o_46') rfl rfl rfl ?_
        refine WL.val (OV.load rfl (At.own 0 rfl) (arr_get (by first | omega | assumption)) tf_scal_22) rfl rfl rfl ?_
        refine WL.val (OV.addW rfl rfl) rfl rfl rfl ?_
        obtain ⟨o_47', h⟩ := h
        refine WL.val (OV.indexAddr1 rfl rfl tf_arr_23 o_47') rfl rfl rfl ?_
        refine WL.storeA' (f' := fun j => Value.int .u64 (if j = (b_4' / 64).toNat then IntKind.wrap .u64 (((fun j => if j = (b_4' / 64).toNat then IntKind.wrap .u64 ((w_3' ((b_4' / 64).toNat)) * 2) else w_3' j) ((b_4' / 64).toNat)) + 1) else (fun j => if j = (b_4' / 64).toNat then IntKind.wrap .u64 ((w_3' ((b_4' / 64).toNat)) * 2) else w_3' j) j)) 0 rfl rfl rfl rfl tf_size_22 (by first | decide | omega) rfl rfl (fun j => by by_cases hj : j = (b_4' / 64).toNat <;> simp [hj]) ?_
        refine WL.nil ?_
        exact KX.goH (hK_23' (fun j => if j = (b_4' / 64).toNat then IntKind.wrap .u64 (((fun j => if j = (b_4' / 64).toNat then IntKind.wrap .u64 ((w_3' ((b_4' / 64).toNat)) * 2) else w_3' j) ((b_4' / 64).toNat)) + 1) else (fun j => if j = (b_4' / 64).toNat then IntKind.wrap .u64 ((w_3' ((b_4' / 64).toNat)) * 2) else w_3' j) j) h) ⟨rfl, rfl, rfl, rfl, trivial⟩ [0, 1, 2] rfl rfl
      · replace h := if_F h hb
        refine wc_skip ?_
        exact KX.goH (hK_23' (fun j => if j = (b_4' / 64).toNat then IntKind.wrap .u64 ((w_3' ((b_4' / 64).toNat)) * 2) else w_3' j) h) ⟨rfl, rfl, rfl, rfl, trivial⟩ [0, 1, 2] rfl rfl
  · replace h := if_F h hb
    refine wc_exit ?_
    refine KX.go (hK_2' [(2, Value.pointer (some ⟨b_1', 0, none⟩)), (3, Value.pointer (some ⟨b_2', 0, none⟩))] _ ?_) ⟨rfl, rfl, trivial⟩
    refine wc_seq (fun K0_26' hK_26' => ?_)
    refine wc_region ?_
    refine WL.val (OV.loadR rfl (At.own 0 rfl) (by rw [arr_length]; exact tf_row_23)) rfl rfl rfl ?_
    refine WL.storeW (vs := arr 4 (fun j => Value.int .u64 (w_3' j))) 1 rfl rfl rfl rfl (arr_length _ _) tf_size_23 ((arr_length _ _).trans (arr_length _ _).symm) (arr_one _ _ (fun _ => rfl)) rfl ?_
    refine WL.nil ?_
    refine KX.go (hK_26' [(2, Value.pointer (some ⟨b_1', 0, none⟩))] _ ?_) ⟨rfl, trivial⟩
    refine wc_ret ?_
    exact hE.ret [] rfl rfl (.inl ⟨_, h, rfl⟩) (ResV.of1 rfl (RV.row rfl (At.own 1 rfl) (by rw [arr_length]; exact tf_row_23)))

/-- A word by its bits from the top down: after k of them. -/
def hv (f : Nat → Bool) (j : Nat) : Nat → Nat
  | 0 => 0
  | k + 1 => 2 * hv f j k + (f (64 * j + (63 - k))).toNat
theorem hv_lt (f : Nat → Bool) (j : Nat) : ∀ k, hv f j k < 2 ^ k
  | 0 => by simp [hv]
  | k + 1 => by
    have := hv_lt f j k
    have h2 : (f (64 * j + (63 - k))).toNat ≤ 1 := Bool.toNat_le _
    rw [hv, Nat.pow_succ]; omega
theorem hv_bit (f : Nat → Bool) (j : Nat) : ∀ k i, i < k → k ≤ 64 → (hv f j k).testBit i = f (64 * j + (64 - k + i))
  | 0, _, h, _ => by omega
  | k + 1, 0, _, h => by
    rw [hv, Nat.testBit_zero, show 64 * j + (64 - (k + 1) + 0) = 64 * j + (63 - k) by omega]
    cases f (64 * j + (63 - k)) <;> simp <;> omega
  | k + 1, i + 1, h, h2 => by
    rw [hv, Nat.testBit_add_one, show (2 * hv f j k + (f (64 * j + (63 - k))).toNat) / 2 = hv f j k by have : (f (64 * j + (63 - k))).toNat ≤ 1 := Bool.toNat_le _; omega, hv_bit f j k i (by omega) (by omega)]
    congr 1; omega
theorem hv_word (f : Nat → Bool) (j : Nat) (hj : j < 4) : ((hv f j 64 : Nat) : Int) = wd (mkS f) j := by
  rw [wd]
  congr 1
  refine Nat.eq_of_testBit_eq fun i => ?_
  by_cases h : i < 64
  · rw [hv_bit f j 64 i h (Nat.le_refl _), wdN_bit, mkS_bit _ _ (by omega), decide_eq_true h, Bool.true_and]
    congr 1; omega
  · rw [Nat.testBit_lt_two_pow (Nat.lt_of_lt_of_le (hv_lt f j 64) (Nat.pow_le_pow_right (by omega) (show 64 ≤ i by omega))), wdN_bit, decide_eq_false h, Bool.false_and]
theorem words_does (f : Nat → Bool) : Does Try.prog 23 [.agg (arr 256 (fun j => Value.bool (f j))).toArray] [] [] (Ret (.agg (wl (mkS f)).toArray) []) := by
  refine (words_wp f (fun w => ∀ j, j < 4 → w j = ((hv f j 64 : Nat) : Int)) ?_).weak ?_
  · unfold words_vc
    refine ⟨fun b w => -1 ≤ b ∧ b ≤ 255 ∧ ∀ j, j < 4 → w j = ((hv f j (min 64 (64 * (j : Int) + 63 - b).toNat) : Nat) : Int), fun b _ => (b + 1).toNat, ⟨by omega, by omega, fun j hj => ?_⟩, ?_⟩
    · rw [show (min 64 (64 * (j : Int) + 63 - 255).toNat) = 0 by omega]; rfl
    · rintro b w ⟨h0, h1, hw⟩
      by_cases hb : 0 ≤ b
      · rw [if_pos (by simpa using hb)]
        refine ⟨fun w' => ∀ j, j < 4 → w' j = ((hv f j (min 64 (64 * (j : Int) + 63 - (b - 1)).toNat) : Nat) : Int), fun w' h' => ⟨⟨by omega, by omega⟩, ⟨by omega, by omega, h'⟩, by show (b - 1 + 1).toNat < (b + 1).toNat; omega⟩, ⟨by omega, by omega, by omega⟩, ⟨by omega, by omega, by omega⟩, by omega, by omega, by omega, ?_⟩
        obtain ⟨q, hq⟩ : ∃ q, q = (b / 64).toNat := ⟨_, rfl⟩
        obtain ⟨k, hk⟩ : ∃ k, k = (64 * (q : Int) + 63 - b).toNat := ⟨_, rfl⟩
        have hq4 : q < 4 := by omega
        have hk64 : k < 64 := by omega
        have e1 : ∀ j, j < 4 → j ≠ q → min 64 (64 * (j : Int) + 63 - (b - 1)).toNat = min 64 (64 * (j : Int) + 63 - b).toNat := fun j hj hn => by omega
        have e2 : min 64 (64 * (q : Int) + 63 - (b - 1)).toNat = k + 1 := by omega
        have e3 : min 64 (64 * (q : Int) + 63 - b).toNat = k := by omega
        have e4 : b.toNat = 64 * q + (63 - k) := by omega
        have hlt := hv_lt f q k
        have hlt2 := hv_lt f q (k + 1)
        have hp : 2 ^ (k + 1) ≤ 2 ^ 64 := Nat.pow_le_pow_right (by omega) (by omega)
        have hp' : (2 : Nat) ^ (k + 1) = 2 ^ k * 2 := Nat.pow_succ ..
        have w0 : IntKind.wrap .u64 (w (b / 64).toNat * 2) = ((2 * hv f q k : Nat) : Int) := by
          rw [← hq, hw q hq4, e3, IntWalk.u64_in _ ⟨by omega, by omega⟩]; omega
        by_cases hf : f b.toNat = true
        · rw [if_pos hf]
          refine ⟨⟨by omega, by omega, by omega⟩, by omega, by omega, fun j hj => ?_⟩
          show (if j = (b / 64).toNat then IntKind.wrap .u64 ((if (b / 64).toNat = (b / 64).toNat then _ else _) + 1) else (if j = (b / 64).toNat then _ else _)) = _
          rw [if_pos rfl, w0, ← hq]
          by_cases e : j = q
          · subst e
            rw [if_pos rfl, e2, hv, ← e4, hf, IntWalk.u64_in _ ⟨by omega, by simp [hv, ← e4, hf] at hlt2; omega⟩]
            simp
          · rw [if_neg e, if_neg e, e1 j hj e, hw j hj]
        · rw [if_neg hf]
          intro j hj
          show (if j = (b / 64).toNat then _ else _) = _
          rw [w0, ← hq]
          by_cases e : j = q
          · subst e
            rw [if_pos rfl, e2, hv, ← e4, show f b.toNat = false by simpa using hf]; simp
          · rw [if_neg e, e1 j hj e, hw j hj]
      · rw [if_neg (by simpa using hb)]
        intro j hj
        rw [hw j hj, show min 64 (64 * (j : Int) + 63 - b).toNat = 64 by omega]
  · rintro o (⟨w, hw, rfl⟩ | h)
    · unfold Ret
      congr 2
      simp only [wl, ← hv_word f _ (by decide : 0 < 4), ← hv_word f _ (by decide : 1 < 4), ← hv_word f _ (by decide : 2 < 4), ← hv_word f _ (by decide : 3 < 4), ← hw 0 (by decide), ← hw 1 (by decide), ← hw 2 (by decide), ← hw 3 (by decide)]
      rfl
    · exact h.elim

def samew_vc (a : List CS) (b : List CS) (K : Bool → Prop) : Prop :=
  (if (!decide ((a.length : Int) = (b.length : Int))) = true then
    K false
  else
    ∃ (Inv_2' : Int → Prop) (mu_2' : Int → Nat),
      Inv_2' 0 ∧ ∀ (i_1' : Int), Inv_2' i_1' →
        (if (decide (i_1' < (a.length : Int))) = true then
          ∃ (Inv_3' : Int → Prop) (mu_3' : Int → Nat),
            Inv_3' 0 ∧ ∀ (k_5' : Int), Inv_3' k_5' →
              (if (decide (k_5' < 4)) = true then
                (0 ≤ i_1' ∧ i_1' < (a.length : Int)) ∧
                (0 ≤ k_5' ∧ k_5' < 4) ∧
                (0 ≤ i_1' ∧ i_1' < (b.length : Int)) ∧
                (0 ≤ k_5' ∧ k_5' < 4) ∧
                (if (!decide (wd (a.getD (i_1').toNat default) ((k_5').toNat) = wd (b.getD (i_1').toNat default) ((k_5').toNat))) = true then
                  K false
                else
                  (I64 (k_5' + 1)) ∧
                  Inv_3' (k_5' + 1) ∧ mu_3' (k_5' + 1) < mu_3' k_5')
              else
                (I64 (i_1' + 1)) ∧
                Inv_2' (i_1' + 1) ∧ mu_2' (i_1' + 1) < mu_2' i_1')
        else
          K true))
set_option maxRecDepth 100000 in
theorem samew_wp (w : Value) (w_1' : Value) (a : List CS) (b : List CS) (Ri1 : List (Nat × Obj)) (hRi1 : InSl w Ri1 a.length (a.flatMap wl)) (Ri2 : List (Nat × Obj)) (hRi2 : InSl w_1' Ri2 b.length (b.flatMap wl)) (K : Bool → Prop) (h : samew_vc a b K) :
    Does Try.prog 26 [w, w_1'] (Ri1 ++ (Ri2 ++ [])) [] (fun o => (∃ (v : Bool), K v ∧ o = .ret (Value.bool v) []) ∨ (False)) := by
  unfold samew_vc at h
  refine does_of_wc (n := 35) (L0 := [(0, w), (1, w_1')]) Try.func26 rfl rfl rfl rfl (fun w0 M Q hE => ?_)
  have hi1 : LIn ⟨35, [], w0, M, (Ri1 ++ (Ri2 ++ []))⟩ w a.length (a.flatMap wl) := LIn.mk hRi1 (fun p hp => by simp [hp])
  have hi2 : LIn ⟨35, [], w0, M, (Ri1 ++ (Ri2 ++ []))⟩ w_1' b.length (b.flatMap wl) := LIn.mk hRi2 (fun p hp => by simp [hp])
  refine wc_seq (fun K0 hK => ?_)
  refine wc_region ?_
  refine WL.val (OV.assign rfl) rfl rfl rfl ?_
  refine WL.nil ?_
  refine KX.go (hK [(0, w), (1, w_1')] _ ?_) ⟨rfl, rfl, trivial⟩
  refine wc_seq (fun K0_1' hK_1' => ?_)
  refine wc_seq (fun K0_2' hK_2' => ?_)
  refine wc_region ?_
  refine WL.val (OV.move rfl) rfl rfl rfl ?_
  refine WL.val (OV.lenIn hi1 rfl tf_sl_41) rfl rfl rfl ?_
  refine WL.val (OV.move rfl) rfl rfl rfl ?_
  refine WL.val (OV.lenIn hi2 rfl tf_sl_41) rfl rfl rfl ?_
  refine WL.val (OV.neq rfl rfl) rfl rfl rfl ?_
  refine WL.nil ?_
  refine KX.go (hK_2' [(0, w), (1, w_1'), (11, Value.bool (!decide ((a.length : Int) = (b.length : Int))))] _ ?_) ⟨rfl, rfl, rfl, trivial⟩
  refine wc_cond (b := !decide ((a.length : Int) = (b.length : Int))) rfl (fun hb => ?_) (fun hb => ?_)
  · replace h := if_T h hb
    refine wc_seq (fun K0_3' hK_3' => ?_)
    refine wc_region ?_
    refine WL.val (OV.assign rfl) rfl rfl rfl ?_
    refine WL.nil ?_
    refine KX.go (hK_3' [(4, Value.bool false)] _ ?_) ⟨rfl, trivial⟩
    refine wc_ret ?_
    exact hE.ret [] rfl rfl (.inl ⟨_, h, rfl⟩) (ResV.of1 rfl (RV.tmp rfl))
  · replace h := if_F h hb
    refine wc_skip ?_
    refine KX.go (hK_1' [(0, w), (1, w_1')] _ ?_) ⟨rfl, rfl, trivial⟩
    refine wc_seq (fun K0_4' hK_4' => ?_)
    refine wc_seq (fun K0_5' hK_5' => ?_)
    refine wc_region ?_
    refine WL.val (OV.assign rfl) rfl rfl rfl ?_
    refine WL.nil ?_
    refine KX.go (hK_5' [(0, w), (1, w_1'), (5, Value.int .i64 0)] _ ?_) ⟨rfl, rfl, rfl, trivial⟩
    refine wc_block ?_
    obtain ⟨Inv_2', mu_2', h0_2', hr_2'⟩ := h
    refine wc_loop (S := Int) (fun σ => Inv_2' σ) (fun σ => mu_2' σ) (fun σ => [(0, w), (1, w_1'), (5, Value.int .i64 σ)]) (fun σ => []) 0 h0_2' ⟨rfl, rfl, rfl, trivial⟩ rfl ?_
    rintro i_1' hi K0_46' hK_46'
    have h := hr_2' i_1' hi
    show WC _ _ _ _ [(0, w), (1, w_1'), (5, Value.int .i64 i_1')] []
    refine wc_seq (fun K0_47' hK_47' => ?_)
    refine wc_seq (fun K0_48' hK_48' => ?_)
    refine wc_region ?_
    refine WL.val (OV.move rfl) rfl rfl rfl ?_
    refine WL.val (OV.move rfl) rfl rfl rfl ?_
    refine WL.val (OV.lenIn hi1 rfl tf_sl_41) rfl rfl rfl ?_
    refine WL.val (OV.lss rfl rfl) rfl rfl rfl ?_
    refine WL.nil ?_
    refine KX.go (hK_48' [(0, w), (1, w_1'), (5, Value.int .i64 i_1'), (15, Value.bool (decide (i_1' < (a.length : Int))))] _ ?_) ⟨rfl, rfl, rfl, rfl, trivial⟩
    refine wc_cond (b := decide (i_1' < (a.length : Int))) rfl (fun hb => ?_) (fun hb => ?_)
    · replace h := if_T h hb
      refine wc_skip ?_
      refine KX.go (hK_47' [(0, w), (1, w_1'), (5, Value.int .i64 i_1')] _ ?_) ⟨rfl, rfl, rfl, trivial⟩
      refine wc_seq (fun K0_49' hK_49' => ?_)
      refine wc_block ?_
      refine wc_seq (fun K0_50' hK_50' => ?_)
      refine wc_region ?_
      refine WL.val (OV.assign rfl) rfl rfl rfl ?_
      refine WL.nil ?_
      refine KX.go (hK_50' [(0, w), (1, w_1'), (5, Value.int .i64 i_1'), (6, Value.int .i64 0)] _ ?_) ⟨rfl, rfl, rfl, rfl, trivial⟩
      refine wc_block ?_
      obtain ⟨Inv_3', mu_3', h0_3', hr_3'⟩ := h
      refine wc_loop (S := Int) (fun σ => Inv_3' σ) (fun σ => mu_3' σ) (fun σ => [(0, w), (1, w_1'), (5, Value.int .i64 i_1'), (6, Value.int .i64 σ)]) (fun σ => []) 0 h0_3' ⟨rfl, rfl, rfl, rfl, trivial⟩ rfl ?_
      rintro k_5' hi K0_61' hK_61'
      have h := hr_3' k_5' hi
      show WC _ _ _ _ [(0, w), (1, w_1'), (5, Value.int .i64 i_1'), (6, Value.int .i64 k_5')] []
      refine wc_seq (fun K0_62' hK_62' => ?_)
      refine wc_seq (fun K0_63' hK_63' => ?_)
      refine wc_region ?_
      refine WL.val (OV.move rfl) rfl rfl rfl ?_
      refine WL.val (OV.lss rfl rfl) rfl rfl rfl ?_
      refine WL.nil ?_
      refine KX.go (hK_63' [(0, w), (1, w_1'), (5, Value.int .i64 i_1'), (6, Value.int .i64 k_5'), (19, Value.bool (decide (k_5' < 4)))] _ ?_) ⟨rfl, rfl, rfl, rfl, rfl, trivial⟩
      refine wc_cond (b := decide (k_5' < 4)) rfl (fun hb => ?_) (fun hb => ?_)
      · replace h := if_T h hb
        refine wc_skip ?_
        refine KX.go (hK_62' [(0, w), (1, w_1'), (5, Value.int .i64 i_1'), (6, Value.int .i64 k_5')] _ ?_) ⟨rfl, rfl, rfl, rfl, trivial⟩
        refine wc_seq (fun K0_64' hK_64' => ?_)
        refine wc_block ?_
        refine wc_seq (fun K0_65' hK_65' => ?_)
        refine wc_draw 12 [] tf_mixed (by kernel_rfl) rfl (fun T_8' hT_8' => ?_)
        refine FL.val (fun _ => OV.move rfl) rfl (fun _ => rfl) rfl rfl ?_
        refine FL.val (fun _ => OV.move rfl) rfl (fun _ => rfl) rfl rfl ?_
        refine FL.val (fun _ => OV.move rfl) rfl (fun _ => rfl) rfl rfl ?_
        obtain ⟨o_38', h⟩ := h
        refine FL.val (fun _ => OV.indexIn hi1 rfl rfl tf_sl_41 o_38') rfl (fun _ => rfl) rfl rfl ?_
        obtain ⟨o_39', h⟩ := h
        refine FL.val (fun _ => OV.indexAddr rfl rfl tf_arr_23 o_39' (by rw [Nat.mul_one])) rfl (fun _ => rfl) rfl rfl ?_
        refine FL.val (fun _ => OV.loadInEF (f := wl) (o := (k_5').toNat) hi1 rfl wl_len (by omega) (wl_at (by omega)) tf_scal_22) rfl (fun _ => rfl) rfl rfl ?_
        refine FL.val (fun _ => OV.move rfl) rfl (fun _ => rfl) rfl rfl ?_
        refine FL.val (fun _ => OV.move rfl) rfl (fun _ => rfl) rfl rfl ?_
        refine FL.val (fun _ => OV.move rfl) rfl (fun _ => rfl) rfl rfl ?_
        obtain ⟨o_40', h⟩ := h
        refine FL.val (fun _ => OV.indexIn hi2 rfl rfl tf_sl_41 o_40') rfl (fun _ => rfl) rfl rfl ?_
        obtain ⟨o_41', h⟩ := h
        refine FL.val (fun _ => OV.indexAddr rfl rfl tf_arr_23 o_41' (by rw [Nat.mul_one])) rfl (fun _ => rfl) rfl rfl ?_
        refine FL.val (fun _ => OV.loadInEF (f := wl) (o := (k_5').toNat) hi2 rfl wl_len (by omega) (wl_at (by omega)) tf_scal_22) rfl (fun _ => rfl) rfl rfl ?_
        refine FL.weak (L' := fun γ => [(0, w), (1, w_1'), (5, Value.int .i64 i_1'), (6, Value.int .i64 k_5'), (27, Value.int .u64 (wd (a.getD (i_1').toNat default) ((k_5').toNat))), (33, Value.int .u64 (wd (b.getD (i_1').toNat default) ((k_5').toNat)))]) (fun γ => ⟨rfl, rfl, rfl, rfl, rfl, rfl, trivial⟩) (FL.nil (hT_8' (fun γ => [(0, w), (1, w_1'), (5, Value.int .i64 i_1'), (6, Value.int .i64 k_5'), (27, Value.int .u64 (wd (a.getD (i_1').toNat default) ((k_5').toNat))), (33, Value.int .u64 (wd (b.getD (i_1').toNat default) ((k_5').toNat)))]) (fun γ => ?_)))
        refine WL.val (OV.neq rfl rfl) rfl rfl rfl ?_
        refine WL.nil ?_
        refine KX.go (hK_65' [(0, w), (1, w_1'), (5, Value.int .i64 i_1'), (6, Value.int .i64 k_5'), (34, Value.bool (!decide (wd (a.getD (i_1').toNat default) ((k_5').toNat) = wd (b.getD (i_1').toNat default) ((k_5').toNat))))] _ ?_) ⟨rfl, rfl, rfl, rfl, rfl, trivial⟩
        refine wc_cond (b := !decide (wd (a.getD (i_1').toNat default) ((k_5').toNat) = wd (b.getD (i_1').toNat default) ((k_5').toNat))) rfl (fun hb => ?_) (fun hb => ?_)
        · replace h := if_T h hb
          refine wc_seq (fun K0_66' hK_66' => ?_)
          refine wc_region ?_
          refine WL.val (OV.assign rfl) rfl rfl rfl ?_
          refine WL.nil ?_
          refine KX.go (hK_66' [(4, Value.bool false)] _ ?_) ⟨rfl, trivial⟩
          refine wc_ret ?_
          exact hE.ret [] rfl rfl (.inl ⟨_, h, rfl⟩) (ResV.of1 rfl (RV.tmp rfl))
        · replace h := if_F h hb
          refine wc_skip ?_
          refine KX.go (hK_64' [(0, w), (1, w_1'), (5, Value.int .i64 i_1'), (6, Value.int .i64 k_5')] _ ?_) ⟨rfl, rfl, rfl, rfl, trivial⟩
          refine wc_region ?_
          refine WL.val (OV.move rfl) rfl rfl rfl ?_
          obtain ⟨o_42', h⟩ := h
          refine WL.val (OV.add rfl rfl o_42') rfl rfl rfl ?_
          refine WL.val (OV.assign rfl) rfl rfl rfl ?_
          refine WL.nil ?_
          exact KX.goH (hK_61' (k_5' + 1) h.1 h.2) ⟨rfl, rfl, rfl, rfl, trivial⟩ [] rfl rfl
      · replace h := if_F h hb
        refine wc_exit ?_
        refine KX.go (hK_49' [(0, w), (1, w_1'), (5, Value.int .i64 i_1')] _ ?_) ⟨rfl, rfl, rfl, trivial⟩
        refine wc_region ?_
        refine WL.val (OV.move rfl) rfl rfl rfl ?_
        obtain ⟨o_43', h⟩ := h
        refine WL.val (OV.add rfl rfl o_43') rfl rfl rfl ?_
        refine WL.val (OV.assign rfl) rfl rfl rfl ?_
        refine WL.nil ?_
        exact KX.goH (hK_46' (i_1' + 1) h.1 h.2) ⟨rfl, rfl, rfl, trivial⟩ [] rfl rfl
    · replace h := if_F h hb
      refine wc_exit ?_
      refine KX.go (hK_4' [] _ ?_) trivial
      refine wc_seq (fun K0_67' hK_67' => ?_)
      refine wc_region ?_
      refine WL.val (OV.assign rfl) rfl rfl rfl ?_
      refine WL.nil ?_
      refine KX.go (hK_67' [(4, Value.bool true)] _ ?_) ⟨rfl, trivial⟩
      refine wc_ret ?_
      exact hE.ret [] rfl rfl (.inl ⟨_, h, rfl⟩) (ResV.of1 rfl (RV.tmp rfl))

theorem wordsB_does (s : CS) : Does Try.prog 23 [.agg (arr 256 (fun j => Value.bool (BitVec.getLsbD s j))).toArray] [] [] (Ret (.agg (wl s).toArray) []) := by
  have h := words_does (BitVec.getLsbD s)
  have e : mkS (BitVec.getLsbD s) = s := BitVec.eq_of_getLsbD_eq fun i hi => mkS_bit _ _ hi
  rw [e] at h; exact h
theorem set_take {α : Type} [Inhabited α] {x : List α} {z : α} {i : Nat} (h : i < x.length) : (x.take i ++ List.replicate (x.length - i) z).set i (x.getD i default) = x.take (i + 1) ++ List.replicate (x.length - (i + 1)) z := by
  have h1 : (x.take i).length = i := by rw [List.length_take]; omega
  rw [List.set_append_right _ _ (by omega), h1, Nat.sub_self, show x.length - i = (x.length - (i + 1)) + 1 by omega, List.replicate_succ, List.set_cons_zero, List.take_add_one, List.getD_eq_getElem?_getD, List.getElem?_eq_getElem h, List.append_assoc]
  rfl
theorem fill_vc {x : List CS} {m : Int} (hm : 0 ≤ m ∧ m ≤ 256) (hl : x.length ≤ 2097152) :
  (0 ≤ (x.length : Int) ∧ m * (x.length : Int) ≤ 281474976710656 ∧ (x.length : Int) ≤ 9223372036854775807) ∧
  ∃ (Inv : Int → (List CS) → Prop) (mu : Int → (List CS) → Nat),
    Inv 0 (List.replicate (x.length : Int).toNat cs0) ∧ ∀ (i : Int) (l : List CS), Inv i l →
      (if (decide (i < (x.length : Int))) = true then
        (0 ≤ i ∧ i < (x.length : Int)) ∧
        (0 ≤ i ∧ i < (l.length : Int)) ∧
        (I64 (i + 1)) ∧
        Inv (i + 1) (l.set ((i).toNat) (x.getD (i).toNat default)) ∧ mu (i + 1) (l.set ((i).toNat) (x.getD (i).toNat default)) < mu i l
      else
        l = x) := by
  have hmx : m * (x.length : Int) ≤ 256 * 2097152 := by
    have h1 : m * (x.length : Int) ≤ 256 * (x.length : Int) := Int.mul_le_mul_of_nonneg_right hm.2 (by omega)
    omega
  refine ⟨⟨by omega, by omega, by omega⟩, fun i l => 0 ≤ i ∧ i ≤ x.length ∧ l = x.take i.toNat ++ List.replicate (x.length - i.toNat) cs0, fun i _ => (x.length - i).toNat, ⟨by omega, by omega, by simp⟩, fun i l ⟨h0, h1, he⟩ => ?_⟩
  subst he
  by_cases hi : i < (x.length : Int)
  · rw [if_pos (by simpa using hi), set_take (by omega)]
    refine ⟨⟨h0, hi⟩, ⟨h0, ?_⟩, ⟨by omega, by omega⟩, ⟨by omega, by omega, by rw [show (i + 1).toNat = i.toNat + 1 by omega]⟩, by show (x.length - (i + 1)).toNat < (x.length - i).toNat; omega⟩
    rw [List.length_append, List.length_take, List.length_replicate]; omega
  · rw [if_neg (by simpa using hi)]
    rw [show i.toNat = x.length by omega, List.take_length, Nat.sub_self]; simp
theorem sets_does (v : Value) (x : List CS) (h : x.length ≤ 2097152) (R : List (Nat × Obj)) (hR : InSl v R x.length (x.flatMap wl)) : Does Try.prog 24 [v] (R ++ []) [] (fun o => ∃ w : Value, o = .ret w [HA.row w 26 4 x.length (x.flatMap wl)]) := by
  refine (lsets_wp v x R hR (fun l => l = x) ?_).weak (by rintro o (⟨w, d, rfl, rfl⟩ | h) <;> first | exact ⟨w, rfl⟩ | exact h.elim)
  exact fill_vc ⟨by decide, by decide⟩ h
theorem plain_does (v : Value) (x : List CS) (h : x.length ≤ 2097152) (R : List (Nat × Obj)) (hR : InSl v R x.length (x.flatMap wl)) : Does Try.prog 27 [v] (R ++ []) [] (fun o => ∃ w : Value, o = .ret w [HA.row w 23 4 x.length (x.flatMap wl)]) := by
  refine (lplain_wp v x R hR (fun l => l = x) ?_).weak (by rintro o (⟨w, d, rfl, rfl⟩ | h) <;> first | exact ⟨w, rfl⟩ | exact h.elim)
  exact fill_vc ⟨by decide, by decide⟩ h
theorem marked_does (v : Value) (x : List CS) (h : x.length ≤ 2097152) (R : List (Nat × Obj)) (hR : InSl v R x.length (x.flatMap wl)) : Does Try.prog 22 [v] (R ++ []) [] (fun o => ∃ w : Value, o = .ret w [HA.row w 28 256 x.length (x.flatMap rfC)]) := by
  refine (lmarked_wp v x R hR (fun l => l = x) ?_).weak (by rintro o (⟨w, d, rfl, rfl⟩ | h) <;> first | exact ⟨w, rfl⟩ | exact h.elim)
  exact fill_vc ⟨by decide, by decide⟩ h
theorem wd_ext {s t : CS} (h : ∀ k, k < 4 → wd s k = wd t k) : s = t := by
  refine words_inj ?_
  unfold words
  rw [h 0 (by decide), h 1 (by decide), h 2 (by decide), h 3 (by decide)]
theorem sameWords_does (v u : Value) (a b : List CS) (h : a.length ≤ 9223372036854775807) (R1 : List (Nat × Obj)) (h1 : InSl v R1 a.length (a.flatMap wl)) (R2 : List (Nat × Obj)) (h2 : InSl u R2 b.length (b.flatMap wl)) :
    Does Try.prog 26 [v, u] (R1 ++ (R2 ++ [])) [] (Ret (.bool (decide (a = b))) []) := by
  refine (samew_wp v u a b R1 h1 R2 h2 (fun r => r = decide (a = b)) ?_).weak (by rintro o (⟨r, rfl, rfl⟩ | h) <;> first | rfl | exact h.elim)
  unfold samew_vc
  by_cases hl : a.length = b.length
  · rw [if_neg (by simp [hl])]
    refine ⟨fun i => 0 ≤ i ∧ i ≤ a.length ∧ ∀ j : Nat, (j : Int) < i → a.getD j default = b.getD j default, fun i => (a.length - i).toNat, ⟨by omega, by omega, fun j hj => by omega⟩, fun i ⟨i0, i1, ih⟩ => ?_⟩
    by_cases hi : i < (a.length : Int)
    · rw [if_pos (by simpa using hi)]
      refine ⟨fun k => 0 ≤ k ∧ k ≤ 4 ∧ ∀ j : Nat, (j : Int) < k → wd (a.getD i.toNat default) j = wd (b.getD i.toNat default) j, fun k => (4 - k).toNat, ⟨by omega, by omega, fun j hj => by omega⟩, fun k ⟨k0, k1, kh⟩ => ?_⟩
      by_cases hk : k < 4
      · rw [if_pos (by simpa using hk)]
        refine ⟨⟨i0, hi⟩, ⟨k0, hk⟩, ⟨i0, by omega⟩, ⟨k0, hk⟩, ?_⟩
        by_cases he : wd (a.getD i.toNat default) k.toNat = wd (b.getD i.toNat default) k.toNat
        · rw [if_neg (by simpa using he)]
          refine ⟨⟨by omega, by omega⟩, ⟨by omega, by omega, fun j hj => ?_⟩, by show (4 - (k + 1)).toNat < (4 - k).toNat; omega⟩
          by_cases hjk : (j : Int) < k
          · exact kh j hjk
          · rw [show j = k.toNat by omega]; exact he
        · rw [if_pos (by simpa using he)]
          refine (decide_eq_false fun e => he ?_).symm
          rw [e]
      · rw [if_neg (by simpa using hk)]
        refine ⟨⟨by omega, by omega⟩, ⟨by omega, by omega, fun j hj => ?_⟩, by show (a.length - (i + 1)).toNat < (a.length - i).toNat; omega⟩
        by_cases hji : (j : Int) < i
        · exact ih j hji
        · rw [show j = i.toNat by omega]
          exact wd_ext fun q hq => kh q (by omega)
    · rw [if_neg (by simpa using hi)]
      refine (decide_eq_true ?_).symm
      refine List.ext_getElem hl fun j h1 h2 => ?_
      have := ih j (by omega)
      rw [List.getD_eq_getElem?_getD, List.getD_eq_getElem?_getD, List.getElem?_eq_getElem h1, List.getElem?_eq_getElem h2] at this
      exact this
  · rw [if_pos (by simp; omega)]
    refine (decide_eq_false fun e => hl ?_).symm
    rw [e]

end Go.Proofs.Ytkjnhjhkaaampaa
