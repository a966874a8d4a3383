/-
  The document's Words.
-/
import Derived.Test.YtkjnhjhkaaampaaDoorRfR
import Derived.Test.YtkjnhjhkaaampaaDoorGwe
namespace Go.Proofs.YtkjnhjhkaaampaaDoor
open Go Go.RowKit

theorem tf_zero_23a : zeroB Tryd.prog 23 = some (arr 4 (fun j => Value.int .u64 ((fun _ => 0) j))) := by kernel_rfl
theorem tf_arr_23 : arrB Tryd.prog 23 22 4 1 = true := by kernel_rfl
theorem tf_scal_22 : scalB Tryd.prog 22 = true := by kernel_rfl
theorem tf_size_22 : sizeB Tryd.prog 22 1 = true := by kernel_rfl
theorem tf_row_23 : RowT Tryd.prog 23 4 := ⟨by kernel_rfl, by kernel_rfl⟩
theorem tf_size_23 : sizeB Tryd.prog 23 4 = true := by kernel_rfl

def words_vc (s : Nat → Bool) (K : (Nat → Int) → Prop) : Prop :=
  ∃ (Inv : Int → (Nat → Int) → Prop) (mu : Int → (Nat → Int) → Nat),
    Inv 255 (fun _ => 0) ∧ ∀ (b_4' : Int) (w_3' : Nat → Int), Inv b_4' w_3' →
      (if (decide (0 ≤ b_4')) = true then
        ∃ (J0_2' : (Nat → Int) → Prop),
          (∀ (w_4' : Nat → Int), J0_2' w_4' →
            (I64 (b_4' - 1)) ∧
            Inv (b_4' - 1) w_4' ∧ mu (b_4' - 1) w_4' < mu b_4' w_3') ∧
          (0 ≤ b_4' ∧ b_4' ≤ 9223372036854775807 ∧ 0 < (64 : Int)) ∧
          (0 ≤ b_4' ∧ b_4' ≤ 9223372036854775807 ∧ 0 < (64 : Int)) ∧
          (0 ≤ b_4' / 64 ∧ b_4' / 64 < 4) ∧
          (0 ≤ b_4' / 64 ∧ b_4' / 64 < 4) ∧
          (0 ≤ b_4' ∧ b_4' < 256) ∧
          (if (s ((b_4').toNat)) = true then
            (0 ≤ b_4' ∧ b_4' ≤ 9223372036854775807 ∧ 0 < (64 : Int)) ∧
            (0 ≤ b_4' / 64 ∧ b_4' / 64 < 4) ∧
            (0 ≤ b_4' / 64 ∧ b_4' / 64 < 4) ∧
            J0_2' (fun j => if j = (b_4' / 64).toNat then IntKind.wrap .u64 (((fun j => if j = (b_4' / 64).toNat then IntKind.wrap .u64 ((w_3' ((b_4' / 64).toNat)) * 2) else w_3' j) ((b_4' / 64).toNat)) + 1) else (fun j => if j = (b_4' / 64).toNat then IntKind.wrap .u64 ((w_3' ((b_4' / 64).toNat)) * 2) else w_3' j) j)
          else
            J0_2' (fun j => if j = (b_4' / 64).toNat then IntKind.wrap .u64 ((w_3' ((b_4' / 64).toNat)) * 2) else w_3' j))
      else
        K w_3')
set_option maxRecDepth 100000 in
theorem words_wp  (s : Nat → Bool) (K : (Nat → Int) → Prop) (h : words_vc s K) :
    Does Tryd.prog 13 [Value.agg (arr 256 (fun j => Value.bool (s j))).toArray] [] [] (fun o => (∃ (v : Nat → Int), K v ∧ o = .ret (Value.agg (arr 4 (fun j => Value.int .u64 (v j))).toArray) []) ∨ (False)) := by
  unfold words_vc at h
  refine does_of_wc (n := 27) (L0 := [(0, Value.agg (arr 256 (fun j => Value.bool (s j))).toArray)]) Tryd.func13 rfl rfl rfl rfl (fun w0 M Q hE => ?_)
  refine wc_seq (fun K0 hK => ?_)
  refine wc_region ?_
  refine WL.make (MV.box (cs := arr 256 (fun j => Value.bool (s j))) rfl rfl) rfl rfl rfl (fun b => ?_)
  refine WL.make (MV.alloc tf_zero_23a) rfl rfl rfl (fun b_1' => ?_)
  refine WL.nil ?_
  refine KX.go (hK [(1, Value.pointer (some ⟨b, 0, none⟩)), (2, Value.pointer (some ⟨b_1', 0, none⟩))] _ ?_) ⟨rfl, rfl, trivial⟩
  refine wc_seq (fun K0_1' hK_1' => ?_)
  refine wc_region ?_
  refine WL.make (MV.alloc tf_zero_23a) rfl rfl rfl (fun b_2' => ?_)
  refine WL.nil ?_
  refine KX.go (hK_1' [(1, Value.pointer (some ⟨b, 0, none⟩)), (2, Value.pointer (some ⟨b_1', 0, none⟩)), (3, Value.pointer (some ⟨b_2', 0, none⟩))] _ ?_) ⟨rfl, rfl, rfl, trivial⟩
  refine wc_seq (fun K0_2' hK_2' => ?_)
  refine wc_seq (fun K0_3' hK_3' => ?_)
  refine wc_region ?_
  refine WL.val (OV.assign rfl) rfl rfl rfl ?_
  refine WL.nil ?_
  refine KX.go (hK_3' [(1, Value.pointer (some ⟨b, 0, none⟩)), (2, Value.pointer (some ⟨b_1', 0, none⟩)), (3, Value.pointer (some ⟨b_2', 0, none⟩)), (4, Value.int .i64 255)] _ ?_) ⟨rfl, rfl, rfl, rfl, trivial⟩
  refine wc_block ?_
  obtain ⟨Inv, mu, h0, hr⟩ := h
  refine wc_loop (S := Int × (Nat → Int)) (fun σ => Inv σ.1 σ.2) (fun σ => mu σ.1 σ.2) (fun σ => [(1, Value.pointer (some ⟨b, 0, none⟩)), (2, Value.pointer (some ⟨b_1', 0, none⟩)), (3, Value.pointer (some ⟨b_2', 0, none⟩)), (4, Value.int .i64 σ.1)]) (fun σ => [HA.blk b_2' (.cells (arr 4 (fun j => Value.int .u64 (σ.2 j))).toArray 23 (0, 0)), HA.blk b_1' (.cells (arr 4 (fun j => Value.int .u64 ((fun _ => 0) j))).toArray 23 (0, 0)), HA.blk b (.cells (arr 256 (fun j => Value.bool (s j))).toArray 29 (0, 0))]) (255, fun _ => 0) h0 ⟨rfl, rfl, rfl, rfl, trivial⟩ rfl ?_
  rintro ⟨b_4', w_3'⟩ hi K0_18' hK_18'
  have h := hr b_4' w_3' hi
  show WC _ _ _ _ [(1, Value.pointer (some ⟨b, 0, none⟩)), (2, Value.pointer (some ⟨b_1', 0, none⟩)), (3, Value.pointer (some ⟨b_2', 0, none⟩)), (4, Value.int .i64 b_4')] [HA.blk b_2' (.cells (arr 4 (fun j => Value.int .u64 (w_3' j))).toArray 23 (0, 0)), HA.blk b_1' (.cells (arr 4 (fun j => Value.int .u64 ((fun _ => 0) j))).toArray 23 (0, 0)), HA.blk b (.cells (arr 256 (fun j => Value.bool (s j))).toArray 29 (0, 0))]
  refine wc_seq (fun K0_19' hK_19' => ?_)
  refine wc_seq (fun K0_20' hK_20' => ?_)
  refine wc_region ?_
  refine WL.val (OV.move rfl) rfl rfl rfl ?_
  refine WL.val (OV.geq rfl rfl) rfl rfl rfl ?_
  refine WL.nil ?_
  refine KX.go (hK_20' [(1, Value.pointer (some ⟨b, 0, none⟩)), (2, Value.pointer (some ⟨b_1', 0, none⟩)), (3, Value.pointer (some ⟨b_2', 0, none⟩)), (4, Value.int .i64 b_4'), (6, Value.bool (decide (0 ≤ b_4')))] _ ?_) ⟨rfl, rfl, rfl, rfl, rfl, trivial⟩
  refine wc_cond (b := decide (0 ≤ b_4')) rfl (fun hb => ?_) (fun hb => ?_)
  · replace h := if_T h hb
    refine wc_skip ?_
    refine KX.go (hK_19' [(1, Value.pointer (some ⟨b, 0, none⟩)), (2, Value.pointer (some ⟨b_1', 0, none⟩)), (3, Value.pointer (some ⟨b_2', 0, none⟩)), (4, Value.int .i64 b_4')] _ ?_) ⟨rfl, rfl, rfl, rfl, trivial⟩
    obtain ⟨J0_2', hJ_2', h⟩ := h
    refine wc_seqJ (X := (Nat → Int)) (fun σ => J0_2' σ) (fun σ => [(1, Value.pointer (some ⟨b, 0, none⟩)), (2, Value.pointer (some ⟨b_1', 0, none⟩)), (3, Value.pointer (some ⟨b_2', 0, none⟩)), (4, Value.int .i64 b_4')]) (fun σ => [HA.blk b_2' (.cells (arr 4 (fun j => Value.int .u64 (σ j))).toArray 23 (0, 0)), HA.blk b_1' (.cells (arr 4 (fun j => Value.int .u64 ((fun _ => 0) j))).toArray 23 (0, 0)), HA.blk b (.cells (arr 256 (fun j => Value.bool (s j))).toArray 29 (0, 0))]) ?_ (fun K0_23' hK_23' => ?_)
    · rintro w_4' hj
      replace h := hJ_2' w_4' hj
      show WC _ _ _ _ [(1, Value.pointer (some ⟨b, 0, none⟩)), (2, Value.pointer (some ⟨b_1', 0, none⟩)), (3, Value.pointer (some ⟨b_2', 0, none⟩)), (4, Value.int .i64 b_4')] [HA.blk b_2' (.cells (arr 4 (fun j => Value.int .u64 (w_4' j))).toArray 23 (0, 0)), HA.blk b_1' (.cells (arr 4 (fun j => Value.int .u64 ((fun _ => 0) j))).toArray 23 (0, 0)), HA.blk b (.cells (arr 256 (fun j => Value.bool (s j))).toArray 29 (0, 0))]
      refine wc_region ?_
      refine WL.val (OV.move rfl) rfl rfl rfl ?_
      obtain ⟨o_39', h⟩ := h
      refine WL.val (OV.sub rfl rfl o_39') rfl rfl rfl ?_
      refine WL.val (OV.assign rfl) rfl rfl rfl ?_
      refine WL.nil ?_
      exact KX.goH (hK_18' (b_4' - 1, w_4') h.1 h.2) ⟨rfl, rfl, rfl, rfl, trivial⟩ [0, 1, 2] rfl rfl
    · skip
      refine wc_block ?_
      refine wc_seq (fun K0_24' hK_24' => ?_)
      refine wc_region ?_
      refine WL.val (OV.move rfl) rfl rfl rfl ?_
      obtain ⟨o_40', h⟩ := h
      refine WL.val (OV.quo rfl rfl o_40') rfl rfl rfl ?_
      refine WL.val (OV.move rfl) rfl rfl rfl ?_
      obtain ⟨o_41', h⟩ := h
      refine WL.val (OV.quo rfl rfl o_41') rfl rfl rfl ?_
      obtain ⟨o_42', h⟩ := h
      refine WL.val (OV.indexAddr1 rfl rfl tf_arr_23 o_42') rfl rfl rfl ?_
      refine WL.val (OV.load rfl (At.own 0 rfl) (arr_get (by first | omega | assumption)) tf_scal_22) rfl rfl rfl ?_
      refine WL.val (OV.mulW rfl rfl) rfl rfl rfl ?_
      obtain ⟨o_43', h⟩ := h
      refine WL.val (OV.indexAddr1 rfl rfl tf_arr_23 o_43') rfl rfl rfl ?_
      refine WL.storeA' (f' := fun j => Value.int .u64 (if j = (b_4' / 64).toNat then IntKind.wrap .u64 ((w_3' ((b_4' / 64).toNat)) * 2) else w_3' j)) 0 rfl rfl rfl rfl tf_size_22 (by first | decide | omega) rfl rfl (fun j => by by_cases hj : j = (b_4' / 64).toNat <;> simp [hj]) ?_
      refine WL.nil ?_
      refine KX.go (hK_24' [(1, Value.pointer (some ⟨b, 0, none⟩)), (2, Value.pointer (some ⟨b_1', 0, none⟩)), (3, Value.pointer (some ⟨b_2', 0, none⟩)), (4, Value.int .i64 b_4')] _ ?_) ⟨rfl, rfl, rfl, rfl, trivial⟩
      refine wc_seq (fun K0_25' hK_25' => ?_)
      refine wc_region ?_
      refine WL.val (OV.move rfl) rfl rfl rfl ?_
      obtain ⟨o_44', h⟩ := h
      refine WL.val (OV.indexAddr1 rfl rfl tf_arr_29 o_44') rfl rfl rfl ?_
      refine WL.val (OV.load rfl (At.own 2 rfl) (arr_get (by first | omega | assumption)) tf_scal_4) rfl rfl rfl ?_
      refine WL.nil ?_
      refine KX.go (hK_25' [(1, Value.pointer (some ⟨b, 0, none⟩)), (2, Value.pointer (some ⟨b_1', 0, none⟩)), (3, Value.pointer (some ⟨b_2', 0, none⟩)), (4, Value.int .i64 b_4'), (19, Value.bool (s ((b_4').toNat)))] _ ?_) ⟨rfl, rfl, rfl, rfl, rfl, trivial⟩
      refine wc_cond (b := s ((b_4').toNat)) rfl (fun hb => ?_) (fun hb => ?_)
      · replace h := if_T h hb
        refine wc_region ?_
        refine WL.val (OV.move rfl) rfl rfl rfl ?_
        obtain ⟨o_45', h⟩ := h
        refine WL.val (OV.quo rfl rfl o_45') rfl rfl rfl ?_
        obtain ⟨o_46', h⟩ := h
        refine WL.val (OV.indexAddr1 rfl rfl tf_arr_23 o_46') rfl rfl rfl ?_
        refine WL.val (OV.load rfl (At.own 0 rfl) (arr_get (by first | omega | assumption)) tf_scal_22) rfl rfl rfl ?_
        refine WL.val (OV.addW rfl rfl) rfl rfl rfl ?_
        obtain ⟨o_47', h⟩ := h
        refine WL.val (OV.indexAddr1 rfl rfl tf_arr_23 o_47') rfl rfl rfl ?_
        refine WL.storeA' (f' := fun j => Value.int .u64 (if j = (b_4' / 64).toNat then IntKind.wrap .u64 (((fun j => if j = (b_4' / 64).toNat then IntKind.wrap .u64 ((w_3' ((b_4' / 64).toNat)) * 2) else w_3' j) ((b_4' / 64).toNat)) + 1) else (fun j => if j = (b_4' / 64).toNat then IntKind.wrap .u64 ((w_3' ((b_4' / 64).toNat)) * 2) else w_3' j) j)) 0 rfl rfl rfl rfl tf_size_22 (by first | decide | omega) rfl rfl (fun j => by by_cases hj : j = (b_4' / 64).toNat <;> simp [hj]) ?_
        refine WL.nil ?_
        exact KX.goH (hK_23' (fun j => if j = (b_4' / 64).toNat then IntKind.wrap .u64 (((fun j => if j = (b_4' / 64).toNat then IntKind.wrap .u64 ((w_3' ((b_4' / 64).toNat)) * 2) else w_3' j) ((b_4' / 64).toNat)) + 1) else (fun j => if j = (b_4' / 64).toNat then IntKind.wrap .u64 ((w_3' ((b_4' / 64).toNat)) * 2) else w_3' j) j) h) ⟨rfl, rfl, rfl, rfl, trivial⟩ [0, 1, 2] rfl rfl
      · replace h := if_F h hb
        refine wc_skip ?_
        exact KX.goH (hK_23' (fun j => if j = (b_4' / 64).toNat then IntKind.wrap .u64 ((w_3' ((b_4' / 64).toNat)) * 2) else w_3' j) h) ⟨rfl, rfl, rfl, rfl, trivial⟩ [0, 1, 2] rfl rfl
  · replace h := if_F h hb
    refine wc_exit ?_
    refine KX.go (hK_2' [(2, Value.pointer (some ⟨b_1', 0, none⟩)), (3, Value.pointer (some ⟨b_2', 0, none⟩))] _ ?_) ⟨rfl, rfl, trivial⟩
    refine wc_seq (fun K0_26' hK_26' => ?_)
    refine wc_region ?_
    refine WL.val (OV.loadR rfl (At.own 0 rfl) (by rw [arr_length]; exact tf_row_23)) rfl rfl rfl ?_
    refine WL.storeW (vs := arr 4 (fun j => Value.int .u64 (w_3' j))) 1 rfl rfl rfl rfl (arr_length _ _) tf_size_23 ((arr_length _ _).trans (arr_length _ _).symm) (arr_one _ _ (fun _ => rfl)) rfl ?_
    refine WL.nil ?_
    refine KX.go (hK_26' [(2, Value.pointer (some ⟨b_1', 0, none⟩))] _ ?_) ⟨rfl, trivial⟩
    refine wc_ret ?_
    exact hE.ret [] rfl rfl (.inl ⟨_, h, rfl⟩) (ResV.of1 rfl (RV.row rfl (At.own 1 rfl) (by rw [arr_length]; exact tf_row_23)))

/-- A word by its bits from the top down: after k of them. -/
def hv (f : Nat → Bool) (j : Nat) : Nat → Nat
  | 0 => 0
  | k + 1 => 2 * hv f j k + (f (64 * j + (63 - k))).toNat
theorem hv_lt (f : Nat → Bool) (j : Nat) : ∀ k, hv f j k < 2 ^ k
  | 0 => by simp [hv]
  | k + 1 => by
    have := hv_lt f j k
    have h2 : (f (64 * j + (63 - k))).toNat ≤ 1 := Bool.toNat_le _
    rw [hv, Nat.pow_succ]; omega
theorem hv_bit (f : Nat → Bool) (j : Nat) : ∀ k i, i < k → k ≤ 64 → (hv f j k).testBit i = f (64 * j + (64 - k + i))
  | 0, _, h, _ => by omega
  | k + 1, 0, _, h => by
    rw [hv, Nat.testBit_zero, show 64 * j + (64 - (k + 1) + 0) = 64 * j + (63 - k) by omega]
    cases f (64 * j + (63 - k)) <;> simp <;> omega
  | k + 1, i + 1, h, h2 => by
    rw [hv, Nat.testBit_add_one, show (2 * hv f j k + (f (64 * j + (63 - k))).toNat) / 2 = hv f j k by have : (f (64 * j + (63 - k))).toNat ≤ 1 := Bool.toNat_le _; omega, hv_bit f j k i (by omega) (by omega)]
    congr 1; omega
theorem hv_word (f : Nat → Bool) (j : Nat) (hj : j < 4) : ((hv f j 64 : Nat) : Int) = wd (mkS f) j := by
  rw [wd]
  congr 1
  refine Nat.eq_of_testBit_eq fun i => ?_
  by_cases h : i < 64
  · rw [hv_bit f j 64 i h (Nat.le_refl _), wdN_bit, mkS_bit _ _ (by omega), decide_eq_true h, Bool.true_and]
    congr 1; omega
  · rw [Nat.testBit_lt_two_pow (Nat.lt_of_lt_of_le (hv_lt f j 64) (Nat.pow_le_pow_right (by omega) (show 64 ≤ i by omega))), wdN_bit, decide_eq_false h, Bool.false_and]
theorem words_does (f : Nat → Bool) : Does Tryd.prog 13 [.agg (arr 256 (fun j => Value.bool (f j))).toArray] [] [] (Ret (.agg (wl (mkS f)).toArray) []) := by
  refine (words_wp f (fun w => ∀ j, j < 4 → w j = ((hv f j 64 : Nat) : Int)) ?_).weak ?_
  · unfold words_vc
    refine ⟨fun b w => -1 ≤ b ∧ b ≤ 255 ∧ ∀ j, j < 4 → w j = ((hv f j (min 64 (64 * (j : Int) + 63 - b).toNat) : Nat) : Int), fun b _ => (b + 1).toNat, ⟨by omega, by omega, fun j hj => ?_⟩, ?_⟩
    · rw [show (min 64 (64 * (j : Int) + 63 - 255).toNat) = 0 by omega]; rfl
    · rintro b w ⟨h0, h1, hw⟩
      by_cases hb : 0 ≤ b
      · rw [if_pos (by simpa using hb)]
        refine ⟨fun w' => ∀ j, j < 4 → w' j = ((hv f j (min 64 (64 * (j : Int) + 63 - (b - 1)).toNat) : Nat) : Int), fun w' h' => ⟨⟨by omega, by omega⟩, ⟨by omega, by omega, h'⟩, by show (b - 1 + 1).toNat < (b + 1).toNat; omega⟩, ⟨by omega, by omega, by omega⟩, ⟨by omega, by omega, by omega⟩, by omega, by omega, by omega, ?_⟩
        obtain ⟨q, hq⟩ : ∃ q, q = (b / 64).toNat := ⟨_, rfl⟩
        obtain ⟨k, hk⟩ : ∃ k, k = (64 * (q : Int) + 63 - b).toNat := ⟨_, rfl⟩
        have hq4 : q < 4 := by omega
        have hk64 : k < 64 := by omega
        have e1 : ∀ j, j < 4 → j ≠ q → min 64 (64 * (j : Int) + 63 - (b - 1)).toNat = min 64 (64 * (j : Int) + 63 - b).toNat := fun j hj hn => by omega
        have e2 : min 64 (64 * (q : Int) + 63 - (b - 1)).toNat = k + 1 := by omega
        have e3 : min 64 (64 * (q : Int) + 63 - b).toNat = k := by omega
        have e4 : b.toNat = 64 * q + (63 - k) := by omega
        have hlt := hv_lt f q k
        have hlt2 := hv_lt f q (k + 1)
        have hp : 2 ^ (k + 1) ≤ 2 ^ 64 := Nat.pow_le_pow_right (by omega) (by omega)
        have hp' : (2 : Nat) ^ (k + 1) = 2 ^ k * 2 := Nat.pow_succ ..
        have w0 : IntKind.wrap .u64 (w (b / 64).toNat * 2) = ((2 * hv f q k : Nat) : Int) := by
          rw [← hq, hw q hq4, e3, IntWalk.u64_in _ ⟨by omega, by omega⟩]; omega
        by_cases hf : f b.toNat = true
        · rw [if_pos hf]
          refine ⟨⟨by omega, by omega, by omega⟩, by omega, by omega, fun j hj => ?_⟩
          show (if j = (b / 64).toNat then IntKind.wrap .u64 ((if (b / 64).toNat = (b / 64).toNat then _ else _) + 1) else (if j = (b / 64).toNat then _ else _)) = _
          rw [if_pos rfl, w0, ← hq]
          by_cases e : j = q
          · subst e
            rw [if_pos rfl, e2, hv, ← e4, hf, IntWalk.u64_in _ ⟨by omega, by simp [hv, ← e4, hf] at hlt2; omega⟩]
            simp
          · rw [if_neg e, if_neg e, e1 j hj e, hw j hj]
        · rw [if_neg hf]
          intro j hj
          show (if j = (b / 64).toNat then _ else _) = _
          rw [w0, ← hq]
          by_cases e : j = q
          · subst e
            rw [if_pos rfl, e2, hv, ← e4, show f b.toNat = false by simpa using hf]; simp
          · rw [if_neg e, e1 j hj e, hw j hj]
      · rw [if_neg (by simpa using hb)]
        intro j hj
        rw [hw j hj, show min 64 (64 * (j : Int) + 63 - b).toNat = 64 by omega]
  · rintro o (⟨w, hw, rfl⟩ | h)
    · unfold Ret
      congr 2
      simp only [wl, ← hv_word f _ (by decide : 0 < 4), ← hv_word f _ (by decide : 1 < 4), ← hv_word f _ (by decide : 2 < 4), ← hv_word f _ (by decide : 3 < 4), ← hw 0 (by decide), ← hw 1 (by decide), ← hw 2 (by decide), ← hw 3 (by decide)]
      rfl
    · exact h.elim

end Go.Proofs.YtkjnhjhkaaampaaDoor
