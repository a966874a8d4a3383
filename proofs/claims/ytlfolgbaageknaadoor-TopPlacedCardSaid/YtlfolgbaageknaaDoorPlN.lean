/-
  Words of numbers.
-/
import Derived.Test.YtlfolgbaageknaaDoorPlV
namespace Go.Proofs.YtlfolgbaageknaaDoor
open Go Go.RowKit

theorem tf_zero_59 : zeroB Tryd.prog 59 = some ((noTab).flatMap callC) := by kernel_rfl
theorem tf_size_59 : sizeB Tryd.prog 59 84 = true := by kernel_rfl
theorem tf_row_59 : RowT Tryd.prog 59 84 := ⟨by kernel_rfl, by kernel_rfl⟩
theorem tf_arr_59 : arrB Tryd.prog 59 58 42 2 = true := by kernel_rfl
theorem tf_row_58 : RowT Tryd.prog 58 2 := ⟨by kernel_rfl, by kernel_rfl⟩
theorem tf_zero_58 : zeroB Tryd.prog 58 = some [Value.int .i64 0, st []] := by kernel_rfl
theorem tf_size_58 : sizeB Tryd.prog 58 2 = true := by kernel_rfl
theorem tf_field_58_0 : fieldOff Tryd.prog 58 0 = some 0 := by kernel_rfl
theorem tf_scal_23 : scalB Tryd.prog 23 = true := by kernel_rfl
theorem tf_field_58_1 : fieldOff Tryd.prog 58 1 = some 1 := by kernel_rfl
theorem tf_ent_9 : entB Tryd.prog 9 = true := by kernel_rfl

theorem digits_len : ∀ (k u : Nat), u < 10 ^ (k + 1) → (Lib.decDigits u).length ≤ k + 1
  | 0, u, h => by rw [Lib.decDigits, dif_pos (by simpa using h)]; simp
  | k + 1, u, h => by
    rw [Lib.decDigits]
    split
    · simp
    · rw [List.length_append]
      have := digits_len k (u / 10) (by rw [Nat.pow_succ] at h; omega)
      simp only [List.length_cons, List.length_nil]; omega
theorem itoa_len {n : Int} (h : I64 n) : (Lib.itoa n).length ≤ 21 := by
  have h1 := h.1
  have h2 := h.2
  unfold Lib.itoa
  split
  · have := digits_len 19 n.natAbs (by omega)
    simp only [List.length_cons]; omega
  · have := digits_len 19 n.toNat (by omega)
    omega
theorem wrap_u64 (n : Int) : IntKind.u64.wrap n = n % 18446744073709551616 := by
  unfold IntKind.wrap
  simp [IntKind.bits, IntKind.signed]
theorem digit_u8 (u : Int) : IntKind.wrap .u8 (IntKind.wrap .u64 (48 + u % 10)) = 48 + u % 10 := by
  rw [IntWalk.u64_in _ ⟨by omega, by omega⟩, IntWalk.u8_in _ ⟨by omega, by omega⟩]

def name_vc (code : Int) (K : (List UInt8) → Prop) : Prop :=
  ∃ (Inv : Int → Prop) (mu : Int → Nat),
    Inv 0 ∧ ∀ (t50_1' : Int), Inv t50_1' →
      (if (decide (t50_1' < 42)) = true then
        (nameTab.length = 42 ∧ 0 ≤ t50_1' ∧ t50_1' < 42) ∧
        (if (decide ((nameTab.getD (t50_1').toNat (0, [])).1 = code)) = true then
          K ((nameTab.getD (t50_1').toNat (0, [])).2)
        else
          (I64 (t50_1' + 1)) ∧
          Inv (t50_1' + 1) ∧ mu (t50_1' + 1) < mu t50_1')
      else
        (I64 code) ∧
        (([101, 114, 114, 111, 114, 32] : List UInt8).length + (Lib.itoa code).length ≤ 9223372036854775807) ∧
        K (([101, 114, 114, 111, 114, 32] : List UInt8) ++ (Lib.itoa code)))
set_option maxRecDepth 100000 in
theorem name_wp (te : TypeId) (fre : Nat × Nat) (code : Int) (K : (List UInt8) → Prop) (h : name_vc code K) :
    Does Tryd.prog 10 [Value.int .i64 code] [(1, .cells [Value.int .u64 1, Value.int .u64 10, Value.int .u64 100, Value.int .u64 1000, Value.int .u64 10000, Value.int .u64 100000, Value.int .u64 1000000, Value.int .u64 10000000, Value.int .u64 100000000, Value.int .u64 1000000000, Value.int .u64 10000000000, Value.int .u64 100000000000, Value.int .u64 1000000000000, Value.int .u64 10000000000000, Value.int .u64 100000000000000, Value.int .u64 1000000000000000, Value.int .u64 10000000000000000, Value.int .u64 100000000000000000, Value.int .u64 1000000000000000000, Value.int .u64 10000000000000000000].toArray te fre)] [] (fun o => (∃ (v : List UInt8), K v ∧ o = .ret (st v) []) ∨ (False)) := by
  unfold name_vc at h
  refine does_of_wc (n := 63) (L0 := [(0, Value.int .i64 code)]) Tryd.func10 rfl rfl rfl rfl (fun w0 M Q hE => ?_)
  refine wc_seq (fun K0 hK => ?_)
  refine wc_region ?_
  refine WL.val (OV.assign rfl) rfl rfl rfl ?_
  refine WL.nil ?_
  refine KX.go (hK [(0, Value.int .i64 code)] _ ?_) ⟨rfl, trivial⟩
  refine wc_seq (fun K0_1' hK_1' => ?_)
  refine wc_region ?_
  refine WL.val (OV.build rfl (cs := [Value.int .i64 0, st ([111, 107] : List UInt8)]) rfl) rfl rfl rfl ?_
  refine WL.val (OV.build rfl (cs := [Value.int .i64 1, st ([116, 111, 111, 32, 108, 111, 110, 103] : List UInt8)]) rfl) rfl rfl rfl ?_
  refine WL.val (OV.build rfl (cs := [Value.int .i64 2, st ([98, 97, 100, 32, 97, 114, 103, 117, 109, 101, 110, 116] : List UInt8)]) rfl) rfl rfl rfl ?_
  refine WL.val (OV.build rfl (cs := [Value.int .i64 3, st ([110, 111, 110, 101] : List UInt8)]) rfl) rfl rfl rfl ?_
  refine WL.val (OV.build rfl (cs := [Value.int .i64 4, st ([116, 111, 111, 32, 98, 105, 103] : List UInt8)]) rfl) rfl rfl rfl ?_
  refine WL.val (OV.build rfl (cs := [Value.int .i64 10, st ([110, 111, 32, 98, 121, 116, 101, 32, 99, 108, 97, 115, 115] : List UInt8)]) rfl) rfl rfl rfl ?_
  refine WL.val (OV.build rfl (cs := [Value.int .i64 20, st ([117, 110, 101, 120, 112, 101, 99, 116, 101, 100, 32, 98, 121, 116, 101] : List UInt8)]) rfl) rfl rfl rfl ?_
  refine WL.val (OV.build rfl (cs := [Value.int .i64 21, st ([117, 110, 99, 108, 111, 115, 101, 100, 32, 112, 97, 114, 101, 110, 116, 104, 101, 115, 105, 115] : List UInt8)]) rfl) rfl rfl rfl ?_
  refine WL.val (OV.build rfl (cs := [Value.int .i64 22, st ([98, 97, 100, 32, 114, 101, 112, 101, 97, 116] : List UInt8)]) rfl) rfl rfl rfl ?_
  refine WL.val (OV.build rfl (cs := [Value.int .i64 23, st ([110, 101, 115, 116, 101, 100, 32, 116, 111, 111, 32, 100, 101, 101, 112] : List UInt8)]) rfl) rfl rfl rfl ?_
  refine WL.val (OV.build rfl (cs := [Value.int .i64 24, st ([116, 111, 111, 32, 108, 97, 114, 103, 101] : List UInt8)]) rfl) rfl rfl rfl ?_
  refine WL.val (OV.build rfl (cs := [Value.int .i64 30, st ([110, 111, 32, 115, 101, 116, 32, 115, 105, 103, 110, 32, 104, 101, 114, 101] : List UInt8)]) rfl) rfl rfl rfl ?_
  refine WL.val (OV.build rfl (cs := [Value.int .i64 40, st ([111, 117, 116, 32, 111, 102, 32, 115, 116, 97, 116, 101, 115] : List UInt8)]) rfl) rfl rfl rfl ?_
  refine WL.val (OV.build rfl (cs := [Value.int .i64 50, st ([110, 111, 32, 116, 111, 107, 101, 110] : List UInt8)]) rfl) rfl rfl rfl ?_
  refine WL.val (OV.build rfl (cs := [Value.int .i64 51, st ([117, 110, 99, 108, 111, 115, 101, 100, 32, 116, 101, 120, 116] : List UInt8)]) rfl) rfl rfl rfl ?_
  refine WL.val (OV.build rfl (cs := [Value.int .i64 52, st ([117, 110, 99, 108, 111, 115, 101, 100, 32, 114, 101, 103, 101, 120] : List UInt8)]) rfl) rfl rfl rfl ?_
  refine WL.val (OV.build rfl (cs := [Value.int .i64 60, st ([117, 110, 101, 120, 112, 101, 99, 116, 101, 100, 32, 116, 111, 107, 101, 110] : List UInt8)]) rfl) rfl rfl rfl ?_
  refine WL.val (OV.build rfl (cs := [Value.int .i64 70, st ([117, 110, 107, 110, 111, 119, 110, 32, 110, 97, 109, 101] : List UInt8)]) rfl) rfl rfl rfl ?_
  refine WL.val (OV.build rfl (cs := [Value.int .i64 71, st ([110, 97, 109, 101, 32, 98, 111, 117, 110, 100, 32, 116, 119, 105, 99, 101] : List UInt8)]) rfl) rfl rfl rfl ?_
  refine WL.val (OV.build rfl (cs := [Value.int .i64 72, st ([119, 114, 111, 110, 103, 32, 107, 105, 110, 100] : List UInt8)]) rfl) rfl rfl rfl ?_
  refine WL.val (OV.build rfl (cs := [Value.int .i64 80, st ([100, 101, 102, 97, 117, 108, 116, 32, 111, 117, 116, 115, 105, 100, 101, 32, 105, 116, 115, 32, 116, 121, 112, 101] : List UInt8)]) rfl) rfl rfl rfl ?_
  refine WL.val (OV.build rfl (cs := [Value.int .i64 81, st ([97, 109, 98, 105, 103, 117, 111, 117, 115, 32, 115, 111, 117, 114, 99, 101, 32, 99, 111, 110, 99, 97, 116, 101, 110, 97, 116, 105, 111, 110] : List UInt8)]) rfl) rfl rfl rfl ?_
  refine WL.val (OV.build rfl (cs := [Value.int .i64 82, st ([97, 109, 98, 105, 103, 117, 111, 117, 115, 32, 118, 105, 101, 119, 32, 99, 111, 110, 99, 97, 116, 101, 110, 97, 116, 105, 111, 110] : List UInt8)]) rfl) rfl rfl rfl ?_
  refine WL.val (OV.build rfl (cs := [Value.int .i64 83, st ([97, 109, 98, 105, 103, 117, 111, 117, 115, 32, 115, 111, 117, 114, 99, 101, 32, 105, 116, 101, 114, 97, 116, 105, 111, 110] : List UInt8)]) rfl) rfl rfl rfl ?_
  refine WL.val (OV.build rfl (cs := [Value.int .i64 84, st ([97, 109, 98, 105, 103, 117, 111, 117, 115, 32, 118, 105, 101, 119, 32, 105, 116, 101, 114, 97, 116, 105, 111, 110] : List UInt8)]) rfl) rfl rfl rfl ?_
  refine WL.val (OV.build rfl (cs := [Value.int .i64 85, st ([111, 118, 101, 114, 108, 97, 112, 112, 105, 110, 103, 32, 115, 111, 117, 114, 99, 101, 115] : List UInt8)]) rfl) rfl rfl rfl ?_
  refine WL.val (OV.build rfl (cs := [Value.int .i64 86, st ([111, 118, 101, 114, 108, 97, 112, 112, 105, 110, 103, 32, 118, 105, 101, 119, 115] : List UInt8)]) rfl) rfl rfl rfl ?_
  refine WL.val (OV.build rfl (cs := [Value.int .i64 87, st ([109, 105, 100, 100, 108, 101, 32, 116, 121, 112, 101, 115, 32, 100, 105, 102, 102, 101, 114] : List UInt8)]) rfl) rfl rfl rfl ?_
  refine WL.val (OV.build rfl (cs := [Value.int .i64 88, st ([113, 117, 111, 116, 105, 101, 110, 116, 32, 105, 110, 32, 116, 104, 101, 32, 109, 105, 100, 100, 108, 101] : List UInt8)]) rfl) rfl rfl rfl ?_
  refine WL.val (OV.build rfl (cs := [Value.int .i64 89, st ([99, 97, 110, 111, 110, 105, 122, 101, 114, 32, 111, 117, 116, 32, 111, 102, 32, 112, 108, 97, 99, 101] : List UInt8)]) rfl) rfl rfl rfl ?_
  refine WL.val (OV.build rfl (cs := [Value.int .i64 90, st ([99, 97, 112, 105, 116, 97, 108, 32, 108, 101, 116, 116, 101, 114] : List UInt8)]) rfl) rfl rfl rfl ?_
  refine WL.val (OV.build rfl (cs := [Value.int .i64 100, st ([110, 111, 32, 115, 111, 117, 114, 99, 101] : List UInt8)]) rfl) rfl rfl rfl ?_
  refine WL.val (OV.build rfl (cs := [Value.int .i64 101, st ([110, 111, 32, 118, 105, 101, 119] : List UInt8)]) rfl) rfl rfl rfl ?_
  refine WL.val (OV.build rfl (cs := [Value.int .i64 110, st ([98, 97, 100, 32, 108, 105, 110, 101] : List UInt8)]) rfl) rfl rfl rfl ?_
  refine WL.val (OV.build rfl (cs := [Value.int .i64 111, st ([98, 97, 100, 32, 111, 112, 101, 114, 97, 110, 100] : List UInt8)]) rfl) rfl rfl rfl ?_
  refine WL.val (OV.build rfl (cs := [Value.int .i64 112, st ([101, 109, 112, 116, 121, 32, 115, 116, 97, 99, 107] : List UInt8)]) rfl) rfl rfl rfl ?_
  refine WL.val (OV.build rfl (cs := [Value.int .i64 113, st ([110, 111, 32, 99, 117, 116] : List UInt8)]) rfl) rfl rfl rfl ?_
  refine WL.val (OV.build rfl (cs := [Value.int .i64 114, st ([111, 117, 116, 32, 111, 102, 32, 115, 116, 101, 112, 115] : List UInt8)]) rfl) rfl rfl rfl ?_
  refine WL.val (OV.build rfl (cs := [Value.int .i64 115, st ([116, 111, 111, 32, 109, 97, 110, 121, 32, 99, 97, 108, 108, 115] : List UInt8)]) rfl) rfl rfl rfl ?_
  refine WL.val (OV.build rfl (cs := [Value.int .i64 120, st ([101, 110, 100, 101, 100] : List UInt8)]) rfl) rfl rfl rfl ?_
  refine WL.val (OV.build rfl (cs := [Value.int .i64 130, st ([98, 97, 100, 32, 101, 100, 105, 116] : List UInt8)]) rfl) rfl rfl rfl ?_
  refine WL.val (OV.build rfl (cs := [Value.int .i64 140, st ([117, 115, 97, 103, 101] : List UInt8)]) rfl) rfl rfl rfl ?_
  refine WL.val (OV.build rfl (cs := (nameTab).flatMap callC) (by kernel_rfl)) rfl rfl rfl ?_
  refine WL.make (MV.alloc tf_zero_59) rfl rfl rfl (fun b => ?_)
  refine WL.storeW (vs := (nameTab).flatMap callC) 0 rfl rfl rfl rfl rfl tf_size_59 rfl rfl rfl ?_
  refine WL.nil ?_
  refine KX.go (hK_1' [(0, Value.int .i64 code), (3, Value.pointer (some ⟨b, 0, none⟩))] _ ?_) ⟨rfl, rfl, trivial⟩
  refine wc_seq (fun K0_2' hK_2' => ?_)
  refine wc_seq (fun K0_3' hK_3' => ?_)
  refine wc_region ?_
  refine WL.val (OV.loadR rfl (At.own 0 rfl) tf_row_59) rfl rfl rfl ?_
  refine WL.val (OV.move rfl) rfl rfl rfl ?_
  refine WL.nil ?_
  refine KX.go (hK_3' [(0, Value.int .i64 code), (49, Value.agg ((nameTab).flatMap callC).toArray), (50, Value.int .i64 0)] _ ?_) ⟨rfl, rfl, rfl, trivial⟩
  refine wc_block ?_
  refine WC.pick (H' := []) [] rfl rfl ?_
  obtain ⟨Inv, mu, h0, hr⟩ := h
  refine wc_loop (S := Int) (fun σ => Inv σ) (fun σ => mu σ) (fun σ => [(0, Value.int .i64 code), (49, Value.agg ((nameTab).flatMap callC).toArray), (50, Value.int .i64 σ)]) (fun σ => []) 0 h0 ⟨rfl, rfl, rfl, trivial⟩ rfl ?_
  rintro t50_1' hi K0_16' hK_16'
  have h := hr t50_1' hi
  show WC _ _ _ _ [(0, Value.int .i64 code), (49, Value.agg ((nameTab).flatMap callC).toArray), (50, Value.int .i64 t50_1')] []
  refine wc_seq (fun K0_17' hK_17' => ?_)
  refine wc_region ?_
  refine WL.val (OV.lss rfl rfl) rfl rfl rfl ?_
  refine WL.nil ?_
  refine KX.go (hK_17' [(0, Value.int .i64 code), (49, Value.agg ((nameTab).flatMap callC).toArray), (50, Value.int .i64 t50_1'), (51, Value.bool (decide (t50_1' < 42)))] _ ?_) ⟨rfl, rfl, rfl, rfl, trivial⟩
  refine wc_seq (fun K0_18' hK_18' => ?_)
  refine wc_cond (b := decide (t50_1' < 42)) rfl (fun hb => ?_) (fun hb => ?_)
  · replace h := if_T h hb
    refine wc_skip ?_
    refine KX.go (hK_18' [(0, Value.int .i64 code), (49, Value.agg ((nameTab).flatMap callC).toArray), (50, Value.int .i64 t50_1')] _ ?_) ⟨rfl, rfl, rfl, trivial⟩
    refine wc_seq (fun K0_19' hK_19' => ?_)
    refine wc_block ?_
    refine wc_seq (fun K0_20' hK_20' => ?_)
    refine wc_region ?_
    obtain ⟨o_3', h⟩ := h
    refine WL.val (OV.indexTab rfl rfl tf_arr_59 tf_row_58 o_3') rfl rfl rfl ?_
    refine WL.make (MV.alloc tf_zero_58) rfl rfl rfl (fun b_3' => ?_)
    refine WL.storeW (vs := [Value.int .i64 ((nameTab.getD (t50_1').toNat (0, [])).1), st ((nameTab.getD (t50_1').toNat (0, [])).2)]) 0 rfl rfl rfl rfl rfl tf_size_58 rfl rfl rfl ?_
    refine WL.nil ?_
    refine KX.go (hK_20' [(0, Value.int .i64 code), (5, Value.pointer (some ⟨b_3', 0, none⟩)), (49, Value.agg ((nameTab).flatMap callC).toArray), (50, Value.int .i64 t50_1')] _ ?_) ⟨rfl, rfl, rfl, rfl, trivial⟩
    refine wc_seq (fun K0_21' hK_21' => ?_)
    refine wc_region ?_
    refine WL.val (OV.fieldAddr0 rfl tf_field_58_0) rfl rfl rfl ?_
    refine WL.val (OV.load rfl (At.own 0 rfl) rfl tf_scal_23) rfl rfl rfl ?_
    refine WL.val (OV.move rfl) rfl rfl rfl ?_
    refine WL.val (OV.eql rfl rfl) rfl rfl rfl ?_
    refine WL.nil ?_
    refine KX.go (hK_21' [(0, Value.int .i64 code), (5, Value.pointer (some ⟨b_3', 0, none⟩)), (49, Value.agg ((nameTab).flatMap callC).toArray), (50, Value.int .i64 t50_1'), (56, Value.bool (decide ((nameTab.getD (t50_1').toNat (0, [])).1 = code)))] _ ?_) ⟨rfl, rfl, rfl, rfl, rfl, trivial⟩
    refine wc_cond (b := decide ((nameTab.getD (t50_1').toNat (0, [])).1 = code)) rfl (fun hb => ?_) (fun hb => ?_)
    · replace h := if_T h hb
      refine wc_seq (fun K0_22' hK_22' => ?_)
      refine wc_region ?_
      refine WL.val (OV.fieldAddr0 rfl tf_field_58_1) rfl rfl rfl ?_
      refine WL.val (OV.load rfl (At.own 0 rfl) rfl tf_scal_9) rfl rfl rfl ?_
      refine WL.val (OV.assign rfl) rfl rfl rfl ?_
      refine WL.nil ?_
      refine KX.go (hK_22' [(2, st ((nameTab.getD (t50_1').toNat (0, [])).2))] _ ?_) ⟨rfl, trivial⟩
      refine wc_ret ?_
      exact hE.ret [] rfl rfl (.inl ⟨_, h, rfl⟩) (ResV.of1 rfl (RV.tmp rfl))
    · replace h := if_F h hb
      refine wc_skip ?_
      refine KX.go (hK_19' [(0, Value.int .i64 code), (49, Value.agg ((nameTab).flatMap callC).toArray), (50, Value.int .i64 t50_1')] _ ?_) ⟨rfl, rfl, rfl, trivial⟩
      refine wc_region ?_
      obtain ⟨o_4', h⟩ := h
      refine WL.val (OV.add rfl rfl o_4') rfl rfl rfl ?_
      refine WL.val (OV.move rfl) rfl rfl rfl ?_
      refine WL.nil ?_
      exact KX.goH (hK_16' (t50_1' + 1) h.1 h.2) ⟨rfl, rfl, rfl, trivial⟩ [] rfl rfl
  · replace h := if_F h hb
    refine wc_exit ?_
    refine KX.go (hK_2' [(0, Value.int .i64 code)] _ ?_) ⟨rfl, trivial⟩
    refine wc_seq (fun K0_23' hK_23' => ?_)
    refine wc_region ?_
    refine WL.val (OV.move rfl) rfl rfl rfl ?_
    obtain ⟨o_5', h⟩ := h
    refine WL.call (A := []) tf_ent_9 rfl (itoa_does te fre code o_5') rfl ⟨.inr (List.mem_of_getElem? (i := 0) rfl), trivial⟩ rfl rfl ?_
    obtain ⟨o_6', h⟩ := h
    refine WL.val (OV.cat rfl rfl o_6') rfl rfl rfl ?_
    refine WL.val (OV.assign rfl) rfl rfl rfl ?_
    refine WL.nil ?_
    refine KX.go (hK_23' [(2, st (([101, 114, 114, 111, 114, 32] : List UInt8) ++ (Lib.itoa code)))] _ ?_) ⟨rfl, trivial⟩
    refine wc_ret ?_
    exact hE.ret [] rfl rfl (.inl ⟨_, h, rfl⟩) (ResV.of1 rfl (RV.tmp rfl))

def shown_vc (code : Int) (K : Bool → Prop) : Prop :=
  ∃ (J0 : Bool → Prop),
    (∀ (t4 : Bool), J0 t4 →
      (if t4 = true then
        K true
      else
        K false)) ∧
    (if (decide (code = 81)) = true then
      J0 (decide (code = 81))
    else
      (if (decide (code = 82)) = true then
        J0 (decide (code = 82))
      else
        (if (decide (code = 83)) = true then
          J0 (decide (code = 83))
        else
          (if (decide (code = 84)) = true then
            J0 (decide (code = 84))
          else
            (if (decide (code = 85)) = true then
              J0 (decide (code = 85))
            else
              (if (decide (code = 86)) = true then
                J0 (decide (code = 86))
              else
                (if (decide (code = 87)) = true then
                  J0 (decide (code = 87))
                else
                  (if (decide (code = 89)) = true then
                    J0 (decide (code = 89))
                  else
                    J0 (decide (code = 90))))))))))
set_option maxRecDepth 100000 in
theorem shown_wp  (code : Int) (K : Bool → Prop) (h : shown_vc code K) :
    Does Tryd.prog 11 [Value.int .i64 code] [] [] (fun o => (∃ (v : Bool), K v ∧ o = .ret (Value.bool v) []) ∨ (False)) := by
  unfold shown_vc at h
  refine does_of_wc (n := 14) (L0 := [(0, Value.int .i64 code)]) Tryd.func11 rfl rfl rfl rfl (fun w0 M Q hE => ?_)
  refine wc_seq (fun K0 hK => ?_)
  refine wc_region ?_
  refine WL.val (OV.assign rfl) rfl rfl rfl ?_
  refine WL.nil ?_
  refine KX.go (hK [(0, Value.int .i64 code)] _ ?_) ⟨rfl, trivial⟩
  refine wc_seq (fun K0_1' hK_1' => ?_)
  refine wc_seq (fun K0_2' hK_2' => ?_)
  refine wc_region ?_
  refine WL.val (OV.move rfl) rfl rfl rfl ?_
  refine WL.nil ?_
  refine KX.go (hK_2' [(3, Value.int .i64 code)] _ ?_) ⟨rfl, trivial⟩
  refine wc_block ?_
  obtain ⟨J0, hJ, h⟩ := h
  refine wc_seqJ (X := Bool) (fun σ => J0 σ) (fun σ => [(4, Value.bool σ)]) (fun σ => []) ?_ (fun K0_11' hK_11' => ?_)
  · rintro t4 hj
    replace h := hJ t4 hj
    show WC _ _ _ _ [(4, Value.bool t4)] []
    refine wc_cond (b := t4) rfl (fun hb => ?_) (fun hb => ?_)
    · replace h := if_T h hb
      refine wc_seq (fun K0_12' hK_12' => ?_)
      refine wc_region ?_
      refine WL.val (OV.assign rfl) rfl rfl rfl ?_
      refine WL.nil ?_
      refine KX.go (hK_12' [(2, Value.bool true)] _ ?_) ⟨rfl, trivial⟩
      refine wc_ret ?_
      exact hE.ret [] rfl rfl (.inl ⟨_, h, rfl⟩) (ResV.of1 rfl (RV.tmp rfl))
    · replace h := if_F h hb
      refine wc_skip ?_
      refine KX.go (hK_1' [] _ ?_) trivial
      refine wc_seq (fun K0_13' hK_13' => ?_)
      refine wc_region ?_
      refine WL.val (OV.assign rfl) rfl rfl rfl ?_
      refine WL.nil ?_
      refine KX.go (hK_13' [(2, Value.bool false)] _ ?_) ⟨rfl, trivial⟩
      refine wc_ret ?_
      exact hE.ret [] rfl rfl (.inl ⟨_, h, rfl⟩) (ResV.of1 rfl (RV.tmp rfl))
  · skip
    refine wc_seq (fun K0_14' hK_14' => ?_)
    refine wc_region ?_
    refine WL.val (OV.eql rfl rfl) rfl rfl rfl ?_
    refine WL.val (OV.assign rfl) rfl rfl rfl ?_
    refine WL.nil ?_
    refine KX.go (hK_14' [(3, Value.int .i64 code), (4, Value.bool (decide (code = 81)))] _ ?_) ⟨rfl, rfl, trivial⟩
    refine wc_cond (b := decide (code = 81)) rfl (fun hb => ?_) (fun hb => ?_)
    · replace h := if_T h hb
      refine wc_skip ?_
      exact KX.goH (hK_11' (decide (code = 81)) h) ⟨rfl, trivial⟩ [] rfl rfl
    · replace h := if_F h hb
      refine wc_seq (fun K0_15' hK_15' => ?_)
      refine wc_region ?_
      refine WL.val (OV.eql rfl rfl) rfl rfl rfl ?_
      refine WL.val (OV.assign rfl) rfl rfl rfl ?_
      refine WL.nil ?_
      refine KX.go (hK_15' [(3, Value.int .i64 code), (4, Value.bool (decide (code = 82)))] _ ?_) ⟨rfl, rfl, trivial⟩
      refine wc_cond (b := decide (code = 82)) rfl (fun hb => ?_) (fun hb => ?_)
      · replace h := if_T h hb
        refine wc_skip ?_
        exact KX.goH (hK_11' (decide (code = 82)) h) ⟨rfl, trivial⟩ [] rfl rfl
      · replace h := if_F h hb
        refine wc_seq (fun K0_16' hK_16' => ?_)
        refine wc_region ?_
        refine WL.val (OV.eql rfl rfl) rfl rfl rfl ?_
        refine WL.val (OV.assign rfl) rfl rfl rfl ?_
        refine WL.nil ?_
        refine KX.go (hK_16' [(3, Value.int .i64 code), (4, Value.bool (decide (code = 83)))] _ ?_) ⟨rfl, rfl, trivial⟩
        refine wc_cond (b := decide (code = 83)) rfl (fun hb => ?_) (fun hb => ?_)
        · replace h := if_T h hb
          refine wc_skip ?_
          exact KX.goH (hK_11' (decide (code = 83)) h) ⟨rfl, trivial⟩ [] rfl rfl
        · replace h := if_F h hb
          refine wc_seq (fun K0_17' hK_17' => ?_)
          refine wc_region ?_
          refine WL.val (OV.eql rfl rfl) rfl rfl rfl ?_
          refine WL.val (OV.assign rfl) rfl rfl rfl ?_
          refine WL.nil ?_
          refine KX.go (hK_17' [(3, Value.int .i64 code), (4, Value.bool (decide (code = 84)))] _ ?_) ⟨rfl, rfl, trivial⟩
          refine wc_cond (b := decide (code = 84)) rfl (fun hb => ?_) (fun hb => ?_)
          · replace h := if_T h hb
            refine wc_skip ?_
            exact KX.goH (hK_11' (decide (code = 84)) h) ⟨rfl, trivial⟩ [] rfl rfl
          · replace h := if_F h hb
            refine wc_seq (fun K0_18' hK_18' => ?_)
            refine wc_region ?_
            refine WL.val (OV.eql rfl rfl) rfl rfl rfl ?_
            refine WL.val (OV.assign rfl) rfl rfl rfl ?_
            refine WL.nil ?_
            refine KX.go (hK_18' [(3, Value.int .i64 code), (4, Value.bool (decide (code = 85)))] _ ?_) ⟨rfl, rfl, trivial⟩
            refine wc_cond (b := decide (code = 85)) rfl (fun hb => ?_) (fun hb => ?_)
            · replace h := if_T h hb
              refine wc_skip ?_
              exact KX.goH (hK_11' (decide (code = 85)) h) ⟨rfl, trivial⟩ [] rfl rfl
            · replace h := if_F h hb
              refine wc_seq (fun K0_19' hK_19' => ?_)
              refine wc_region ?_
              refine WL.val (OV.eql rfl rfl) rfl rfl rfl ?_
              refine WL.val (OV.assign rfl) rfl rfl rfl ?_
              refine WL.nil ?_
              refine KX.go (hK_19' [(3, Value.int .i64 code), (4, Value.bool (decide (code = 86)))] _ ?_) ⟨rfl, rfl, trivial⟩
              refine wc_cond (b := decide (code = 86)) rfl (fun hb => ?_) (fun hb => ?_)
              · replace h := if_T h hb
                refine wc_skip ?_
                exact KX.goH (hK_11' (decide (code = 86)) h) ⟨rfl, trivial⟩ [] rfl rfl
              · replace h := if_F h hb
                refine wc_seq (fun K0_20' hK_20' => ?_)
                refine wc_region ?_
                refine WL.val (OV.eql rfl rfl) rfl rfl rfl ?_
                refine WL.val (OV.assign rfl) rfl rfl rfl ?_
                refine WL.nil ?_
                refine KX.go (hK_20' [(3, Value.int .i64 code), (4, Value.bool (decide (code = 87)))] _ ?_) ⟨rfl, rfl, trivial⟩
                refine wc_cond (b := decide (code = 87)) rfl (fun hb => ?_) (fun hb => ?_)
                · replace h := if_T h hb
                  refine wc_skip ?_
                  exact KX.goH (hK_11' (decide (code = 87)) h) ⟨rfl, trivial⟩ [] rfl rfl
                · replace h := if_F h hb
                  refine wc_seq (fun K0_21' hK_21' => ?_)
                  refine wc_region ?_
                  refine WL.val (OV.eql rfl rfl) rfl rfl rfl ?_
                  refine WL.val (OV.assign rfl) rfl rfl rfl ?_
                  refine WL.nil ?_
                  refine KX.go (hK_21' [(3, Value.int .i64 code), (4, Value.bool (decide (code = 89)))] _ ?_) ⟨rfl, rfl, trivial⟩
                  refine wc_cond (b := decide (code = 89)) rfl (fun hb => ?_) (fun hb => ?_)
                  · replace h := if_T h hb
                    refine wc_skip ?_
                    exact KX.goH (hK_11' (decide (code = 89)) h) ⟨rfl, trivial⟩ [] rfl rfl
                  · replace h := if_F h hb
                    refine wc_region ?_
                    refine WL.val (OV.eql rfl rfl) rfl rfl rfl ?_
                    refine WL.val (OV.assign rfl) rfl rfl rfl ?_
                    refine WL.nil ?_
                    exact KX.goH (hK_11' (decide (code = 90)) h) ⟨rfl, trivial⟩ [] rfl rfl

theorem name_does (te : TypeId) (fre : Nat × Nat) (c : Int) (h : I64 c) : Does Tryd.prog 10 [.int .i64 c] [(1, .cells powCells.toArray te fre)] [] (Ret (st (pnameL c)) []) := by
  refine (name_wp te fre c (fun r => r = pnameL c) ?_).weak (by rintro o (⟨v, rfl, rfl⟩ | h) <;> first | rfl | exact h.elim)
  have hil := itoa_len h
  unfold name_vc
  have hlen : nameTab.length = 42 := rfl
  refine ⟨fun i => 0 ≤ i ∧ i ≤ 42 ∧ ∀ j : Nat, (j : Int) < i → (nameTab.getD j (0, [])).1 ≠ c, fun i => (42 - i).toNat, ⟨by omega, by omega, fun j hj => by omega⟩, fun i ⟨h0, h1, hn⟩ => ?_⟩
  by_cases hi : i < 42
  · rw [if_pos (by simpa using hi)]
    refine ⟨⟨hlen, h0, hi⟩, ?_⟩
    by_cases he : (nameTab.getD i.toNat (0, [])).1 = c
    · rw [if_pos (by simpa using he)]
      unfold pnameL
      rw [find_at (d := (0, [])) (i := i.toNat) (by omega) (by simpa using he) (fun j hj => by simpa using hn j (by omega))]
    · rw [if_neg (by simpa using he)]
      refine ⟨⟨by omega, by omega⟩, ⟨by omega, by omega, fun j hj => ?_⟩, by show (42 - (i + 1)).toNat < (42 - i).toNat; omega⟩
      by_cases hji : (j : Int) < i
      · exact hn j hji
      · rw [show j = i.toNat by omega]; exact he
  · rw [if_neg (by simpa using hi)]
    refine ⟨h, by simp only [List.length_cons, List.length_nil]; omega, ?_⟩
    unfold pnameL
    rw [find_no (d := (0, [])) fun j hj => by simpa using hn j (by omega)]
theorem name_none {c : Int} (h : ∀ x ∈ nameTab, x.1 ≠ c) : pnameL c = [101, 114, 114, 111, 114, 32] ++ Lib.itoa c := by
  unfold pnameL
  rw [List.find?_eq_none.2 fun x hx => by simpa using h x hx]
/-- Is the witness shown even where it is empty? -/
def shownB (c : Int) : Bool := (((decide (81 ≤ c)) && (decide (c ≤ 87))) || (decide (c = 89))) || (decide (c = 90))
theorem shown_does (c : Int) : Does Tryd.prog 11 [.int .i64 c] [] [] (Ret (.bool (shownB c)) []) := by
  refine (shown_wp c (fun r => r = shownB c) ?_).weak (by rintro o (⟨v, rfl, rfl⟩ | h) <;> first | rfl | exact h.elim)
  unfold shown_vc
  refine ⟨fun b => b = shownB c, fun b hb => ?_, ?_⟩
  · subst hb
    cases shownB c <;> simp
  · skip
    by_cases n81 : c = 81
    · rw [if_pos (by simpa using n81)]; subst n81; rfl
    rw [if_neg (by simpa using n81)]
    by_cases n82 : c = 82
    · rw [if_pos (by simpa using n82)]; subst n82; rfl
    rw [if_neg (by simpa using n82)]
    by_cases n83 : c = 83
    · rw [if_pos (by simpa using n83)]; subst n83; rfl
    rw [if_neg (by simpa using n83)]
    by_cases n84 : c = 84
    · rw [if_pos (by simpa using n84)]; subst n84; rfl
    rw [if_neg (by simpa using n84)]
    by_cases n85 : c = 85
    · rw [if_pos (by simpa using n85)]; subst n85; rfl
    rw [if_neg (by simpa using n85)]
    by_cases n86 : c = 86
    · rw [if_pos (by simpa using n86)]; subst n86; rfl
    rw [if_neg (by simpa using n86)]
    by_cases n87 : c = 87
    · rw [if_pos (by simpa using n87)]; subst n87; rfl
    rw [if_neg (by simpa using n87)]
    by_cases n89 : c = 89
    · rw [if_pos (by simpa using n89)]; subst n89; rfl
    rw [if_neg (by simpa using n89)]
    unfold shownB
    rw [show (decide (81 ≤ c) && decide (c ≤ 87)) = false by simp; omega, show decide (c = 89) = false by simpa using n89]; rfl

end Go.Proofs.YtlfolgbaageknaaDoor
