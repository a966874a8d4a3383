/-
  Words of numbers.
-/
import Derived.Test.YtiaafdjdppganaaDoorPlV
namespace Go.Proofs.YtiaafdjdppganaaDoor
open Go Go.RowKit

theorem tf_some_3 : (Tryd.prog.underlying 3).isSome = true := by kernel_rfl
theorem tf_some_51 : (Tryd.prog.underlying 51).isSome = true := by kernel_rfl
theorem tf_sl_44 : slB Tryd.prog 44 5 1 = true := by kernel_rfl
theorem tf_zero_48 : zeroB Tryd.prog 48 = some ((noTab).flatMap callC) := by kernel_rfl
theorem tf_size_48 : sizeB Tryd.prog 48 84 = true := by kernel_rfl
theorem tf_row_48 : RowT Tryd.prog 48 84 := ⟨by kernel_rfl, by kernel_rfl⟩
theorem tf_arr_48 : arrB Tryd.prog 48 47 42 2 = true := by kernel_rfl
theorem tf_row_47 : RowT Tryd.prog 47 2 := ⟨by kernel_rfl, by kernel_rfl⟩
theorem tf_zero_47 : zeroB Tryd.prog 47 = some [Value.int .i64 0, st []] := by kernel_rfl
theorem tf_size_47 : sizeB Tryd.prog 47 2 = true := by kernel_rfl
theorem tf_field_47_0 : fieldOff Tryd.prog 47 0 = some 0 := by kernel_rfl
theorem tf_scal_29 : scalB Tryd.prog 29 = true := by kernel_rfl
theorem tf_field_47_1 : fieldOff Tryd.prog 47 1 = some 1 := by kernel_rfl
theorem tf_scal_9 : scalB Tryd.prog 9 = true := by kernel_rfl
theorem tf_ent_22 : entB Tryd.prog 22 = true := by kernel_rfl
theorem tf_ent_23 : entB Tryd.prog 23 = true := by kernel_rfl

def num_vc (n : Int) (K : (List UInt8) → Prop) : Prop :=
  ∃ (J0 : Int → (List UInt8) → Prop),
    (∀ (u : Int) (head : List UInt8), J0 u head →
      ∃ (Inv : Int → (List UInt8) → Prop) (mu : Int → (List UInt8) → Nat),
        Inv u [] ∧ ∀ (u_2' : Int) (out_1' : List UInt8), Inv u_2' out_1' →
          (0 ≤ u_2' ∧ 0 < (10 : Int)) ∧
          (0 ≤ IntKind.wrap .u8 (IntKind.wrap .u64 (48 + (u_2' % 10))) ∧ IntKind.wrap .u8 (IntKind.wrap .u64 (48 + (u_2' % 10))) < 256) ∧
          ([(IntKind.wrap .u8 (IntKind.wrap .u64 (48 + (u_2' % 10)))).toNat.toUInt8].length + out_1'.length ≤ 9223372036854775807) ∧
          (0 ≤ u_2' ∧ u_2' ≤ 18446744073709551615 ∧ 0 < (10 : Int)) ∧
          (if (decide (u_2' / 10 = 0)) = true then
            (head.length + ([(IntKind.wrap .u8 (IntKind.wrap .u64 (48 + (u_2' % 10)))).toNat.toUInt8] ++ out_1').length ≤ 9223372036854775807) ∧
            K (head ++ ([(IntKind.wrap .u8 (IntKind.wrap .u64 (48 + (u_2' % 10)))).toNat.toUInt8] ++ out_1'))
          else
            Inv (u_2' / 10) ([(IntKind.wrap .u8 (IntKind.wrap .u64 (48 + (u_2' % 10)))).toNat.toUInt8] ++ out_1') ∧ mu (u_2' / 10) ([(IntKind.wrap .u8 (IntKind.wrap .u64 (48 + (u_2' % 10)))).toNat.toUInt8] ++ out_1') < mu u_2' out_1')) ∧
    (if (decide (n < 0)) = true then
      (0 ≤ (IntKind.wrap .u64 n) ∧ (IntKind.wrap .u64 n) ≤ 18446744073709551615) ∧
      J0 (IntKind.wrap .u64 ((18446744073709551615 - (IntKind.wrap .u64 n)) + 1)) ([45] : List UInt8)
    else
      J0 (IntKind.wrap .u64 n) [])
set_option maxRecDepth 100000 in
theorem num_wp  (n : Int) (K : (List UInt8) → Prop) (h : num_vc n K) :
    Does Tryd.prog 23 [Value.int .i64 n] [] [] (fun o => (∃ (v : List UInt8), K v ∧ o = .ret (st v) []) ∨ (False)) := by
  unfold num_vc at h
  refine does_of_wc (n := 28) (L0 := [(0, Value.int .i64 n)]) Tryd.func23 rfl rfl rfl rfl (fun w0 M Q hE => ?_)
  refine wc_seq (fun K0 hK => ?_)
  refine wc_region ?_
  refine WL.val (OV.assign rfl) rfl rfl rfl ?_
  refine WL.nil ?_
  refine KX.go (hK [(0, Value.int .i64 n)] _ ?_) ⟨rfl, trivial⟩
  refine wc_seq (fun K0_1' hK_1' => ?_)
  refine wc_region ?_
  refine WL.val (OV.move rfl) rfl rfl rfl ?_
  refine WL.val (OV.conv rfl tf_some_3 Tryd.underlying51) rfl rfl rfl ?_
  refine WL.val (OV.assign rfl) rfl rfl rfl ?_
  refine WL.nil ?_
  refine KX.go (hK_1' [(0, Value.int .i64 n), (3, Value.int .u64 (IntKind.wrap .u64 n))] _ ?_) ⟨rfl, rfl, trivial⟩
  refine wc_seq (fun K0_2' hK_2' => ?_)
  refine wc_region ?_
  refine WL.val (OV.assign rfl) rfl rfl rfl ?_
  refine WL.nil ?_
  refine KX.go (hK_2' [(0, Value.int .i64 n), (3, Value.int .u64 (IntKind.wrap .u64 n)), (4, st [])] _ ?_) ⟨rfl, rfl, rfl, trivial⟩
  obtain ⟨J0, hJ, h⟩ := h
  refine wc_seqJ (X := Int × (List UInt8)) (fun σ => J0 σ.1 σ.2) (fun σ => [(3, Value.int .u64 σ.1), (4, st σ.2)]) (fun σ => []) ?_ (fun K0_5' hK_5' => ?_)
  · rintro ⟨u, head⟩ hj
    replace h := hJ u head hj
    show WC _ _ _ _ [(3, Value.int .u64 u), (4, st head)] []
    refine wc_seq (fun K0_6' hK_6' => ?_)
    refine wc_region ?_
    refine WL.val (OV.assign rfl) rfl rfl rfl ?_
    refine WL.nil ?_
    refine KX.go (hK_6' [(3, Value.int .u64 u), (4, st head), (5, st [])] _ ?_) ⟨rfl, rfl, rfl, trivial⟩
    refine wc_block ?_
    obtain ⟨Inv, mu, h0, hr⟩ := h
    refine wc_loop (S := Int × (List UInt8)) (fun σ => Inv σ.1 σ.2) (fun σ => mu σ.1 σ.2) (fun σ => [(3, Value.int .u64 σ.1), (4, st head), (5, st σ.2)]) (fun σ => []) (u, []) h0 ⟨rfl, rfl, rfl, trivial⟩ rfl ?_
    rintro ⟨u_2', out_1'⟩ hi K0_15' hK_15'
    have h := hr u_2' out_1' hi
    show WC _ _ _ _ [(3, Value.int .u64 u_2'), (4, st head), (5, st out_1')] []
    refine wc_block ?_
    refine wc_seq (fun K0_16' hK_16' => ?_)
    refine wc_region ?_
    refine WL.val (OV.move rfl) rfl rfl rfl ?_
    obtain ⟨o_11', h⟩ := h
    refine WL.val (OV.rem rfl rfl o_11') rfl rfl rfl ?_
    refine WL.val (OV.addW rfl rfl) rfl rfl rfl ?_
    refine WL.val (OV.conv rfl tf_some_51 Tryd.underlying5) rfl rfl rfl ?_
    obtain ⟨o_12', h⟩ := h
    refine WL.make (MV.buildSlice (cs := [Value.int .u8 (IntKind.wrap .u8 (IntKind.wrap .u64 (48 + (u_2' % 10))))]) rfl tf_sl_44 (by kernel_rfl)) rfl rfl rfl (fun b_2' => ?_)
    refine WL.asRow (f := byteC) (ms := [(IntKind.wrap .u8 (IntKind.wrap .u64 (48 + (u_2' % 10)))).toNat.toUInt8]) 0 rfl (byte_cell o_12') rfl byteC_len rfl ?_
    refine WL.val (OV.bytesRow (l := [(IntKind.wrap .u8 (IntKind.wrap .u64 (48 + (u_2' % 10)))).toNat.toUInt8]) 0 rfl rfl tf_sl_44 Tryd.underlying5 tf_str_9) rfl rfl rfl ?_
    refine WL.val (OV.move rfl) rfl rfl rfl ?_
    obtain ⟨o_13', h⟩ := h
    refine WL.val (OV.cat rfl rfl o_13') rfl rfl rfl ?_
    refine WL.val (OV.assign rfl) rfl rfl rfl ?_
    refine WL.nil ?_
    refine KX.go (hK_16' [(3, Value.int .u64 u_2'), (4, st head), (5, st ([(IntKind.wrap .u8 (IntKind.wrap .u64 (48 + (u_2' % 10)))).toNat.toUInt8] ++ out_1'))] _ ?_) ⟨rfl, rfl, rfl, trivial⟩
    refine wc_seq (fun K0_17' hK_17' => ?_)
    refine wc_region ?_
    refine WL.val (OV.move rfl) rfl rfl rfl ?_
    obtain ⟨o_14', h⟩ := h
    refine WL.val (OV.quoU rfl rfl o_14') rfl rfl rfl ?_
    refine WL.val (OV.assign rfl) rfl rfl rfl ?_
    refine WL.nil ?_
    refine KX.go (hK_17' [(3, Value.int .u64 (u_2' / 10)), (4, st head), (5, st ([(IntKind.wrap .u8 (IntKind.wrap .u64 (48 + (u_2' % 10)))).toNat.toUInt8] ++ out_1'))] _ ?_) ⟨rfl, rfl, rfl, trivial⟩
    refine wc_seq (fun K0_18' hK_18' => ?_)
    refine wc_region ?_
    refine WL.val (OV.move rfl) rfl rfl rfl ?_
    refine WL.val (OV.eql rfl rfl) rfl rfl rfl ?_
    refine WL.nil ?_
    refine KX.go (hK_18' [(3, Value.int .u64 (u_2' / 10)), (4, st head), (5, st ([(IntKind.wrap .u8 (IntKind.wrap .u64 (48 + (u_2' % 10)))).toNat.toUInt8] ++ out_1')), (24, Value.bool (decide (u_2' / 10 = 0)))] _ ?_) ⟨rfl, rfl, rfl, rfl, trivial⟩
    refine wc_cond (b := decide (u_2' / 10 = 0)) rfl (fun hb => ?_) (fun hb => ?_)
    · replace h := if_T h hb
      refine wc_seq (fun K0_19' hK_19' => ?_)
      refine wc_region ?_
      refine WL.val (OV.move rfl) rfl rfl rfl ?_
      refine WL.val (OV.move rfl) rfl rfl rfl ?_
      obtain ⟨o_15', h⟩ := h
      refine WL.val (OV.cat rfl rfl o_15') rfl rfl rfl ?_
      refine WL.val (OV.assign rfl) rfl rfl rfl ?_
      refine WL.nil ?_
      refine KX.go (hK_19' [(2, st (head ++ ([(IntKind.wrap .u8 (IntKind.wrap .u64 (48 + (u_2' % 10)))).toNat.toUInt8] ++ out_1')))] _ ?_) ⟨rfl, trivial⟩
      refine wc_ret ?_
      exact hE.ret [] rfl rfl (.inl ⟨_, h, rfl⟩) (ResV.of1 rfl (RV.tmp rfl))
    · replace h := if_F h hb
      refine wc_skip ?_
      exact KX.goH (hK_15' (u_2' / 10, [(IntKind.wrap .u8 (IntKind.wrap .u64 (48 + (u_2' % 10)))).toNat.toUInt8] ++ out_1') h.1 h.2) ⟨rfl, rfl, rfl, trivial⟩ [] rfl rfl
  · skip
    refine wc_seq (fun K0_20' hK_20' => ?_)
    refine wc_region ?_
    refine WL.val (OV.move rfl) rfl rfl rfl ?_
    refine WL.val (OV.lss rfl rfl) rfl rfl rfl ?_
    refine WL.nil ?_
    refine KX.go (hK_20' [(3, Value.int .u64 (IntKind.wrap .u64 n)), (4, st []), (9, Value.bool (decide (n < 0)))] _ ?_) ⟨rfl, rfl, rfl, trivial⟩
    refine wc_cond (b := decide (n < 0)) rfl (fun hb => ?_) (fun hb => ?_)
    · replace h := if_T h hb
      refine wc_seq (fun K0_21' hK_21' => ?_)
      refine wc_region ?_
      refine WL.val (OV.move rfl) rfl rfl rfl ?_
      obtain ⟨o_16', h⟩ := h
      refine WL.val (OV.compl rfl o_16') rfl rfl rfl ?_
      refine WL.val (OV.addW rfl rfl) rfl rfl rfl ?_
      refine WL.val (OV.assign rfl) rfl rfl rfl ?_
      refine WL.nil ?_
      refine KX.go (hK_21' [(3, Value.int .u64 (IntKind.wrap .u64 ((18446744073709551615 - (IntKind.wrap .u64 n)) + 1)))] _ ?_) ⟨rfl, trivial⟩
      refine wc_region ?_
      refine WL.val (OV.assign rfl) rfl rfl rfl ?_
      refine WL.nil ?_
      exact KX.goH (hK_5' (IntKind.wrap .u64 ((18446744073709551615 - (IntKind.wrap .u64 n)) + 1), ([45] : List UInt8)) h) ⟨rfl, rfl, trivial⟩ [] rfl rfl
    · replace h := if_F h hb
      refine wc_skip ?_
      exact KX.goH (hK_5' (IntKind.wrap .u64 n, []) h) ⟨rfl, rfl, trivial⟩ [] rfl rfl

theorem digits_len : ∀ (k u : Nat), u < 10 ^ (k + 1) → (Lib.decDigits u).length ≤ k + 1
  | 0, u, h => by rw [Lib.decDigits, dif_pos (by simpa using h)]; simp
  | k + 1, u, h => by
    rw [Lib.decDigits]
    split
    · simp
    · rw [List.length_append]
      have := digits_len k (u / 10) (by rw [Nat.pow_succ] at h; omega)
      simp only [List.length_cons, List.length_nil]; omega
theorem itoa_len {n : Int} (h : I64 n) : (Lib.itoa n).length ≤ 21 := by
  have h1 := h.1
  have h2 := h.2
  unfold Lib.itoa
  split
  · have := digits_len 19 n.natAbs (by omega)
    simp only [List.length_cons]; omega
  · have := digits_len 19 n.toNat (by omega)
    omega
theorem wrap_u64 (n : Int) : IntKind.u64.wrap n = n % 18446744073709551616 := by
  unfold IntKind.wrap
  simp [IntKind.bits, IntKind.signed]
theorem digit_u8 (u : Int) : IntKind.wrap .u8 (IntKind.wrap .u64 (48 + u % 10)) = 48 + u % 10 := by
  rw [IntWalk.u64_in _ ⟨by omega, by omega⟩, IntWalk.u8_in _ ⟨by omega, by omega⟩]
theorem number_does (n : Int) (h : I64 n) : Does Tryd.prog 23 [.int .i64 n] [] [] (Ret (st (Lib.itoa n)) []) := by
  refine (num_wp n (fun r => r = Lib.itoa n) ?_).weak (by rintro o (⟨v, rfl, rfl⟩ | h) <;> first | rfl | exact h.elim)
  have h1 := h.1
  have h2 := h.2
  have hil := itoa_len h
  unfold num_vc
  refine ⟨fun u head => 0 ≤ u ∧ u < 18446744073709551616 ∧ head ++ Lib.decDigits u.toNat = Lib.itoa n, fun u head ⟨a1, a2, a3⟩ => ?_, ?_⟩
  · refine ⟨fun v out => 0 ≤ v ∧ v < 18446744073709551616 ∧ head ++ (Lib.decDigits v.toNat ++ out) = Lib.itoa n, fun v _ => v.toNat, ⟨a1, a2, by simpa using a3⟩, fun v out ⟨b1, b2, b3⟩ => ?_⟩
    have hlen := congrArg List.length b3
    rw [List.length_append, List.length_append] at hlen
    rw [digit_u8]
    have hd : ([(48 + v % 10).toNat.toUInt8] : List UInt8) = [UInt8.ofNat (48 + v.toNat % 10)] := by
      rw [show (48 + v % 10).toNat = 48 + v.toNat % 10 by omega]
    rw [hd]
    refine ⟨⟨b1, by omega⟩, ⟨by omega, by omega⟩, by simp only [List.length_cons, List.length_nil]; omega, ⟨b1, by omega, by omega⟩, ?_⟩
    by_cases hz : v / 10 = 0
    · rw [if_pos (by simpa using hz)]
      have hs : Lib.decDigits v.toNat = [UInt8.ofNat (48 + v.toNat % 10)] := by
        rw [Lib.decDigits, dif_pos (by omega), Nat.mod_eq_of_lt (by omega)]
      rw [hs] at b3
      refine ⟨?_, b3⟩
      have := congrArg List.length b3
      rw [List.length_append] at this
      omega
    · rw [if_neg (by simpa using hz)]
      have hs : Lib.decDigits v.toNat = Lib.decDigits (v / 10).toNat ++ [UInt8.ofNat (48 + v.toNat % 10)] := by
        rw [Lib.decDigits, dif_neg (by omega), show (v / 10).toNat = v.toNat / 10 by omega]
      rw [hs, List.append_assoc] at b3
      exact ⟨⟨by omega, by omega, b3⟩, by show (v / 10).toNat < v.toNat; omega⟩
  · by_cases hn : n < 0
    · rw [if_pos (by simpa using hn), wrap_u64 n, wrap_u64]
      refine ⟨⟨by omega, by omega⟩, by omega, by omega, ?_⟩
      unfold Lib.itoa
      rw [if_pos hn, show ((18446744073709551615 - n % 18446744073709551616 + 1) % 18446744073709551616).toNat = n.natAbs by omega]; rfl
    · rw [if_neg (by simpa using hn), wrap_u64]
      refine ⟨by omega, by omega, ?_⟩
      unfold Lib.itoa
      rw [if_neg hn, show (n % 18446744073709551616).toNat = n.toNat by omega]; rfl

def name_vc (code : Int) (K : (List UInt8) → Prop) : Prop :=
  ∃ (Inv : Int → Prop) (mu : Int → Nat),
    Inv 0 ∧ ∀ (t50_1' : Int), Inv t50_1' →
      (if (decide (t50_1' < 42)) = true then
        (nameTab.length = 42 ∧ 0 ≤ t50_1' ∧ t50_1' < 42) ∧
        (if (decide ((nameTab.getD (t50_1').toNat (0, [])).1 = code)) = true then
          K ((nameTab.getD (t50_1').toNat (0, [])).2)
        else
          (I64 (t50_1' + 1)) ∧
          Inv (t50_1' + 1) ∧ mu (t50_1' + 1) < mu t50_1')
      else
        (I64 code) ∧
        (([101, 114, 114, 111, 114, 32] : List UInt8).length + (Lib.itoa code).length ≤ 9223372036854775807) ∧
        K (([101, 114, 114, 111, 114, 32] : List UInt8) ++ (Lib.itoa code)))
set_option maxRecDepth 100000 in
theorem name_wp (te : TypeId) (fre : Nat × Nat) (code : Int) (K : (List UInt8) → Prop) (h : name_vc code K) :
    Does Tryd.prog 14 [Value.int .i64 code] [(1, .cells [Value.int .u64 1, Value.int .u64 10, Value.int .u64 100, Value.int .u64 1000, Value.int .u64 10000, Value.int .u64 100000, Value.int .u64 1000000, Value.int .u64 10000000, Value.int .u64 100000000, Value.int .u64 1000000000, Value.int .u64 10000000000, Value.int .u64 100000000000, Value.int .u64 1000000000000, Value.int .u64 10000000000000, Value.int .u64 100000000000000, Value.int .u64 1000000000000000, Value.int .u64 10000000000000000, Value.int .u64 100000000000000000, Value.int .u64 1000000000000000000, Value.int .u64 10000000000000000000].toArray te fre)] [] (fun o => (∃ (v : List UInt8), K v ∧ o = .ret (st v) []) ∨ (False)) := by
  unfold name_vc at h
  refine does_of_wc (n := 63) (L0 := [(0, Value.int .i64 code)]) Tryd.func14 rfl rfl rfl rfl (fun w0 M Q hE => ?_)
  refine wc_seq (fun K0 hK => ?_)
  refine wc_region ?_
  refine WL.val (OV.assign rfl) rfl rfl rfl ?_
  refine WL.nil ?_
  refine KX.go (hK [(0, Value.int .i64 code)] _ ?_) ⟨rfl, trivial⟩
  refine wc_seq (fun K0_1' hK_1' => ?_)
  refine wc_region ?_
  refine WL.val (OV.build rfl (cs := [Value.int .i64 0, st ([111, 107] : List UInt8)]) rfl) rfl rfl rfl ?_
  refine WL.val (OV.build rfl (cs := [Value.int .i64 1, st ([116, 111, 111, 32, 108, 111, 110, 103] : List UInt8)]) rfl) rfl rfl rfl ?_
  refine WL.val (OV.build rfl (cs := [Value.int .i64 2, st ([98, 97, 100, 32, 97, 114, 103, 117, 109, 101, 110, 116] : List UInt8)]) rfl) rfl rfl rfl ?_
  refine WL.val (OV.build rfl (cs := [Value.int .i64 3, st ([110, 111, 110, 101] : List UInt8)]) rfl) rfl rfl rfl ?_
  refine WL.val (OV.build rfl (cs := [Value.int .i64 4, st ([116, 111, 111, 32, 98, 105, 103] : List UInt8)]) rfl) rfl rfl rfl ?_
  refine WL.val (OV.build rfl (cs := [Value.int .i64 10, st ([110, 111, 32, 98, 121, 116, 101, 32, 99, 108, 97, 115, 115] : List UInt8)]) rfl) rfl rfl rfl ?_
  refine WL.val (OV.build rfl (cs := [Value.int .i64 20, st ([117, 110, 101, 120, 112, 101, 99, 116, 101, 100, 32, 98, 121, 116, 101] : List UInt8)]) rfl) rfl rfl rfl ?_
  refine WL.val (OV.build rfl (cs := [Value.int .i64 21, st ([117, 110, 99, 108, 111, 115, 101, 100, 32, 112, 97, 114, 101, 110, 116, 104, 101, 115, 105, 115] : List UInt8)]) rfl) rfl rfl rfl ?_
  refine WL.val (OV.build rfl (cs := [Value.int .i64 22, st ([98, 97, 100, 32, 114, 101, 112, 101, 97, 116] : List UInt8)]) rfl) rfl rfl rfl ?_
  refine WL.val (OV.build rfl (cs := [Value.int .i64 23, st ([110, 101, 115, 116, 101, 100, 32, 116, 111, 111, 32, 100, 101, 101, 112] : List UInt8)]) rfl) rfl rfl rfl ?_
  refine WL.val (OV.build rfl (cs := [Value.int .i64 24, st ([116, 111, 111, 32, 108, 97, 114, 103, 101] : List UInt8)]) rfl) rfl rfl rfl ?_
  refine WL.val (OV.build rfl (cs := [Value.int .i64 30, st ([110, 111, 32, 115, 101, 116, 32, 115, 105, 103, 110, 32, 104, 101, 114, 101] : List UInt8)]) rfl) rfl rfl rfl ?_
  refine WL.val (OV.build rfl (cs := [Value.int .i64 40, st ([111, 117, 116, 32, 111, 102, 32, 115, 116, 97, 116, 101, 115] : List UInt8)]) rfl) rfl rfl rfl ?_
  refine WL.val (OV.build rfl (cs := [Value.int .i64 50, st ([110, 111, 32, 116, 111, 107, 101, 110] : List UInt8)]) rfl) rfl rfl rfl ?_
  refine WL.val (OV.build rfl (cs := [Value.int .i64 51, st ([117, 110, 99, 108, 111, 115, 101, 100, 32, 116, 101, 120, 116] : List UInt8)]) rfl) rfl rfl rfl ?_
  refine WL.val (OV.build rfl (cs := [Value.int .i64 52, st ([117, 110, 99, 108, 111, 115, 101, 100, 32, 114, 101, 103, 101, 120] : List UInt8)]) rfl) rfl rfl rfl ?_
  refine WL.val (OV.build rfl (cs := [Value.int .i64 60, st ([117, 110, 101, 120, 112, 101, 99, 116, 101, 100, 32, 116, 111, 107, 101, 110] : List UInt8)]) rfl) rfl rfl rfl ?_
  refine WL.val (OV.build rfl (cs := [Value.int .i64 70, st ([117, 110, 107, 110, 111, 119, 110, 32, 110, 97, 109, 101] : List UInt8)]) rfl) rfl rfl rfl ?_
  refine WL.val (OV.build rfl (cs := [Value.int .i64 71, st ([110, 97, 109, 101, 32, 98, 111, 117, 110, 100, 32, 116, 119, 105, 99, 101] : List UInt8)]) rfl) rfl rfl rfl ?_
  refine WL.val (OV.build rfl (cs := [Value.int .i64 72, st ([119, 114, 111, 110, 103, 32, 107, 105, 110, 100] : List UInt8)]) rfl) rfl rfl rfl ?_
  refine WL.val (OV.build rfl (cs := [Value.int .i64 80, st ([100, 101, 102, 97, 117, 108, 116, 32, 111, 117, 116, 115, 105, 100, 101, 32, 105, 116, 115, 32, 116, 121, 112, 101] : List UInt8)]) rfl) rfl rfl rfl ?_
  refine WL.val (OV.build rfl (cs := [Value.int .i64 81, st ([97, 109, 98, 105, 103, 117, 111, 117, 115, 32, 115, 111, 117, 114, 99, 101, 32, 99, 111, 110, 99, 97, 116, 101, 110, 97, 116, 105, 111, 110] : List UInt8)]) rfl) rfl rfl rfl ?_
  refine WL.val (OV.build rfl (cs := [Value.int .i64 82, st ([97, 109, 98, 105, 103, 117, 111, 117, 115, 32, 118, 105, 101, 119, 32, 99, 111, 110, 99, 97, 116, 101, 110, 97, 116, 105, 111, 110] : List UInt8)]) rfl) rfl rfl rfl ?_
  refine WL.val (OV.build rfl (cs := [Value.int .i64 83, st ([97, 109, 98, 105, 103, 117, 111, 117, 115, 32, 115, 111, 117, 114, 99, 101, 32, 105, 116, 101, 114, 97, 116, 105, 111, 110] : List UInt8)]) rfl) rfl rfl rfl ?_
  refine WL.val (OV.build rfl (cs := [Value.int .i64 84, st ([97, 109, 98, 105, 103, 117, 111, 117, 115, 32, 118, 105, 101, 119, 32, 105, 116, 101, 114, 97, 116, 105, 111, 110] : List UInt8)]) rfl) rfl rfl rfl ?_
  refine WL.val (OV.build rfl (cs := [Value.int .i64 85, st ([111, 118, 101, 114, 108, 97, 112, 112, 105, 110, 103, 32, 115, 111, 117, 114, 99, 101, 115] : List UInt8)]) rfl) rfl rfl rfl ?_
  refine WL.val (OV.build rfl (cs := [Value.int .i64 86, st ([111, 118, 101, 114, 108, 97, 112, 112, 105, 110, 103, 32, 118, 105, 101, 119, 115] : List UInt8)]) rfl) rfl rfl rfl ?_
  refine WL.val (OV.build rfl (cs := [Value.int .i64 87, st ([109, 105, 100, 100, 108, 101, 32, 116, 121, 112, 101, 115, 32, 100, 105, 102, 102, 101, 114] : List UInt8)]) rfl) rfl rfl rfl ?_
  refine WL.val (OV.build rfl (cs := [Value.int .i64 88, st ([113, 117, 111, 116, 105, 101, 110, 116, 32, 105, 110, 32, 116, 104, 101, 32, 109, 105, 100, 100, 108, 101] : List UInt8)]) rfl) rfl rfl rfl ?_
  refine WL.val (OV.build rfl (cs := [Value.int .i64 89, st ([99, 97, 110, 111, 110, 105, 122, 101, 114, 32, 111, 117, 116, 32, 111, 102, 32, 112, 108, 97, 99, 101] : List UInt8)]) rfl) rfl rfl rfl ?_
  refine WL.val (OV.build rfl (cs := [Value.int .i64 90, st ([99, 97, 112, 105, 116, 97, 108, 32, 108, 101, 116, 116, 101, 114] : List UInt8)]) rfl) rfl rfl rfl ?_
  refine WL.val (OV.build rfl (cs := [Value.int .i64 100, st ([110, 111, 32, 115, 111, 117, 114, 99, 101] : List UInt8)]) rfl) rfl rfl rfl ?_
  refine WL.val (OV.build rfl (cs := [Value.int .i64 101, st ([110, 111, 32, 118, 105, 101, 119] : List UInt8)]) rfl) rfl rfl rfl ?_
  refine WL.val (OV.build rfl (cs := [Value.int .i64 110, st ([98, 97, 100, 32, 108, 105, 110, 101] : List UInt8)]) rfl) rfl rfl rfl ?_
  refine WL.val (OV.build rfl (cs := [Value.int .i64 111, st ([98, 97, 100, 32, 111, 112, 101, 114, 97, 110, 100] : List UInt8)]) rfl) rfl rfl rfl ?_
  refine WL.val (OV.build rfl (cs := [Value.int .i64 112, st ([101, 109, 112, 116, 121, 32, 115, 116, 97, 99, 107] : List UInt8)]) rfl) rfl rfl rfl ?_
  refine WL.val (OV.build rfl (cs := [Value.int .i64 113, st ([110, 111, 32, 99, 117, 116] : List UInt8)]) rfl) rfl rfl rfl ?_
  refine WL.val (OV.build rfl (cs := [Value.int .i64 114, st ([111, 117, 116, 32, 111, 102, 32, 115, 116, 101, 112, 115] : List UInt8)]) rfl) rfl rfl rfl ?_
  refine WL.val (OV.build rfl (cs := [Value.int .i64 115, st ([116, 111, 111, 32, 109, 97, 110, 121, 32, 99, 97, 108, 108, 115] : List UInt8)]) rfl) rfl rfl rfl ?_
  refine WL.val (OV.build rfl (cs := [Value.int .i64 120, st ([101, 110, 100, 101, 100] : List UInt8)]) rfl) rfl rfl rfl ?_
  refine WL.val (OV.build rfl (cs := [Value.int .i64 130, st ([98, 97, 100, 32, 101, 100, 105, 116] : List UInt8)]) rfl) rfl rfl rfl ?_
  refine WL.val (OV.build rfl (cs := [Value.int .i64 140, st ([117, 115, 97, 103, 101] : List UInt8)]) rfl) rfl rfl rfl ?_
  refine WL.val (OV.build rfl (cs := (nameTab).flatMap callC) (by kernel_rfl)) rfl rfl rfl ?_
  refine WL.make (MV.alloc tf_zero_48) rfl rfl rfl (fun b => ?_)
  refine WL.storeW (vs := (nameTab).flatMap callC) 0 rfl rfl rfl rfl rfl tf_size_48 rfl rfl rfl ?_
  refine WL.nil ?_
  refine KX.go (hK_1' [(0, Value.int .i64 code), (3, Value.pointer (some ⟨b, 0, none⟩))] _ ?_) ⟨rfl, rfl, trivial⟩
  refine wc_seq (fun K0_2' hK_2' => ?_)
  refine wc_seq (fun K0_3' hK_3' => ?_)
  refine wc_region ?_
  refine WL.val (OV.loadR rfl (At.own 0 rfl) tf_row_48) rfl rfl rfl ?_
  refine WL.val (OV.move rfl) rfl rfl rfl ?_
  refine WL.nil ?_
  refine KX.go (hK_3' [(0, Value.int .i64 code), (49, Value.agg ((nameTab).flatMap callC).toArray), (50, Value.int .i64 0)] _ ?_) ⟨rfl, rfl, rfl, trivial⟩
  refine wc_block ?_
  refine WC.pick (H' := []) [] rfl rfl ?_
  obtain ⟨Inv, mu, h0, hr⟩ := h
  refine wc_loop (S := Int) (fun σ => Inv σ) (fun σ => mu σ) (fun σ => [(0, Value.int .i64 code), (49, Value.agg ((nameTab).flatMap callC).toArray), (50, Value.int .i64 σ)]) (fun σ => []) 0 h0 ⟨rfl, rfl, rfl, trivial⟩ rfl ?_
  rintro t50_1' hi K0_16' hK_16'
  have h := hr t50_1' hi
  show WC _ _ _ _ [(0, Value.int .i64 code), (49, Value.agg ((nameTab).flatMap callC).toArray), (50, Value.int .i64 t50_1')] []
  refine wc_seq (fun K0_17' hK_17' => ?_)
  refine wc_region ?_
  refine WL.val (OV.lss rfl rfl) rfl rfl rfl ?_
  refine WL.nil ?_
  refine KX.go (hK_17' [(0, Value.int .i64 code), (49, Value.agg ((nameTab).flatMap callC).toArray), (50, Value.int .i64 t50_1'), (51, Value.bool (decide (t50_1' < 42)))] _ ?_) ⟨rfl, rfl, rfl, rfl, trivial⟩
  refine wc_seq (fun K0_18' hK_18' => ?_)
  refine wc_cond (b := decide (t50_1' < 42)) rfl (fun hb => ?_) (fun hb => ?_)
  · replace h := if_T h hb
    refine wc_skip ?_
    refine KX.go (hK_18' [(0, Value.int .i64 code), (49, Value.agg ((nameTab).flatMap callC).toArray), (50, Value.int .i64 t50_1')] _ ?_) ⟨rfl, rfl, rfl, trivial⟩
    refine wc_seq (fun K0_19' hK_19' => ?_)
    refine wc_block ?_
    refine wc_seq (fun K0_20' hK_20' => ?_)
    refine wc_region ?_
    obtain ⟨o_3', h⟩ := h
    refine WL.val (OV.indexTab rfl rfl tf_arr_48 tf_row_47 o_3') rfl rfl rfl ?_
    refine WL.make (MV.alloc tf_zero_47) rfl rfl rfl (fun b_3' => ?_)
    refine WL.storeW (vs := [Value.int .i64 ((nameTab.getD (t50_1').toNat (0, [])).1), st ((nameTab.getD (t50_1').toNat (0, [])).2)]) 0 rfl rfl rfl rfl rfl tf_size_47 rfl rfl rfl ?_
    refine WL.nil ?_
    refine KX.go (hK_20' [(0, Value.int .i64 code), (5, Value.pointer (some ⟨b_3', 0, none⟩)), (49, Value.agg ((nameTab).flatMap callC).toArray), (50, Value.int .i64 t50_1')] _ ?_) ⟨rfl, rfl, rfl, rfl, trivial⟩
    refine wc_seq (fun K0_21' hK_21' => ?_)
    refine wc_region ?_
    refine WL.val (OV.fieldAddr0 rfl tf_field_47_0) rfl rfl rfl ?_
    refine WL.val (OV.load rfl (At.own 0 rfl) rfl tf_scal_29) rfl rfl rfl ?_
    refine WL.val (OV.move rfl) rfl rfl rfl ?_
    refine WL.val (OV.eql rfl rfl) rfl rfl rfl ?_
    refine WL.nil ?_
    refine KX.go (hK_21' [(0, Value.int .i64 code), (5, Value.pointer (some ⟨b_3', 0, none⟩)), (49, Value.agg ((nameTab).flatMap callC).toArray), (50, Value.int .i64 t50_1'), (56, Value.bool (decide ((nameTab.getD (t50_1').toNat (0, [])).1 = code)))] _ ?_) ⟨rfl, rfl, rfl, rfl, rfl, trivial⟩
    refine wc_cond (b := decide ((nameTab.getD (t50_1').toNat (0, [])).1 = code)) rfl (fun hb => ?_) (fun hb => ?_)
    · replace h := if_T h hb
      refine wc_seq (fun K0_22' hK_22' => ?_)
      refine wc_region ?_
      refine WL.val (OV.fieldAddr0 rfl tf_field_47_1) rfl rfl rfl ?_
      refine WL.val (OV.load rfl (At.own 0 rfl) rfl tf_scal_9) rfl rfl rfl ?_
      refine WL.val (OV.assign rfl) rfl rfl rfl ?_
      refine WL.nil ?_
      refine KX.go (hK_22' [(2, st ((nameTab.getD (t50_1').toNat (0, [])).2))] _ ?_) ⟨rfl, trivial⟩
      refine wc_ret ?_
      exact hE.ret [] rfl rfl (.inl ⟨_, h, rfl⟩) (ResV.of1 rfl (RV.tmp rfl))
    · replace h := if_F h hb
      refine wc_skip ?_
      refine KX.go (hK_19' [(0, Value.int .i64 code), (49, Value.agg ((nameTab).flatMap callC).toArray), (50, Value.int .i64 t50_1')] _ ?_) ⟨rfl, rfl, rfl, trivial⟩
      refine wc_region ?_
      obtain ⟨o_4', h⟩ := h
      refine WL.val (OV.add rfl rfl o_4') rfl rfl rfl ?_
      refine WL.val (OV.move rfl) rfl rfl rfl ?_
      refine WL.nil ?_
      exact KX.goH (hK_16' (t50_1' + 1) h.1 h.2) ⟨rfl, rfl, rfl, trivial⟩ [] rfl rfl
  · replace h := if_F h hb
    refine wc_exit ?_
    refine KX.go (hK_2' [(0, Value.int .i64 code)] _ ?_) ⟨rfl, trivial⟩
    refine wc_seq (fun K0_23' hK_23' => ?_)
    refine wc_region ?_
    refine WL.val (OV.move rfl) rfl rfl rfl ?_
    obtain ⟨o_5', h⟩ := h
    refine WL.call (A := []) tf_ent_22 rfl (itoa_does te fre code o_5') rfl ⟨.inr (List.mem_of_getElem? (i := 0) rfl), trivial⟩ rfl rfl ?_
    obtain ⟨o_6', h⟩ := h
    refine WL.val (OV.cat rfl rfl o_6') rfl rfl rfl ?_
    refine WL.val (OV.assign rfl) rfl rfl rfl ?_
    refine WL.nil ?_
    refine KX.go (hK_23' [(2, st (([101, 114, 114, 111, 114, 32] : List UInt8) ++ (Lib.itoa code)))] _ ?_) ⟨rfl, trivial⟩
    refine wc_ret ?_
    exact hE.ret [] rfl rfl (.inl ⟨_, h, rfl⟩) (ResV.of1 rfl (RV.tmp rfl))

def rname_vc (code : Int) (K : (List UInt8) → Prop) : Prop :=
  (if (decide (code = 0)) = true then
    K ([111, 107] : List UInt8)
  else
    (if (decide (code = 1)) = true then
      K ([116, 111, 111, 32, 108, 111, 110, 103] : List UInt8)
    else
      (if (decide (code = 2)) = true then
        K ([98, 97, 100, 32, 97, 114, 103, 117, 109, 101, 110, 116] : List UInt8)
      else
        (if (decide (code = 3)) = true then
          K ([110, 111, 110, 101] : List UInt8)
        else
          (if (decide (code = 4)) = true then
            K ([116, 111, 111, 32, 98, 105, 103] : List UInt8)
          else
            (if (decide (code = 10)) = true then
              K ([110, 111, 32, 98, 121, 116, 101, 32, 99, 108, 97, 115, 115] : List UInt8)
            else
              (if (decide (code = 20)) = true then
                K ([117, 110, 101, 120, 112, 101, 99, 116, 101, 100, 32, 98, 121, 116, 101] : List UInt8)
              else
                (if (decide (code = 21)) = true then
                  K ([117, 110, 99, 108, 111, 115, 101, 100, 32, 112, 97, 114, 101, 110, 116, 104, 101, 115, 105, 115] : List UInt8)
                else
                  (if (decide (code = 22)) = true then
                    K ([98, 97, 100, 32, 114, 101, 112, 101, 97, 116] : List UInt8)
                  else
                    (if (decide (code = 23)) = true then
                      K ([110, 101, 115, 116, 101, 100, 32, 116, 111, 111, 32, 100, 101, 101, 112] : List UInt8)
                    else
                      (if (decide (code = 24)) = true then
                        K ([116, 111, 111, 32, 108, 97, 114, 103, 101] : List UInt8)
                      else
                        (if (decide (code = 30)) = true then
                          K ([110, 111, 32, 115, 101, 116, 32, 115, 105, 103, 110, 32, 104, 101, 114, 101] : List UInt8)
                        else
                          (if (decide (code = 40)) = true then
                            K ([111, 117, 116, 32, 111, 102, 32, 115, 116, 97, 116, 101, 115] : List UInt8)
                          else
                            (if (decide (code = 50)) = true then
                              K ([110, 111, 32, 116, 111, 107, 101, 110] : List UInt8)
                            else
                              (if (decide (code = 51)) = true then
                                K ([117, 110, 99, 108, 111, 115, 101, 100, 32, 116, 101, 120, 116] : List UInt8)
                              else
                                (if (decide (code = 52)) = true then
                                  K ([117, 110, 99, 108, 111, 115, 101, 100, 32, 114, 101, 103, 101, 120] : List UInt8)
                                else
                                  (if (decide (code = 60)) = true then
                                    K ([117, 110, 101, 120, 112, 101, 99, 116, 101, 100, 32, 116, 111, 107, 101, 110] : List UInt8)
                                  else
                                    (if (decide (code = 70)) = true then
                                      K ([117, 110, 107, 110, 111, 119, 110, 32, 110, 97, 109, 101] : List UInt8)
                                    else
                                      (if (decide (code = 71)) = true then
                                        K ([110, 97, 109, 101, 32, 98, 111, 117, 110, 100, 32, 116, 119, 105, 99, 101] : List UInt8)
                                      else
                                        (if (decide (code = 72)) = true then
                                          K ([119, 114, 111, 110, 103, 32, 107, 105, 110, 100] : List UInt8)
                                        else
                                          (if (decide (code = 80)) = true then
                                            K ([100, 101, 102, 97, 117, 108, 116, 32, 111, 117, 116, 115, 105, 100, 101, 32, 105, 116, 115, 32, 116, 121, 112, 101] : List UInt8)
                                          else
                                            (if (decide (code = 81)) = true then
                                              K ([97, 109, 98, 105, 103, 117, 111, 117, 115, 32, 115, 111, 117, 114, 99, 101, 32, 99, 111, 110, 99, 97, 116, 101, 110, 97, 116, 105, 111, 110] : List UInt8)
                                            else
                                              (if (decide (code = 82)) = true then
                                                K ([97, 109, 98, 105, 103, 117, 111, 117, 115, 32, 118, 105, 101, 119, 32, 99, 111, 110, 99, 97, 116, 101, 110, 97, 116, 105, 111, 110] : List UInt8)
                                              else
                                                (if (decide (code = 83)) = true then
                                                  K ([97, 109, 98, 105, 103, 117, 111, 117, 115, 32, 115, 111, 117, 114, 99, 101, 32, 105, 116, 101, 114, 97, 116, 105, 111, 110] : List UInt8)
                                                else
                                                  (if (decide (code = 84)) = true then
                                                    K ([97, 109, 98, 105, 103, 117, 111, 117, 115, 32, 118, 105, 101, 119, 32, 105, 116, 101, 114, 97, 116, 105, 111, 110] : List UInt8)
                                                  else
                                                    (if (decide (code = 85)) = true then
                                                      K ([111, 118, 101, 114, 108, 97, 112, 112, 105, 110, 103, 32, 115, 111, 117, 114, 99, 101, 115] : List UInt8)
                                                    else
                                                      (if (decide (code = 86)) = true then
                                                        K ([111, 118, 101, 114, 108, 97, 112, 112, 105, 110, 103, 32, 118, 105, 101, 119, 115] : List UInt8)
                                                      else
                                                        (if (decide (code = 87)) = true then
                                                          K ([109, 105, 100, 100, 108, 101, 32, 116, 121, 112, 101, 115, 32, 100, 105, 102, 102, 101, 114] : List UInt8)
                                                        else
                                                          (if (decide (code = 88)) = true then
                                                            K ([113, 117, 111, 116, 105, 101, 110, 116, 32, 105, 110, 32, 116, 104, 101, 32, 109, 105, 100, 100, 108, 101] : List UInt8)
                                                          else
                                                            (if (decide (code = 89)) = true then
                                                              K ([99, 97, 110, 111, 110, 105, 122, 101, 114, 32, 111, 117, 116, 32, 111, 102, 32, 112, 108, 97, 99, 101] : List UInt8)
                                                            else
                                                              (if (decide (code = 90)) = true then
                                                                K ([99, 97, 112, 105, 116, 97, 108, 32, 108, 101, 116, 116, 101, 114] : List UInt8)
                                                              else
                                                                (if (decide (code = 100)) = true then
                                                                  K ([110, 111, 32, 115, 111, 117, 114, 99, 101] : List UInt8)
                                                                else
                                                                  (if (decide (code = 101)) = true then
                                                                    K ([110, 111, 32, 118, 105, 101, 119] : List UInt8)
                                                                  else
                                                                    (if (decide (code = 110)) = true then
                                                                      K ([98, 97, 100, 32, 108, 105, 110, 101] : List UInt8)
                                                                    else
                                                                      (if (decide (code = 111)) = true then
                                                                        K ([98, 97, 100, 32, 111, 112, 101, 114, 97, 110, 100] : List UInt8)
                                                                      else
                                                                        (if (decide (code = 112)) = true then
                                                                          K ([101, 109, 112, 116, 121, 32, 115, 116, 97, 99, 107] : List UInt8)
                                                                        else
                                                                          (if (decide (code = 113)) = true then
                                                                            K ([110, 111, 32, 99, 117, 116] : List UInt8)
                                                                          else
                                                                            (if (decide (code = 114)) = true then
                                                                              K ([111, 117, 116, 32, 111, 102, 32, 115, 116, 101, 112, 115] : List UInt8)
                                                                            else
                                                                              (if (decide (code = 115)) = true then
                                                                                K ([116, 111, 111, 32, 109, 97, 110, 121, 32, 99, 97, 108, 108, 115] : List UInt8)
                                                                              else
                                                                                (if (decide (code = 120)) = true then
                                                                                  K ([101, 110, 100, 101, 100] : List UInt8)
                                                                                else
                                                                                  (if (decide (code = 130)) = true then
                                                                                    K ([98, 97, 100, 32, 101, 100, 105, 116] : List UInt8)
                                                                                  else
                                                                                    (if (decide (code = 140)) = true then
                                                                                      K ([117, 115, 97, 103, 101] : List UInt8)
                                                                                    else
                                                                                      (I64 code) ∧
                                                                                      (([101, 114, 114, 111, 114, 32] : List UInt8).length + (Lib.itoa code).length ≤ 9223372036854775807) ∧
                                                                                      K (([101, 114, 114, 111, 114, 32] : List UInt8) ++ (Lib.itoa code))))))))))))))))))))))))))))))))))))))))))))
set_option maxRecDepth 100000 in
theorem rname_wp  (code : Int) (K : (List UInt8) → Prop) (h : rname_vc code K) :
    Does Tryd.prog 15 [Value.int .i64 code] [] [] (fun o => (∃ (v : List UInt8), K v ∧ o = .ret (st v) []) ∨ (False)) := by
  unfold rname_vc at h
  refine does_of_wc (n := 91) (L0 := [(0, Value.int .i64 code)]) Tryd.func15 rfl rfl rfl rfl (fun w0 M Q hE => ?_)
  refine wc_seq (fun K0 hK => ?_)
  refine wc_region ?_
  refine WL.val (OV.assign rfl) rfl rfl rfl ?_
  refine WL.nil ?_
  refine KX.go (hK [(0, Value.int .i64 code)] _ ?_) ⟨rfl, trivial⟩
  refine wc_seq (fun K0_1' hK_1' => ?_)
  refine wc_seq (fun K0_2' hK_2' => ?_)
  refine wc_region ?_
  refine WL.val (OV.move rfl) rfl rfl rfl ?_
  refine WL.nil ?_
  refine KX.go (hK_2' [(0, Value.int .i64 code), (3, Value.int .i64 code)] _ ?_) ⟨rfl, rfl, trivial⟩
  refine wc_block ?_
  refine wc_seq (fun K0_3' hK_3' => ?_)
  refine wc_region ?_
  refine WL.val (OV.eql rfl rfl) rfl rfl rfl ?_
  refine WL.val (OV.assign rfl) rfl rfl rfl ?_
  refine WL.nil ?_
  refine KX.go (hK_3' [(0, Value.int .i64 code), (3, Value.int .i64 code), (4, Value.bool (decide (code = 0)))] _ ?_) ⟨rfl, rfl, rfl, trivial⟩
  refine wc_cond (b := decide (code = 0)) rfl (fun hb => ?_) (fun hb => ?_)
  · replace h := if_T h hb
    refine wc_seq (fun K0_4' hK_4' => ?_)
    refine wc_region ?_
    refine WL.val (OV.assign rfl) rfl rfl rfl ?_
    refine WL.nil ?_
    refine KX.go (hK_4' [(2, st ([111, 107] : List UInt8))] _ ?_) ⟨rfl, trivial⟩
    refine wc_ret ?_
    exact hE.ret [] rfl rfl (.inl ⟨_, h, rfl⟩) (ResV.of1 rfl (RV.tmp rfl))
  · replace h := if_F h hb
    refine wc_seq (fun K0_5' hK_5' => ?_)
    refine wc_region ?_
    refine WL.val (OV.eql rfl rfl) rfl rfl rfl ?_
    refine WL.val (OV.assign rfl) rfl rfl rfl ?_
    refine WL.nil ?_
    refine KX.go (hK_5' [(0, Value.int .i64 code), (3, Value.int .i64 code), (6, Value.bool (decide (code = 1)))] _ ?_) ⟨rfl, rfl, rfl, trivial⟩
    refine wc_cond (b := decide (code = 1)) rfl (fun hb => ?_) (fun hb => ?_)
    · replace h := if_T h hb
      refine wc_seq (fun K0_6' hK_6' => ?_)
      refine wc_region ?_
      refine WL.val (OV.assign rfl) rfl rfl rfl ?_
      refine WL.nil ?_
      refine KX.go (hK_6' [(2, st ([116, 111, 111, 32, 108, 111, 110, 103] : List UInt8))] _ ?_) ⟨rfl, trivial⟩
      refine wc_ret ?_
      exact hE.ret [] rfl rfl (.inl ⟨_, h, rfl⟩) (ResV.of1 rfl (RV.tmp rfl))
    · replace h := if_F h hb
      refine wc_seq (fun K0_7' hK_7' => ?_)
      refine wc_region ?_
      refine WL.val (OV.eql rfl rfl) rfl rfl rfl ?_
      refine WL.val (OV.assign rfl) rfl rfl rfl ?_
      refine WL.nil ?_
      refine KX.go (hK_7' [(0, Value.int .i64 code), (3, Value.int .i64 code), (8, Value.bool (decide (code = 2)))] _ ?_) ⟨rfl, rfl, rfl, trivial⟩
      refine wc_cond (b := decide (code = 2)) rfl (fun hb => ?_) (fun hb => ?_)
      · replace h := if_T h hb
        refine wc_seq (fun K0_8' hK_8' => ?_)
        refine wc_region ?_
        refine WL.val (OV.assign rfl) rfl rfl rfl ?_
        refine WL.nil ?_
        refine KX.go (hK_8' [(2, st ([98, 97, 100, 32, 97, 114, 103, 117, 109, 101, 110, 116] : List UInt8))] _ ?_) ⟨rfl, trivial⟩
        refine wc_ret ?_
        exact hE.ret [] rfl rfl (.inl ⟨_, h, rfl⟩) (ResV.of1 rfl (RV.tmp rfl))
      · replace h := if_F h hb
        refine wc_seq (fun K0_9' hK_9' => ?_)
        refine wc_region ?_
        refine WL.val (OV.eql rfl rfl) rfl rfl rfl ?_
        refine WL.val (OV.assign rfl) rfl rfl rfl ?_
        refine WL.nil ?_
        refine KX.go (hK_9' [(0, Value.int .i64 code), (3, Value.int .i64 code), (10, Value.bool (decide (code = 3)))] _ ?_) ⟨rfl, rfl, rfl, trivial⟩
        refine wc_cond (b := decide (code = 3)) rfl (fun hb => ?_) (fun hb => ?_)
        · replace h := if_T h hb
          refine wc_seq (fun K0_10' hK_10' => ?_)
          refine wc_region ?_
          refine WL.val (OV.assign rfl) rfl rfl rfl ?_
          refine WL.nil ?_
          refine KX.go (hK_10' [(2, st ([110, 111, 110, 101] : List UInt8))] _ ?_) ⟨rfl, trivial⟩
          refine wc_ret ?_
          exact hE.ret [] rfl rfl (.inl ⟨_, h, rfl⟩) (ResV.of1 rfl (RV.tmp rfl))
        · replace h := if_F h hb
          refine wc_seq (fun K0_11' hK_11' => ?_)
          refine wc_region ?_
          refine WL.val (OV.eql rfl rfl) rfl rfl rfl ?_
          refine WL.val (OV.assign rfl) rfl rfl rfl ?_
          refine WL.nil ?_
          refine KX.go (hK_11' [(0, Value.int .i64 code), (3, Value.int .i64 code), (12, Value.bool (decide (code = 4)))] _ ?_) ⟨rfl, rfl, rfl, trivial⟩
          refine wc_cond (b := decide (code = 4)) rfl (fun hb => ?_) (fun hb => ?_)
          · replace h := if_T h hb
            refine wc_seq (fun K0_12' hK_12' => ?_)
            refine wc_region ?_
            refine WL.val (OV.assign rfl) rfl rfl rfl ?_
            refine WL.nil ?_
            refine KX.go (hK_12' [(2, st ([116, 111, 111, 32, 98, 105, 103] : List UInt8))] _ ?_) ⟨rfl, trivial⟩
            refine wc_ret ?_
            exact hE.ret [] rfl rfl (.inl ⟨_, h, rfl⟩) (ResV.of1 rfl (RV.tmp rfl))
          · replace h := if_F h hb
            refine wc_seq (fun K0_13' hK_13' => ?_)
            refine wc_region ?_
            refine WL.val (OV.eql rfl rfl) rfl rfl rfl ?_
            refine WL.val (OV.assign rfl) rfl rfl rfl ?_
            refine WL.nil ?_
            refine KX.go (hK_13' [(0, Value.int .i64 code), (3, Value.int .i64 code), (14, Value.bool (decide (code = 10)))] _ ?_) ⟨rfl, rfl, rfl, trivial⟩
            refine wc_cond (b := decide (code = 10)) rfl (fun hb => ?_) (fun hb => ?_)
            · replace h := if_T h hb
              refine wc_seq (fun K0_14' hK_14' => ?_)
              refine wc_region ?_
              refine WL.val (OV.assign rfl) rfl rfl rfl ?_
              refine WL.nil ?_
              refine KX.go (hK_14' [(2, st ([110, 111, 32, 98, 121, 116, 101, 32, 99, 108, 97, 115, 115] : List UInt8))] _ ?_) ⟨rfl, trivial⟩
              refine wc_ret ?_
              exact hE.ret [] rfl rfl (.inl ⟨_, h, rfl⟩) (ResV.of1 rfl (RV.tmp rfl))
            · replace h := if_F h hb
              refine wc_seq (fun K0_15' hK_15' => ?_)
              refine wc_region ?_
              refine WL.val (OV.eql rfl rfl) rfl rfl rfl ?_
              refine WL.val (OV.assign rfl) rfl rfl rfl ?_
              refine WL.nil ?_
              refine KX.go (hK_15' [(0, Value.int .i64 code), (3, Value.int .i64 code), (16, Value.bool (decide (code = 20)))] _ ?_) ⟨rfl, rfl, rfl, trivial⟩
              refine wc_cond (b := decide (code = 20)) rfl (fun hb => ?_) (fun hb => ?_)
              · replace h := if_T h hb
                refine wc_seq (fun K0_16' hK_16' => ?_)
                refine wc_region ?_
                refine WL.val (OV.assign rfl) rfl rfl rfl ?_
                refine WL.nil ?_
                refine KX.go (hK_16' [(2, st ([117, 110, 101, 120, 112, 101, 99, 116, 101, 100, 32, 98, 121, 116, 101] : List UInt8))] _ ?_) ⟨rfl, trivial⟩
                refine wc_ret ?_
                exact hE.ret [] rfl rfl (.inl ⟨_, h, rfl⟩) (ResV.of1 rfl (RV.tmp rfl))
              · replace h := if_F h hb
                refine wc_seq (fun K0_17' hK_17' => ?_)
                refine wc_region ?_
                refine WL.val (OV.eql rfl rfl) rfl rfl rfl ?_
                refine WL.val (OV.assign rfl) rfl rfl rfl ?_
                refine WL.nil ?_
                refine KX.go (hK_17' [(0, Value.int .i64 code), (3, Value.int .i64 code), (18, Value.bool (decide (code = 21)))] _ ?_) ⟨rfl, rfl, rfl, trivial⟩
                refine wc_cond (b := decide (code = 21)) rfl (fun hb => ?_) (fun hb => ?_)
                · replace h := if_T h hb
                  refine wc_seq (fun K0_18' hK_18' => ?_)
                  refine wc_region ?_
                  refine WL.val (OV.assign rfl) rfl rfl rfl ?_
                  refine WL.nil ?_
                  refine KX.go (hK_18' [(2, st ([117, 110, 99, 108, 111, 115, 101, 100, 32, 112, 97, 114, 101, 110, 116, 104, 101, 115, 105, 115] : List UInt8))] _ ?_) ⟨rfl, trivial⟩
                  refine wc_ret ?_
                  exact hE.ret [] rfl rfl (.inl ⟨_, h, rfl⟩) (ResV.of1 rfl (RV.tmp rfl))
                · replace h := if_F h hb
                  refine wc_seq (fun K0_19' hK_19' => ?_)
                  refine wc_region ?_
                  refine WL.val (OV.eql rfl rfl) rfl rfl rfl ?_
                  refine WL.val (OV.assign rfl) rfl rfl rfl ?_
                  refine WL.nil ?_
                  refine KX.go (hK_19' [(0, Value.int .i64 code), (3, Value.int .i64 code), (20, Value.bool (decide (code = 22)))] _ ?_) ⟨rfl, rfl, rfl, trivial⟩
                  refine wc_cond (b := decide (code = 22)) rfl (fun hb => ?_) (fun hb => ?_)
                  · replace h := if_T h hb
                    refine wc_seq (fun K0_20' hK_20' => ?_)
                    refine wc_region ?_
                    refine WL.val (OV.assign rfl) rfl rfl rfl ?_
                    refine WL.nil ?_
                    refine KX.go (hK_20' [(2, st ([98, 97, 100, 32, 114, 101, 112, 101, 97, 116] : List UInt8))] _ ?_) ⟨rfl, trivial⟩
                    refine wc_ret ?_
                    exact hE.ret [] rfl rfl (.inl ⟨_, h, rfl⟩) (ResV.of1 rfl (RV.tmp rfl))
                  · replace h := if_F h hb
                    refine wc_seq (fun K0_21' hK_21' => ?_)
                    refine wc_region ?_
                    refine WL.val (OV.eql rfl rfl) rfl rfl rfl ?_
                    refine WL.val (OV.assign rfl) rfl rfl rfl ?_
                    refine WL.nil ?_
                    refine KX.go (hK_21' [(0, Value.int .i64 code), (3, Value.int .i64 code), (22, Value.bool (decide (code = 23)))] _ ?_) ⟨rfl, rfl, rfl, trivial⟩
                    refine wc_cond (b := decide (code = 23)) rfl (fun hb => ?_) (fun hb => ?_)
                    · replace h := if_T h hb
                      refine wc_seq (fun K0_22' hK_22' => ?_)
                      refine wc_region ?_
                      refine WL.val (OV.assign rfl) rfl rfl rfl ?_
                      refine WL.nil ?_
                      refine KX.go (hK_22' [(2, st ([110, 101, 115, 116, 101, 100, 32, 116, 111, 111, 32, 100, 101, 101, 112] : List UInt8))] _ ?_) ⟨rfl, trivial⟩
                      refine wc_ret ?_
                      exact hE.ret [] rfl rfl (.inl ⟨_, h, rfl⟩) (ResV.of1 rfl (RV.tmp rfl))
                    · replace h := if_F h hb
                      refine wc_seq (fun K0_23' hK_23' => ?_)
                      refine wc_region ?_
                      refine WL.val (OV.eql rfl rfl) rfl rfl rfl ?_
                      refine WL.val (OV.assign rfl) rfl rfl rfl ?_
                      refine WL.nil ?_
                      refine KX.go (hK_23' [(0, Value.int .i64 code), (3, Value.int .i64 code), (24, Value.bool (decide (code = 24)))] _ ?_) ⟨rfl, rfl, rfl, trivial⟩
                      refine wc_cond (b := decide (code = 24)) rfl (fun hb => ?_) (fun hb => ?_)
                      · replace h := if_T h hb
                        refine wc_seq (fun K0_24' hK_24' => ?_)
                        refine wc_region ?_
                        refine WL.val (OV.assign rfl) rfl rfl rfl ?_
                        refine WL.nil ?_
                        refine KX.go (hK_24' [(2, st ([116, 111, 111, 32, 108, 97, 114, 103, 101] : List UInt8))] _ ?_) ⟨rfl, trivial⟩
                        refine wc_ret ?_
                        exact hE.ret [] rfl rfl (.inl ⟨_, h, rfl⟩) (ResV.of1 rfl (RV.tmp rfl))
                      · replace h := if_F h hb
                        refine wc_seq (fun K0_25' hK_25' => ?_)
                        refine wc_region ?_
                        refine WL.val (OV.eql rfl rfl) rfl rfl rfl ?_
                        refine WL.val (OV.assign rfl) rfl rfl rfl ?_
                        refine WL.nil ?_
                        refine KX.go (hK_25' [(0, Value.int .i64 code), (3, Value.int .i64 code), (26, Value.bool (decide (code = 30)))] _ ?_) ⟨rfl, rfl, rfl, trivial⟩
                        refine wc_cond (b := decide (code = 30)) rfl (fun hb => ?_) (fun hb => ?_)
                        · replace h := if_T h hb
                          refine wc_seq (fun K0_26' hK_26' => ?_)
                          refine wc_region ?_
                          refine WL.val (OV.assign rfl) rfl rfl rfl ?_
                          refine WL.nil ?_
                          refine KX.go (hK_26' [(2, st ([110, 111, 32, 115, 101, 116, 32, 115, 105, 103, 110, 32, 104, 101, 114, 101] : List UInt8))] _ ?_) ⟨rfl, trivial⟩
                          refine wc_ret ?_
                          exact hE.ret [] rfl rfl (.inl ⟨_, h, rfl⟩) (ResV.of1 rfl (RV.tmp rfl))
                        · replace h := if_F h hb
                          refine wc_seq (fun K0_27' hK_27' => ?_)
                          refine wc_region ?_
                          refine WL.val (OV.eql rfl rfl) rfl rfl rfl ?_
                          refine WL.val (OV.assign rfl) rfl rfl rfl ?_
                          refine WL.nil ?_
                          refine KX.go (hK_27' [(0, Value.int .i64 code), (3, Value.int .i64 code), (28, Value.bool (decide (code = 40)))] _ ?_) ⟨rfl, rfl, rfl, trivial⟩
                          refine wc_cond (b := decide (code = 40)) rfl (fun hb => ?_) (fun hb => ?_)
                          · replace h := if_T h hb
                            refine wc_seq (fun K0_28' hK_28' => ?_)
                            refine wc_region ?_
                            refine WL.val (OV.assign rfl) rfl rfl rfl ?_
                            refine WL.nil ?_
                            refine KX.go (hK_28' [(2, st ([111, 117, 116, 32, 111, 102, 32, 115, 116, 97, 116, 101, 115] : List UInt8))] _ ?_) ⟨rfl, trivial⟩
                            refine wc_ret ?_
                            exact hE.ret [] rfl rfl (.inl ⟨_, h, rfl⟩) (ResV.of1 rfl (RV.tmp rfl))
                          · replace h := if_F h hb
                            refine wc_seq (fun K0_29' hK_29' => ?_)
                            refine wc_region ?_
                            refine WL.val (OV.eql rfl rfl) rfl rfl rfl ?_
                            refine WL.val (OV.assign rfl) rfl rfl rfl ?_
                            refine WL.nil ?_
                            refine KX.go (hK_29' [(0, Value.int .i64 code), (3, Value.int .i64 code), (30, Value.bool (decide (code = 50)))] _ ?_) ⟨rfl, rfl, rfl, trivial⟩
                            refine wc_cond (b := decide (code = 50)) rfl (fun hb => ?_) (fun hb => ?_)
                            · replace h := if_T h hb
                              refine wc_seq (fun K0_30' hK_30' => ?_)
                              refine wc_region ?_
                              refine WL.val (OV.assign rfl) rfl rfl rfl ?_
                              refine WL.nil ?_
                              refine KX.go (hK_30' [(2, st ([110, 111, 32, 116, 111, 107, 101, 110] : List UInt8))] _ ?_) ⟨rfl, trivial⟩
                              refine wc_ret ?_
                              exact hE.ret [] rfl rfl (.inl ⟨_, h, rfl⟩) (ResV.of1 rfl (RV.tmp rfl))
                            · replace h := if_F h hb
                              refine wc_seq (fun K0_31' hK_31' => ?_)
                              refine wc_region ?_
                              refine WL.val (OV.eql rfl rfl) rfl rfl rfl ?_
                              refine WL.val (OV.assign rfl) rfl rfl rfl ?_
                              refine WL.nil ?_
                              refine KX.go (hK_31' [(0, Value.int .i64 code), (3, Value.int .i64 code), (32, Value.bool (decide (code = 51)))] _ ?_) ⟨rfl, rfl, rfl, trivial⟩
                              refine wc_cond (b := decide (code = 51)) rfl (fun hb => ?_) (fun hb => ?_)
                              · replace h := if_T h hb
                                refine wc_seq (fun K0_32' hK_32' => ?_)
                                refine wc_region ?_
                                refine WL.val (OV.assign rfl) rfl rfl rfl ?_
                                refine WL.nil ?_
                                refine KX.go (hK_32' [(2, st ([117, 110, 99, 108, 111, 115, 101, 100, 32, 116, 101, 120, 116] : List UInt8))] _ ?_) ⟨rfl, trivial⟩
                                refine wc_ret ?_
                                exact hE.ret [] rfl rfl (.inl ⟨_, h, rfl⟩) (ResV.of1 rfl (RV.tmp rfl))
                              · replace h := if_F h hb
                                refine wc_seq (fun K0_33' hK_33' => ?_)
                                refine wc_region ?_
                                refine WL.val (OV.eql rfl rfl) rfl rfl rfl ?_
                                refine WL.val (OV.assign rfl) rfl rfl rfl ?_
                                refine WL.nil ?_
                                refine KX.go (hK_33' [(0, Value.int .i64 code), (3, Value.int .i64 code), (34, Value.bool (decide (code = 52)))] _ ?_) ⟨rfl, rfl, rfl, trivial⟩
                                refine wc_cond (b := decide (code = 52)) rfl (fun hb => ?_) (fun hb => ?_)
                                · replace h := if_T h hb
                                  refine wc_seq (fun K0_34' hK_34' => ?_)
                                  refine wc_region ?_
                                  refine WL.val (OV.assign rfl) rfl rfl rfl ?_
                                  refine WL.nil ?_
                                  refine KX.go (hK_34' [(2, st ([117, 110, 99, 108, 111, 115, 101, 100, 32, 114, 101, 103, 101, 120] : List UInt8))] _ ?_) ⟨rfl, trivial⟩
                                  refine wc_ret ?_
                                  exact hE.ret [] rfl rfl (.inl ⟨_, h, rfl⟩) (ResV.of1 rfl (RV.tmp rfl))
                                · replace h := if_F h hb
                                  refine wc_seq (fun K0_35' hK_35' => ?_)
                                  refine wc_region ?_
                                  refine WL.val (OV.eql rfl rfl) rfl rfl rfl ?_
                                  refine WL.val (OV.assign rfl) rfl rfl rfl ?_
                                  refine WL.nil ?_
                                  refine KX.go (hK_35' [(0, Value.int .i64 code), (3, Value.int .i64 code), (36, Value.bool (decide (code = 60)))] _ ?_) ⟨rfl, rfl, rfl, trivial⟩
                                  refine wc_cond (b := decide (code = 60)) rfl (fun hb => ?_) (fun hb => ?_)
                                  · replace h := if_T h hb
                                    refine wc_seq (fun K0_36' hK_36' => ?_)
                                    refine wc_region ?_
                                    refine WL.val (OV.assign rfl) rfl rfl rfl ?_
                                    refine WL.nil ?_
                                    refine KX.go (hK_36' [(2, st ([117, 110, 101, 120, 112, 101, 99, 116, 101, 100, 32, 116, 111, 107, 101, 110] : List UInt8))] _ ?_) ⟨rfl, trivial⟩
                                    refine wc_ret ?_
                                    exact hE.ret [] rfl rfl (.inl ⟨_, h, rfl⟩) (ResV.of1 rfl (RV.tmp rfl))
                                  · replace h := if_F h hb
                                    refine wc_seq (fun K0_37' hK_37' => ?_)
                                    refine wc_region ?_
                                    refine WL.val (OV.eql rfl rfl) rfl rfl rfl ?_
                                    refine WL.val (OV.assign rfl) rfl rfl rfl ?_
                                    refine WL.nil ?_
                                    refine KX.go (hK_37' [(0, Value.int .i64 code), (3, Value.int .i64 code), (38, Value.bool (decide (code = 70)))] _ ?_) ⟨rfl, rfl, rfl, trivial⟩
                                    refine wc_cond (b := decide (code = 70)) rfl (fun hb => ?_) (fun hb => ?_)
                                    · replace h := if_T h hb
                                      refine wc_seq (fun K0_38' hK_38' => ?_)
                                      refine wc_region ?_
                                      refine WL.val (OV.assign rfl) rfl rfl rfl ?_
                                      refine WL.nil ?_
                                      refine KX.go (hK_38' [(2, st ([117, 110, 107, 110, 111, 119, 110, 32, 110, 97, 109, 101] : List UInt8))] _ ?_) ⟨rfl, trivial⟩
                                      refine wc_ret ?_
                                      exact hE.ret [] rfl rfl (.inl ⟨_, h, rfl⟩) (ResV.of1 rfl (RV.tmp rfl))
                                    · replace h := if_F h hb
                                      refine wc_seq (fun K0_39' hK_39' => ?_)
                                      refine wc_region ?_
                                      refine WL.val (OV.eql rfl rfl) rfl rfl rfl ?_
                                      refine WL.val (OV.assign rfl) rfl rfl rfl ?_
                                      refine WL.nil ?_
                                      refine KX.go (hK_39' [(0, Value.int .i64 code), (3, Value.int .i64 code), (40, Value.bool (decide (code = 71)))] _ ?_) ⟨rfl, rfl, rfl, trivial⟩
                                      refine wc_cond (b := decide (code = 71)) rfl (fun hb => ?_) (fun hb => ?_)
                                      · replace h := if_T h hb
                                        refine wc_seq (fun K0_40' hK_40' => ?_)
                                        refine wc_region ?_
                                        refine WL.val (OV.assign rfl) rfl rfl rfl ?_
                                        refine WL.nil ?_
                                        refine KX.go (hK_40' [(2, st ([110, 97, 109, 101, 32, 98, 111, 117, 110, 100, 32, 116, 119, 105, 99, 101] : List UInt8))] _ ?_) ⟨rfl, trivial⟩
                                        refine wc_ret ?_
                                        exact hE.ret [] rfl rfl (.inl ⟨_, h, rfl⟩) (ResV.of1 rfl (RV.tmp rfl))
                                      · replace h := if_F h hb
                                        refine wc_seq (fun K0_41' hK_41' => ?_)
                                        refine wc_region ?_
                                        refine WL.val (OV.eql rfl rfl) rfl rfl rfl ?_
                                        refine WL.val (OV.assign rfl) rfl rfl rfl ?_
                                        refine WL.nil ?_
                                        refine KX.go (hK_41' [(0, Value.int .i64 code), (3, Value.int .i64 code), (42, Value.bool (decide (code = 72)))] _ ?_) ⟨rfl, rfl, rfl, trivial⟩
                                        refine wc_cond (b := decide (code = 72)) rfl (fun hb => ?_) (fun hb => ?_)
                                        · replace h := if_T h hb
                                          refine wc_seq (fun K0_42' hK_42' => ?_)
                                          refine wc_region ?_
                                          refine WL.val (OV.assign rfl) rfl rfl rfl ?_
                                          refine WL.nil ?_
                                          refine KX.go (hK_42' [(2, st ([119, 114, 111, 110, 103, 32, 107, 105, 110, 100] : List UInt8))] _ ?_) ⟨rfl, trivial⟩
                                          refine wc_ret ?_
                                          exact hE.ret [] rfl rfl (.inl ⟨_, h, rfl⟩) (ResV.of1 rfl (RV.tmp rfl))
                                        · replace h := if_F h hb
                                          refine wc_seq (fun K0_43' hK_43' => ?_)
                                          refine wc_region ?_
                                          refine WL.val (OV.eql rfl rfl) rfl rfl rfl ?_
                                          refine WL.val (OV.assign rfl) rfl rfl rfl ?_
                                          refine WL.nil ?_
                                          refine KX.go (hK_43' [(0, Value.int .i64 code), (3, Value.int .i64 code), (44, Value.bool (decide (code = 80)))] _ ?_) ⟨rfl, rfl, rfl, trivial⟩
                                          refine wc_cond (b := decide (code = 80)) rfl (fun hb => ?_) (fun hb => ?_)
                                          · replace h := if_T h hb
                                            refine wc_seq (fun K0_44' hK_44' => ?_)
                                            refine wc_region ?_
                                            refine WL.val (OV.assign rfl) rfl rfl rfl ?_
                                            refine WL.nil ?_
                                            refine KX.go (hK_44' [(2, st ([100, 101, 102, 97, 117, 108, 116, 32, 111, 117, 116, 115, 105, 100, 101, 32, 105, 116, 115, 32, 116, 121, 112, 101] : List UInt8))] _ ?_) ⟨rfl, trivial⟩
                                            refine wc_ret ?_
                                            exact hE.ret [] rfl rfl (.inl ⟨_, h, rfl⟩) (ResV.of1 rfl (RV.tmp rfl))
                                          · replace h := if_F h hb
                                            refine wc_seq (fun K0_45' hK_45' => ?_)
                                            refine wc_region ?_
                                            refine WL.val (OV.eql rfl rfl) rfl rfl rfl ?_
                                            refine WL.val (OV.assign rfl) rfl rfl rfl ?_
                                            refine WL.nil ?_
                                            refine KX.go (hK_45' [(0, Value.int .i64 code), (3, Value.int .i64 code), (46, Value.bool (decide (code = 81)))] _ ?_) ⟨rfl, rfl, rfl, trivial⟩
                                            refine wc_cond (b := decide (code = 81)) rfl (fun hb => ?_) (fun hb => ?_)
                                            · replace h := if_T h hb
                                              refine wc_seq (fun K0_46' hK_46' => ?_)
                                              refine wc_region ?_
                                              refine WL.val (OV.assign rfl) rfl rfl rfl ?_
                                              refine WL.nil ?_
                                              refine KX.go (hK_46' [(2, st ([97, 109, 98, 105, 103, 117, 111, 117, 115, 32, 115, 111, 117, 114, 99, 101, 32, 99, 111, 110, 99, 97, 116, 101, 110, 97, 116, 105, 111, 110] : List UInt8))] _ ?_) ⟨rfl, trivial⟩
                                              refine wc_ret ?_
                                              exact hE.ret [] rfl rfl (.inl ⟨_, h, rfl⟩) (ResV.of1 rfl (RV.tmp rfl))
                                            · replace h := if_F h hb
                                              refine wc_seq (fun K0_47' hK_47' => ?_)
                                              refine wc_region ?_
                                              refine WL.val (OV.eql rfl rfl) rfl rfl rfl ?_
                                              refine WL.val (OV.assign rfl) rfl rfl rfl ?_
                                              refine WL.nil ?_
                                              refine KX.go (hK_47' [(0, Value.int .i64 code), (3, Value.int .i64 code), (48, Value.bool (decide (code = 82)))] _ ?_) ⟨rfl, rfl, rfl, trivial⟩
                                              refine wc_cond (b := decide (code = 82)) rfl (fun hb => ?_) (fun hb => ?_)
                                              · replace h := if_T h hb
                                                refine wc_seq (fun K0_48' hK_48' => ?_)
                                                refine wc_region ?_
                                                refine WL.val (OV.assign rfl) rfl rfl rfl ?_
                                                refine WL.nil ?_
                                                refine KX.go (hK_48' [(2, st ([97, 109, 98, 105, 103, 117, 111, 117, 115, 32, 118, 105, 101, 119, 32, 99, 111, 110, 99, 97, 116, 101, 110, 97, 116, 105, 111, 110] : List UInt8))] _ ?_) ⟨rfl, trivial⟩
                                                refine wc_ret ?_
                                                exact hE.ret [] rfl rfl (.inl ⟨_, h, rfl⟩) (ResV.of1 rfl (RV.tmp rfl))
                                              · replace h := if_F h hb
                                                refine wc_seq (fun K0_49' hK_49' => ?_)
                                                refine wc_region ?_
                                                refine WL.val (OV.eql rfl rfl) rfl rfl rfl ?_
                                                refine WL.val (OV.assign rfl) rfl rfl rfl ?_
                                                refine WL.nil ?_
                                                refine KX.go (hK_49' [(0, Value.int .i64 code), (3, Value.int .i64 code), (50, Value.bool (decide (code = 83)))] _ ?_) ⟨rfl, rfl, rfl, trivial⟩
                                                refine wc_cond (b := decide (code = 83)) rfl (fun hb => ?_) (fun hb => ?_)
                                                · replace h := if_T h hb
                                                  refine wc_seq (fun K0_50' hK_50' => ?_)
                                                  refine wc_region ?_
                                                  refine WL.val (OV.assign rfl) rfl rfl rfl ?_
                                                  refine WL.nil ?_
                                                  refine KX.go (hK_50' [(2, st ([97, 109, 98, 105, 103, 117, 111, 117, 115, 32, 115, 111, 117, 114, 99, 101, 32, 105, 116, 101, 114, 97, 116, 105, 111, 110] : List UInt8))] _ ?_) ⟨rfl, trivial⟩
                                                  refine wc_ret ?_
                                                  exact hE.ret [] rfl rfl (.inl ⟨_, h, rfl⟩) (ResV.of1 rfl (RV.tmp rfl))
                                                · replace h := if_F h hb
                                                  refine wc_seq (fun K0_51' hK_51' => ?_)
                                                  refine wc_region ?_
                                                  refine WL.val (OV.eql rfl rfl) rfl rfl rfl ?_
                                                  refine WL.val (OV.assign rfl) rfl rfl rfl ?_
                                                  refine WL.nil ?_
                                                  refine KX.go (hK_51' [(0, Value.int .i64 code), (3, Value.int .i64 code), (52, Value.bool (decide (code = 84)))] _ ?_) ⟨rfl, rfl, rfl, trivial⟩
                                                  refine wc_cond (b := decide (code = 84)) rfl (fun hb => ?_) (fun hb => ?_)
                                                  · replace h := if_T h hb
                                                    refine wc_seq (fun K0_52' hK_52' => ?_)
                                                    refine wc_region ?_
                                                    refine WL.val (OV.assign rfl) rfl rfl rfl ?_
                                                    refine WL.nil ?_
                                                    refine KX.go (hK_52' [(2, st ([97, 109, 98, 105, 103, 117, 111, 117, 115, 32, 118, 105, 101, 119, 32, 105, 116, 101, 114, 97, 116, 105, 111, 110] : List UInt8))] _ ?_) ⟨rfl, trivial⟩
                                                    refine wc_ret ?_
                                                    exact hE.ret [] rfl rfl (.inl ⟨_, h, rfl⟩) (ResV.of1 rfl (RV.tmp rfl))
                                                  · replace h := if_F h hb
                                                    refine wc_seq (fun K0_53' hK_53' => ?_)
                                                    refine wc_region ?_
                                                    refine WL.val (OV.eql rfl rfl) rfl rfl rfl ?_
                                                    refine WL.val (OV.assign rfl) rfl rfl rfl ?_
                                                    refine WL.nil ?_
                                                    refine KX.go (hK_53' [(0, Value.int .i64 code), (3, Value.int .i64 code), (54, Value.bool (decide (code = 85)))] _ ?_) ⟨rfl, rfl, rfl, trivial⟩
                                                    refine wc_cond (b := decide (code = 85)) rfl (fun hb => ?_) (fun hb => ?_)
                                                    · replace h := if_T h hb
                                                      refine wc_seq (fun K0_54' hK_54' => ?_)
                                                      refine wc_region ?_
                                                      refine WL.val (OV.assign rfl) rfl rfl rfl ?_
                                                      refine WL.nil ?_
                                                      refine KX.go (hK_54' [(2, st ([111, 118, 101, 114, 108, 97, 112, 112, 105, 110, 103, 32, 115, 111, 117, 114, 99, 101, 115] : List UInt8))] _ ?_) ⟨rfl, trivial⟩
                                                      refine wc_ret ?_
                                                      exact hE.ret [] rfl rfl (.inl ⟨_, h, rfl⟩) (ResV.of1 rfl (RV.tmp rfl))
                                                    · replace h := if_F h hb
                                                      refine wc_seq (fun K0_55' hK_55' => ?_)
                                                      refine wc_region ?_
                                                      refine WL.val (OV.eql rfl rfl) rfl rfl rfl ?_
                                                      refine WL.val (OV.assign rfl) rfl rfl rfl ?_
                                                      refine WL.nil ?_
                                                      refine KX.go (hK_55' [(0, Value.int .i64 code), (3, Value.int .i64 code), (56, Value.bool (decide (code = 86)))] _ ?_) ⟨rfl, rfl, rfl, trivial⟩
                                                      refine wc_cond (b := decide (code = 86)) rfl (fun hb => ?_) (fun hb => ?_)
                                                      · replace h := if_T h hb
                                                        refine wc_seq (fun K0_56' hK_56' => ?_)
                                                        refine wc_region ?_
                                                        refine WL.val (OV.assign rfl) rfl rfl rfl ?_
                                                        refine WL.nil ?_
                                                        refine KX.go (hK_56' [(2, st ([111, 118, 101, 114, 108, 97, 112, 112, 105, 110, 103, 32, 118, 105, 101, 119, 115] : List UInt8))] _ ?_) ⟨rfl, trivial⟩
                                                        refine wc_ret ?_
                                                        exact hE.ret [] rfl rfl (.inl ⟨_, h, rfl⟩) (ResV.of1 rfl (RV.tmp rfl))
                                                      · replace h := if_F h hb
                                                        refine wc_seq (fun K0_57' hK_57' => ?_)
                                                        refine wc_region ?_
                                                        refine WL.val (OV.eql rfl rfl) rfl rfl rfl ?_
                                                        refine WL.val (OV.assign rfl) rfl rfl rfl ?_
                                                        refine WL.nil ?_
                                                        refine KX.go (hK_57' [(0, Value.int .i64 code), (3, Value.int .i64 code), (58, Value.bool (decide (code = 87)))] _ ?_) ⟨rfl, rfl, rfl, trivial⟩
                                                        refine wc_cond (b := decide (code = 87)) rfl (fun hb => ?_) (fun hb => ?_)
                                                        · replace h := if_T h hb
                                                          refine wc_seq (fun K0_58' hK_58' => ?_)
                                                          refine wc_region ?_
                                                          refine WL.val (OV.assign rfl) rfl rfl rfl ?_
                                                          refine WL.nil ?_
                                                          refine KX.go (hK_58' [(2, st ([109, 105, 100, 100, 108, 101, 32, 116, 121, 112, 101, 115, 32, 100, 105, 102, 102, 101, 114] : List UInt8))] _ ?_) ⟨rfl, trivial⟩
                                                          refine wc_ret ?_
                                                          exact hE.ret [] rfl rfl (.inl ⟨_, h, rfl⟩) (ResV.of1 rfl (RV.tmp rfl))
                                                        · replace h := if_F h hb
                                                          refine wc_seq (fun K0_59' hK_59' => ?_)
                                                          refine wc_region ?_
                                                          refine WL.val (OV.eql rfl rfl) rfl rfl rfl ?_
                                                          refine WL.val (OV.assign rfl) rfl rfl rfl ?_
                                                          refine WL.nil ?_
                                                          refine KX.go (hK_59' [(0, Value.int .i64 code), (3, Value.int .i64 code), (60, Value.bool (decide (code = 88)))] _ ?_) ⟨rfl, rfl, rfl, trivial⟩
                                                          refine wc_cond (b := decide (code = 88)) rfl (fun hb => ?_) (fun hb => ?_)
                                                          · replace h := if_T h hb
                                                            refine wc_seq (fun K0_60' hK_60' => ?_)
                                                            refine wc_region ?_
                                                            refine WL.val (OV.assign rfl) rfl rfl rfl ?_
                                                            refine WL.nil ?_
                                                            refine KX.go (hK_60' [(2, st ([113, 117, 111, 116, 105, 101, 110, 116, 32, 105, 110, 32, 116, 104, 101, 32, 109, 105, 100, 100, 108, 101] : List UInt8))] _ ?_) ⟨rfl, trivial⟩
                                                            refine wc_ret ?_
                                                            exact hE.ret [] rfl rfl (.inl ⟨_, h, rfl⟩) (ResV.of1 rfl (RV.tmp rfl))
                                                          · replace h := if_F h hb
                                                            refine wc_seq (fun K0_61' hK_61' => ?_)
                                                            refine wc_region ?_
                                                            refine WL.val (OV.eql rfl rfl) rfl rfl rfl ?_
                                                            refine WL.val (OV.assign rfl) rfl rfl rfl ?_
                                                            refine WL.nil ?_
                                                            refine KX.go (hK_61' [(0, Value.int .i64 code), (3, Value.int .i64 code), (62, Value.bool (decide (code = 89)))] _ ?_) ⟨rfl, rfl, rfl, trivial⟩
                                                            refine wc_cond (b := decide (code = 89)) rfl (fun hb => ?_) (fun hb => ?_)
                                                            · replace h := if_T h hb
                                                              refine wc_seq (fun K0_62' hK_62' => ?_)
                                                              refine wc_region ?_
                                                              refine WL.val (OV.assign rfl) rfl rfl rfl ?_
                                                              refine WL.nil ?_
                                                              refine KX.go (hK_62' [(2, st ([99, 97, 110, 111, 110, 105, 122, 101, 114, 32, 111, 117, 116, 32, 111, 102, 32, 112, 108, 97, 99, 101] : List UInt8))] _ ?_) ⟨rfl, trivial⟩
                                                              refine wc_ret ?_
                                                              exact hE.ret [] rfl rfl (.inl ⟨_, h, rfl⟩) (ResV.of1 rfl (RV.tmp rfl))
                                                            · replace h := if_F h hb
                                                              refine wc_seq (fun K0_63' hK_63' => ?_)
                                                              refine wc_region ?_
                                                              refine WL.val (OV.eql rfl rfl) rfl rfl rfl ?_
                                                              refine WL.val (OV.assign rfl) rfl rfl rfl ?_
                                                              refine WL.nil ?_
                                                              refine KX.go (hK_63' [(0, Value.int .i64 code), (3, Value.int .i64 code), (64, Value.bool (decide (code = 90)))] _ ?_) ⟨rfl, rfl, rfl, trivial⟩
                                                              refine wc_cond (b := decide (code = 90)) rfl (fun hb => ?_) (fun hb => ?_)
                                                              · replace h := if_T h hb
                                                                refine wc_seq (fun K0_64' hK_64' => ?_)
                                                                refine wc_region ?_
                                                                refine WL.val (OV.assign rfl) rfl rfl rfl ?_
                                                                refine WL.nil ?_
                                                                refine KX.go (hK_64' [(2, st ([99, 97, 112, 105, 116, 97, 108, 32, 108, 101, 116, 116, 101, 114] : List UInt8))] _ ?_) ⟨rfl, trivial⟩
                                                                refine wc_ret ?_
                                                                exact hE.ret [] rfl rfl (.inl ⟨_, h, rfl⟩) (ResV.of1 rfl (RV.tmp rfl))
                                                              · replace h := if_F h hb
                                                                refine wc_seq (fun K0_65' hK_65' => ?_)
                                                                refine wc_region ?_
                                                                refine WL.val (OV.eql rfl rfl) rfl rfl rfl ?_
                                                                refine WL.val (OV.assign rfl) rfl rfl rfl ?_
                                                                refine WL.nil ?_
                                                                refine KX.go (hK_65' [(0, Value.int .i64 code), (3, Value.int .i64 code), (66, Value.bool (decide (code = 100)))] _ ?_) ⟨rfl, rfl, rfl, trivial⟩
                                                                refine wc_cond (b := decide (code = 100)) rfl (fun hb => ?_) (fun hb => ?_)
                                                                · replace h := if_T h hb
                                                                  refine wc_seq (fun K0_66' hK_66' => ?_)
                                                                  refine wc_region ?_
                                                                  refine WL.val (OV.assign rfl) rfl rfl rfl ?_
                                                                  refine WL.nil ?_
                                                                  refine KX.go (hK_66' [(2, st ([110, 111, 32, 115, 111, 117, 114, 99, 101] : List UInt8))] _ ?_) ⟨rfl, trivial⟩
                                                                  refine wc_ret ?_
                                                                  exact hE.ret [] rfl rfl (.inl ⟨_, h, rfl⟩) (ResV.of1 rfl (RV.tmp rfl))
                                                                · replace h := if_F h hb
                                                                  refine wc_seq (fun K0_67' hK_67' => ?_)
                                                                  refine wc_region ?_
                                                                  refine WL.val (OV.eql rfl rfl) rfl rfl rfl ?_
                                                                  refine WL.val (OV.assign rfl) rfl rfl rfl ?_
                                                                  refine WL.nil ?_
                                                                  refine KX.go (hK_67' [(0, Value.int .i64 code), (3, Value.int .i64 code), (68, Value.bool (decide (code = 101)))] _ ?_) ⟨rfl, rfl, rfl, trivial⟩
                                                                  refine wc_cond (b := decide (code = 101)) rfl (fun hb => ?_) (fun hb => ?_)
                                                                  · replace h := if_T h hb
                                                                    refine wc_seq (fun K0_68' hK_68' => ?_)
                                                                    refine wc_region ?_
                                                                    refine WL.val (OV.assign rfl) rfl rfl rfl ?_
                                                                    refine WL.nil ?_
                                                                    refine KX.go (hK_68' [(2, st ([110, 111, 32, 118, 105, 101, 119] : List UInt8))] _ ?_) ⟨rfl, trivial⟩
                                                                    refine wc_ret ?_
                                                                    exact hE.ret [] rfl rfl (.inl ⟨_, h, rfl⟩) (ResV.of1 rfl (RV.tmp rfl))
                                                                  · replace h := if_F h hb
                                                                    refine wc_seq (fun K0_69' hK_69' => ?_)
                                                                    refine wc_region ?_
                                                                    refine WL.val (OV.eql rfl rfl) rfl rfl rfl ?_
                                                                    refine WL.val (OV.assign rfl) rfl rfl rfl ?_
                                                                    refine WL.nil ?_
                                                                    refine KX.go (hK_69' [(0, Value.int .i64 code), (3, Value.int .i64 code), (70, Value.bool (decide (code = 110)))] _ ?_) ⟨rfl, rfl, rfl, trivial⟩
                                                                    refine wc_cond (b := decide (code = 110)) rfl (fun hb => ?_) (fun hb => ?_)
                                                                    · replace h := if_T h hb
                                                                      refine wc_seq (fun K0_70' hK_70' => ?_)
                                                                      refine wc_region ?_
                                                                      refine WL.val (OV.assign rfl) rfl rfl rfl ?_
                                                                      refine WL.nil ?_
                                                                      refine KX.go (hK_70' [(2, st ([98, 97, 100, 32, 108, 105, 110, 101] : List UInt8))] _ ?_) ⟨rfl, trivial⟩
                                                                      refine wc_ret ?_
                                                                      exact hE.ret [] rfl rfl (.inl ⟨_, h, rfl⟩) (ResV.of1 rfl (RV.tmp rfl))
                                                                    · replace h := if_F h hb
                                                                      refine wc_seq (fun K0_71' hK_71' => ?_)
                                                                      refine wc_region ?_
                                                                      refine WL.val (OV.eql rfl rfl) rfl rfl rfl ?_
                                                                      refine WL.val (OV.assign rfl) rfl rfl rfl ?_
                                                                      refine WL.nil ?_
                                                                      refine KX.go (hK_71' [(0, Value.int .i64 code), (3, Value.int .i64 code), (72, Value.bool (decide (code = 111)))] _ ?_) ⟨rfl, rfl, rfl, trivial⟩
                                                                      refine wc_cond (b := decide (code = 111)) rfl (fun hb => ?_) (fun hb => ?_)
                                                                      · replace h := if_T h hb
                                                                        refine wc_seq (fun K0_72' hK_72' => ?_)
                                                                        refine wc_region ?_
                                                                        refine WL.val (OV.assign rfl) rfl rfl rfl ?_
                                                                        refine WL.nil ?_
                                                                        refine KX.go (hK_72' [(2, st ([98, 97, 100, 32, 111, 112, 101, 114, 97, 110, 100] : List UInt8))] _ ?_) ⟨rfl, trivial⟩
                                                                        refine wc_ret ?_
                                                                        exact hE.ret [] rfl rfl (.inl ⟨_, h, rfl⟩) (ResV.of1 rfl (RV.tmp rfl))
                                                                      · replace h := if_F h hb
                                                                        refine wc_seq (fun K0_73' hK_73' => ?_)
                                                                        refine wc_region ?_
                                                                        refine WL.val (OV.eql rfl rfl) rfl rfl rfl ?_
                                                                        refine WL.val (OV.assign rfl) rfl rfl rfl ?_
                                                                        refine WL.nil ?_
                                                                        refine KX.go (hK_73' [(0, Value.int .i64 code), (3, Value.int .i64 code), (74, Value.bool (decide (code = 112)))] _ ?_) ⟨rfl, rfl, rfl, trivial⟩
                                                                        refine wc_cond (b := decide (code = 112)) rfl (fun hb => ?_) (fun hb => ?_)
                                                                        · replace h := if_T h hb
                                                                          refine wc_seq (fun K0_74' hK_74' => ?_)
                                                                          refine wc_region ?_
                                                                          refine WL.val (OV.assign rfl) rfl rfl rfl ?_
                                                                          refine WL.nil ?_
                                                                          refine KX.go (hK_74' [(2, st ([101, 109, 112, 116, 121, 32, 115, 116, 97, 99, 107] : List UInt8))] _ ?_) ⟨rfl, trivial⟩
                                                                          refine wc_ret ?_
                                                                          exact hE.ret [] rfl rfl (.inl ⟨_, h, rfl⟩) (ResV.of1 rfl (RV.tmp rfl))
                                                                        · replace h := if_F h hb
                                                                          refine wc_seq (fun K0_75' hK_75' => ?_)
                                                                          refine wc_region ?_
                                                                          refine WL.val (OV.eql rfl rfl) rfl rfl rfl ?_
                                                                          refine WL.val (OV.assign rfl) rfl rfl rfl ?_
                                                                          refine WL.nil ?_
                                                                          refine KX.go (hK_75' [(0, Value.int .i64 code), (3, Value.int .i64 code), (76, Value.bool (decide (code = 113)))] _ ?_) ⟨rfl, rfl, rfl, trivial⟩
                                                                          refine wc_cond (b := decide (code = 113)) rfl (fun hb => ?_) (fun hb => ?_)
                                                                          · replace h := if_T h hb
                                                                            refine wc_seq (fun K0_76' hK_76' => ?_)
                                                                            refine wc_region ?_
                                                                            refine WL.val (OV.assign rfl) rfl rfl rfl ?_
                                                                            refine WL.nil ?_
                                                                            refine KX.go (hK_76' [(2, st ([110, 111, 32, 99, 117, 116] : List UInt8))] _ ?_) ⟨rfl, trivial⟩
                                                                            refine wc_ret ?_
                                                                            exact hE.ret [] rfl rfl (.inl ⟨_, h, rfl⟩) (ResV.of1 rfl (RV.tmp rfl))
                                                                          · replace h := if_F h hb
                                                                            refine wc_seq (fun K0_77' hK_77' => ?_)
                                                                            refine wc_region ?_
                                                                            refine WL.val (OV.eql rfl rfl) rfl rfl rfl ?_
                                                                            refine WL.val (OV.assign rfl) rfl rfl rfl ?_
                                                                            refine WL.nil ?_
                                                                            refine KX.go (hK_77' [(0, Value.int .i64 code), (3, Value.int .i64 code), (78, Value.bool (decide (code = 114)))] _ ?_) ⟨rfl, rfl, rfl, trivial⟩
                                                                            refine wc_cond (b := decide (code = 114)) rfl (fun hb => ?_) (fun hb => ?_)
                                                                            · replace h := if_T h hb
                                                                              refine wc_seq (fun K0_78' hK_78' => ?_)
                                                                              refine wc_region ?_
                                                                              refine WL.val (OV.assign rfl) rfl rfl rfl ?_
                                                                              refine WL.nil ?_
                                                                              refine KX.go (hK_78' [(2, st ([111, 117, 116, 32, 111, 102, 32, 115, 116, 101, 112, 115] : List UInt8))] _ ?_) ⟨rfl, trivial⟩
                                                                              refine wc_ret ?_
                                                                              exact hE.ret [] rfl rfl (.inl ⟨_, h, rfl⟩) (ResV.of1 rfl (RV.tmp rfl))
                                                                            · replace h := if_F h hb
                                                                              refine wc_seq (fun K0_79' hK_79' => ?_)
                                                                              refine wc_region ?_
                                                                              refine WL.val (OV.eql rfl rfl) rfl rfl rfl ?_
                                                                              refine WL.val (OV.assign rfl) rfl rfl rfl ?_
                                                                              refine WL.nil ?_
                                                                              refine KX.go (hK_79' [(0, Value.int .i64 code), (3, Value.int .i64 code), (80, Value.bool (decide (code = 115)))] _ ?_) ⟨rfl, rfl, rfl, trivial⟩
                                                                              refine wc_cond (b := decide (code = 115)) rfl (fun hb => ?_) (fun hb => ?_)
                                                                              · replace h := if_T h hb
                                                                                refine wc_seq (fun K0_80' hK_80' => ?_)
                                                                                refine wc_region ?_
                                                                                refine WL.val (OV.assign rfl) rfl rfl rfl ?_
                                                                                refine WL.nil ?_
                                                                                refine KX.go (hK_80' [(2, st ([116, 111, 111, 32, 109, 97, 110, 121, 32, 99, 97, 108, 108, 115] : List UInt8))] _ ?_) ⟨rfl, trivial⟩
                                                                                refine wc_ret ?_
                                                                                exact hE.ret [] rfl rfl (.inl ⟨_, h, rfl⟩) (ResV.of1 rfl (RV.tmp rfl))
                                                                              · replace h := if_F h hb
                                                                                refine wc_seq (fun K0_81' hK_81' => ?_)
                                                                                refine wc_region ?_
                                                                                refine WL.val (OV.eql rfl rfl) rfl rfl rfl ?_
                                                                                refine WL.val (OV.assign rfl) rfl rfl rfl ?_
                                                                                refine WL.nil ?_
                                                                                refine KX.go (hK_81' [(0, Value.int .i64 code), (3, Value.int .i64 code), (82, Value.bool (decide (code = 120)))] _ ?_) ⟨rfl, rfl, rfl, trivial⟩
                                                                                refine wc_cond (b := decide (code = 120)) rfl (fun hb => ?_) (fun hb => ?_)
                                                                                · replace h := if_T h hb
                                                                                  refine wc_seq (fun K0_82' hK_82' => ?_)
                                                                                  refine wc_region ?_
                                                                                  refine WL.val (OV.assign rfl) rfl rfl rfl ?_
                                                                                  refine WL.nil ?_
                                                                                  refine KX.go (hK_82' [(2, st ([101, 110, 100, 101, 100] : List UInt8))] _ ?_) ⟨rfl, trivial⟩
                                                                                  refine wc_ret ?_
                                                                                  exact hE.ret [] rfl rfl (.inl ⟨_, h, rfl⟩) (ResV.of1 rfl (RV.tmp rfl))
                                                                                · replace h := if_F h hb
                                                                                  refine wc_seq (fun K0_83' hK_83' => ?_)
                                                                                  refine wc_region ?_
                                                                                  refine WL.val (OV.eql rfl rfl) rfl rfl rfl ?_
                                                                                  refine WL.val (OV.assign rfl) rfl rfl rfl ?_
                                                                                  refine WL.nil ?_
                                                                                  refine KX.go (hK_83' [(0, Value.int .i64 code), (3, Value.int .i64 code), (84, Value.bool (decide (code = 130)))] _ ?_) ⟨rfl, rfl, rfl, trivial⟩
                                                                                  refine wc_cond (b := decide (code = 130)) rfl (fun hb => ?_) (fun hb => ?_)
                                                                                  · replace h := if_T h hb
                                                                                    refine wc_seq (fun K0_84' hK_84' => ?_)
                                                                                    refine wc_region ?_
                                                                                    refine WL.val (OV.assign rfl) rfl rfl rfl ?_
                                                                                    refine WL.nil ?_
                                                                                    refine KX.go (hK_84' [(2, st ([98, 97, 100, 32, 101, 100, 105, 116] : List UInt8))] _ ?_) ⟨rfl, trivial⟩
                                                                                    refine wc_ret ?_
                                                                                    exact hE.ret [] rfl rfl (.inl ⟨_, h, rfl⟩) (ResV.of1 rfl (RV.tmp rfl))
                                                                                  · replace h := if_F h hb
                                                                                    refine wc_seq (fun K0_85' hK_85' => ?_)
                                                                                    refine wc_region ?_
                                                                                    refine WL.val (OV.eql rfl rfl) rfl rfl rfl ?_
                                                                                    refine WL.val (OV.assign rfl) rfl rfl rfl ?_
                                                                                    refine WL.nil ?_
                                                                                    refine KX.go (hK_85' [(0, Value.int .i64 code), (86, Value.bool (decide (code = 140)))] _ ?_) ⟨rfl, rfl, trivial⟩
                                                                                    refine wc_cond (b := decide (code = 140)) rfl (fun hb => ?_) (fun hb => ?_)
                                                                                    · replace h := if_T h hb
                                                                                      refine wc_seq (fun K0_86' hK_86' => ?_)
                                                                                      refine wc_region ?_
                                                                                      refine WL.val (OV.assign rfl) rfl rfl rfl ?_
                                                                                      refine WL.nil ?_
                                                                                      refine KX.go (hK_86' [(2, st ([117, 115, 97, 103, 101] : List UInt8))] _ ?_) ⟨rfl, trivial⟩
                                                                                      refine wc_ret ?_
                                                                                      exact hE.ret [] rfl rfl (.inl ⟨_, h, rfl⟩) (ResV.of1 rfl (RV.tmp rfl))
                                                                                    · replace h := if_F h hb
                                                                                      refine wc_skip ?_
                                                                                      refine KX.go (hK_1' [(0, Value.int .i64 code)] _ ?_) ⟨rfl, trivial⟩
                                                                                      refine wc_seq (fun K0_87' hK_87' => ?_)
                                                                                      refine wc_region ?_
                                                                                      refine WL.val (OV.move rfl) rfl rfl rfl ?_
                                                                                      obtain ⟨o, h⟩ := h
                                                                                      refine WL.call (A := []) tf_ent_23 rfl (number_does code o) rfl trivial rfl rfl ?_
                                                                                      obtain ⟨o_1', h⟩ := h
                                                                                      refine WL.val (OV.cat rfl rfl o_1') rfl rfl rfl ?_
                                                                                      refine WL.val (OV.assign rfl) rfl rfl rfl ?_
                                                                                      refine WL.nil ?_
                                                                                      refine KX.go (hK_87' [(2, st (([101, 114, 114, 111, 114, 32] : List UInt8) ++ (Lib.itoa code)))] _ ?_) ⟨rfl, trivial⟩
                                                                                      refine wc_ret ?_
                                                                                      exact hE.ret [] rfl rfl (.inl ⟨_, h, rfl⟩) (ResV.of1 rfl (RV.tmp rfl))

def shown_vc (code : Int) (K : Bool → Prop) : Prop :=
  ∃ (J0 : Bool → Prop),
    (∀ (t4 : Bool), J0 t4 →
      (if t4 = true then
        K true
      else
        K false)) ∧
    (if (decide (code = 81)) = true then
      J0 (decide (code = 81))
    else
      (if (decide (code = 82)) = true then
        J0 (decide (code = 82))
      else
        (if (decide (code = 83)) = true then
          J0 (decide (code = 83))
        else
          (if (decide (code = 84)) = true then
            J0 (decide (code = 84))
          else
            (if (decide (code = 85)) = true then
              J0 (decide (code = 85))
            else
              (if (decide (code = 86)) = true then
                J0 (decide (code = 86))
              else
                (if (decide (code = 87)) = true then
                  J0 (decide (code = 87))
                else
                  (if (decide (code = 89)) = true then
                    J0 (decide (code = 89))
                  else
                    J0 (decide (code = 90))))))))))
set_option maxRecDepth 100000 in
theorem shown_wp  (code : Int) (K : Bool → Prop) (h : shown_vc code K) :
    Does Tryd.prog 24 [Value.int .i64 code] [] [] (fun o => (∃ (v : Bool), K v ∧ o = .ret (Value.bool v) []) ∨ (False)) := by
  unfold shown_vc at h
  refine does_of_wc (n := 14) (L0 := [(0, Value.int .i64 code)]) Tryd.func24 rfl rfl rfl rfl (fun w0 M Q hE => ?_)
  refine wc_seq (fun K0 hK => ?_)
  refine wc_region ?_
  refine WL.val (OV.assign rfl) rfl rfl rfl ?_
  refine WL.nil ?_
  refine KX.go (hK [(0, Value.int .i64 code)] _ ?_) ⟨rfl, trivial⟩
  refine wc_seq (fun K0_1' hK_1' => ?_)
  refine wc_seq (fun K0_2' hK_2' => ?_)
  refine wc_region ?_
  refine WL.val (OV.move rfl) rfl rfl rfl ?_
  refine WL.nil ?_
  refine KX.go (hK_2' [(3, Value.int .i64 code)] _ ?_) ⟨rfl, trivial⟩
  refine wc_block ?_
  obtain ⟨J0, hJ, h⟩ := h
  refine wc_seqJ (X := Bool) (fun σ => J0 σ) (fun σ => [(4, Value.bool σ)]) (fun σ => []) ?_ (fun K0_11' hK_11' => ?_)
  · rintro t4 hj
    replace h := hJ t4 hj
    show WC _ _ _ _ [(4, Value.bool t4)] []
    refine wc_cond (b := t4) rfl (fun hb => ?_) (fun hb => ?_)
    · replace h := if_T h hb
      refine wc_seq (fun K0_12' hK_12' => ?_)
      refine wc_region ?_
      refine WL.val (OV.assign rfl) rfl rfl rfl ?_
      refine WL.nil ?_
      refine KX.go (hK_12' [(2, Value.bool true)] _ ?_) ⟨rfl, trivial⟩
      refine wc_ret ?_
      exact hE.ret [] rfl rfl (.inl ⟨_, h, rfl⟩) (ResV.of1 rfl (RV.tmp rfl))
    · replace h := if_F h hb
      refine wc_skip ?_
      refine KX.go (hK_1' [] _ ?_) trivial
      refine wc_seq (fun K0_13' hK_13' => ?_)
      refine wc_region ?_
      refine WL.val (OV.assign rfl) rfl rfl rfl ?_
      refine WL.nil ?_
      refine KX.go (hK_13' [(2, Value.bool false)] _ ?_) ⟨rfl, trivial⟩
      refine wc_ret ?_
      exact hE.ret [] rfl rfl (.inl ⟨_, h, rfl⟩) (ResV.of1 rfl (RV.tmp rfl))
  · skip
    refine wc_seq (fun K0_14' hK_14' => ?_)
    refine wc_region ?_
    refine WL.val (OV.eql rfl rfl) rfl rfl rfl ?_
    refine WL.val (OV.assign rfl) rfl rfl rfl ?_
    refine WL.nil ?_
    refine KX.go (hK_14' [(3, Value.int .i64 code), (4, Value.bool (decide (code = 81)))] _ ?_) ⟨rfl, rfl, trivial⟩
    refine wc_cond (b := decide (code = 81)) rfl (fun hb => ?_) (fun hb => ?_)
    · replace h := if_T h hb
      refine wc_skip ?_
      exact KX.goH (hK_11' (decide (code = 81)) h) ⟨rfl, trivial⟩ [] rfl rfl
    · replace h := if_F h hb
      refine wc_seq (fun K0_15' hK_15' => ?_)
      refine wc_region ?_
      refine WL.val (OV.eql rfl rfl) rfl rfl rfl ?_
      refine WL.val (OV.assign rfl) rfl rfl rfl ?_
      refine WL.nil ?_
      refine KX.go (hK_15' [(3, Value.int .i64 code), (4, Value.bool (decide (code = 82)))] _ ?_) ⟨rfl, rfl, trivial⟩
      refine wc_cond (b := decide (code = 82)) rfl (fun hb => ?_) (fun hb => ?_)
      · replace h := if_T h hb
        refine wc_skip ?_
        exact KX.goH (hK_11' (decide (code = 82)) h) ⟨rfl, trivial⟩ [] rfl rfl
      · replace h := if_F h hb
        refine wc_seq (fun K0_16' hK_16' => ?_)
        refine wc_region ?_
        refine WL.val (OV.eql rfl rfl) rfl rfl rfl ?_
        refine WL.val (OV.assign rfl) rfl rfl rfl ?_
        refine WL.nil ?_
        refine KX.go (hK_16' [(3, Value.int .i64 code), (4, Value.bool (decide (code = 83)))] _ ?_) ⟨rfl, rfl, trivial⟩
        refine wc_cond (b := decide (code = 83)) rfl (fun hb => ?_) (fun hb => ?_)
        · replace h := if_T h hb
          refine wc_skip ?_
          exact KX.goH (hK_11' (decide (code = 83)) h) ⟨rfl, trivial⟩ [] rfl rfl
        · replace h := if_F h hb
          refine wc_seq (fun K0_17' hK_17' => ?_)
          refine wc_region ?_
          refine WL.val (OV.eql rfl rfl) rfl rfl rfl ?_
          refine WL.val (OV.assign rfl) rfl rfl rfl ?_
          refine WL.nil ?_
          refine KX.go (hK_17' [(3, Value.int .i64 code), (4, Value.bool (decide (code = 84)))] _ ?_) ⟨rfl, rfl, trivial⟩
          refine wc_cond (b := decide (code = 84)) rfl (fun hb => ?_) (fun hb => ?_)
          · replace h := if_T h hb
            refine wc_skip ?_
            exact KX.goH (hK_11' (decide (code = 84)) h) ⟨rfl, trivial⟩ [] rfl rfl
          · replace h := if_F h hb
            refine wc_seq (fun K0_18' hK_18' => ?_)
            refine wc_region ?_
            refine WL.val (OV.eql rfl rfl) rfl rfl rfl ?_
            refine WL.val (OV.assign rfl) rfl rfl rfl ?_
            refine WL.nil ?_
            refine KX.go (hK_18' [(3, Value.int .i64 code), (4, Value.bool (decide (code = 85)))] _ ?_) ⟨rfl, rfl, trivial⟩
            refine wc_cond (b := decide (code = 85)) rfl (fun hb => ?_) (fun hb => ?_)
            · replace h := if_T h hb
              refine wc_skip ?_
              exact KX.goH (hK_11' (decide (code = 85)) h) ⟨rfl, trivial⟩ [] rfl rfl
            · replace h := if_F h hb
              refine wc_seq (fun K0_19' hK_19' => ?_)
              refine wc_region ?_
              refine WL.val (OV.eql rfl rfl) rfl rfl rfl ?_
              refine WL.val (OV.assign rfl) rfl rfl rfl ?_
              refine WL.nil ?_
              refine KX.go (hK_19' [(3, Value.int .i64 code), (4, Value.bool (decide (code = 86)))] _ ?_) ⟨rfl, rfl, trivial⟩
              refine wc_cond (b := decide (code = 86)) rfl (fun hb => ?_) (fun hb => ?_)
              · replace h := if_T h hb
                refine wc_skip ?_
                exact KX.goH (hK_11' (decide (code = 86)) h) ⟨rfl, trivial⟩ [] rfl rfl
              · replace h := if_F h hb
                refine wc_seq (fun K0_20' hK_20' => ?_)
                refine wc_region ?_
                refine WL.val (OV.eql rfl rfl) rfl rfl rfl ?_
                refine WL.val (OV.assign rfl) rfl rfl rfl ?_
                refine WL.nil ?_
                refine KX.go (hK_20' [(3, Value.int .i64 code), (4, Value.bool (decide (code = 87)))] _ ?_) ⟨rfl, rfl, trivial⟩
                refine wc_cond (b := decide (code = 87)) rfl (fun hb => ?_) (fun hb => ?_)
                · replace h := if_T h hb
                  refine wc_skip ?_
                  exact KX.goH (hK_11' (decide (code = 87)) h) ⟨rfl, trivial⟩ [] rfl rfl
                · replace h := if_F h hb
                  refine wc_seq (fun K0_21' hK_21' => ?_)
                  refine wc_region ?_
                  refine WL.val (OV.eql rfl rfl) rfl rfl rfl ?_
                  refine WL.val (OV.assign rfl) rfl rfl rfl ?_
                  refine WL.nil ?_
                  refine KX.go (hK_21' [(3, Value.int .i64 code), (4, Value.bool (decide (code = 89)))] _ ?_) ⟨rfl, rfl, trivial⟩
                  refine wc_cond (b := decide (code = 89)) rfl (fun hb => ?_) (fun hb => ?_)
                  · replace h := if_T h hb
                    refine wc_skip ?_
                    exact KX.goH (hK_11' (decide (code = 89)) h) ⟨rfl, trivial⟩ [] rfl rfl
                  · replace h := if_F h hb
                    refine wc_region ?_
                    refine WL.val (OV.eql rfl rfl) rfl rfl rfl ?_
                    refine WL.val (OV.assign rfl) rfl rfl rfl ?_
                    refine WL.nil ?_
                    exact KX.goH (hK_11' (decide (code = 90)) h) ⟨rfl, trivial⟩ [] rfl rfl

def witness_vc (code : Int) (K : Bool → Prop) : Prop :=
  K ((((decide (81 ≤ code)) && (decide (code ≤ 87))) || (decide (code = 89))) || (decide (code = 90)))
set_option maxRecDepth 100000 in
theorem witness_wp  (code : Int) (K : Bool → Prop) (h : witness_vc code K) :
    Does Tryd.prog 25 [Value.int .i64 code] [] [] (fun o => (∃ (v : Bool), K v ∧ o = .ret (Value.bool v) []) ∨ (False)) := by
  unfold witness_vc at h
  refine does_of_wc (n := 17) (L0 := [(0, Value.int .i64 code)]) Tryd.func25 rfl rfl rfl rfl (fun w0 M Q hE => ?_)
  refine wc_seq (fun K0 hK => ?_)
  refine wc_region ?_
  refine WL.val (OV.assign rfl) rfl rfl rfl ?_
  refine WL.nil ?_
  refine KX.go (hK [(0, Value.int .i64 code)] _ ?_) ⟨rfl, trivial⟩
  refine wc_seq (fun K0_1' hK_1' => ?_)
  refine wc_region ?_
  refine WL.val (OV.move rfl) rfl rfl rfl ?_
  refine WL.val (OV.geq rfl rfl) rfl rfl rfl ?_
  refine WL.val (OV.move rfl) rfl rfl rfl ?_
  refine WL.cut 3 [(0, Value.int .i64 code), (8, Value.bool ((decide (81 ≤ code)) && (decide (code ≤ 87))))] ?_ (fun K0_2' hK_2' => ?_)
  rotate_left
  · refine WL.split (decide (81 ≤ code)) (fun hb => ?_) (fun hb => ?_)
    · refine WL.set 5 rfl (congrArg Value.bool hb) ?_
      refine WL.val (OV.move rfl) rfl rfl rfl ?_
      refine WL.val (OV.leq rfl rfl) rfl rfl rfl ?_
      refine WL.val (OV.pickT rfl rfl) rfl rfl rfl ?_
      refine WL.set 8 rfl (bT (v := decide (code ≤ 87)) hb) ?_
      exact WL.end_ (KX.go hK_2' ⟨rfl, rfl, trivial⟩)
    · refine WL.set 5 rfl (congrArg Value.bool hb) ?_
      refine WL.skip rfl rfl rfl ?_
      refine WL.skip rfl rfl rfl ?_
      refine WL.val (OV.pickF rfl rfl) rfl rfl rfl ?_
      refine WL.set 8 rfl (bF (v := decide (code ≤ 87)) hb) ?_
      exact WL.end_ (KX.go hK_2' ⟨rfl, rfl, trivial⟩)
  refine WL.val (OV.move rfl) rfl rfl rfl ?_
  refine WL.cut 3 [(0, Value.int .i64 code), (12, Value.bool (((decide (81 ≤ code)) && (decide (code ≤ 87))) || (decide (code = 89))))] ?_ (fun K0_3' hK_3' => ?_)
  rotate_left
  · refine WL.split ((decide (81 ≤ code)) && (decide (code ≤ 87))) (fun hb => ?_) (fun hb => ?_)
    · refine WL.set 9 rfl (congrArg Value.bool hb) ?_
      refine WL.skip rfl rfl rfl ?_
      refine WL.skip rfl rfl rfl ?_
      refine WL.val (OV.pickT rfl rfl) rfl rfl rfl ?_
      refine WL.set 12 rfl (oT (v := decide (code = 89)) hb) ?_
      exact WL.end_ (KX.go hK_3' ⟨rfl, rfl, trivial⟩)
    · refine WL.set 9 rfl (congrArg Value.bool hb) ?_
      refine WL.val (OV.move rfl) rfl rfl rfl ?_
      refine WL.val (OV.eql rfl rfl) rfl rfl rfl ?_
      refine WL.val (OV.pickF rfl rfl) rfl rfl rfl ?_
      refine WL.set 12 rfl (oF (v := decide (code = 89)) hb) ?_
      exact WL.end_ (KX.go hK_3' ⟨rfl, rfl, trivial⟩)
  refine WL.val (OV.move rfl) rfl rfl rfl ?_
  refine WL.cut 3 [(16, Value.bool ((((decide (81 ≤ code)) && (decide (code ≤ 87))) || (decide (code = 89))) || (decide (code = 90))))] ?_ (fun K0_4' hK_4' => ?_)
  rotate_left
  · refine WL.split (((decide (81 ≤ code)) && (decide (code ≤ 87))) || (decide (code = 89))) (fun hb => ?_) (fun hb => ?_)
    · refine WL.set 13 rfl (congrArg Value.bool hb) ?_
      refine WL.skip rfl rfl rfl ?_
      refine WL.skip rfl rfl rfl ?_
      refine WL.val (OV.pickT rfl rfl) rfl rfl rfl ?_
      refine WL.set 16 rfl (oT (v := decide (code = 90)) hb) ?_
      exact WL.end_ (KX.go hK_4' ⟨rfl, trivial⟩)
    · refine WL.set 13 rfl (congrArg Value.bool hb) ?_
      refine WL.val (OV.move rfl) rfl rfl rfl ?_
      refine WL.val (OV.eql rfl rfl) rfl rfl rfl ?_
      refine WL.val (OV.pickF rfl rfl) rfl rfl rfl ?_
      refine WL.set 16 rfl (oF (v := decide (code = 90)) hb) ?_
      exact WL.end_ (KX.go hK_4' ⟨rfl, trivial⟩)
  refine WL.val (OV.assign rfl) rfl rfl rfl ?_
  refine WL.nil ?_
  refine KX.go (hK_1' [(2, Value.bool ((((decide (81 ≤ code)) && (decide (code ≤ 87))) || (decide (code = 89))) || (decide (code = 90))))] _ ?_) ⟨rfl, trivial⟩
  refine wc_ret ?_
  exact hE.ret [] rfl rfl (.inl ⟨_, h, rfl⟩) (ResV.of1 rfl (RV.tmp rfl))

theorem name_does (te : TypeId) (fre : Nat × Nat) (c : Int) (h : I64 c) : Does Tryd.prog 14 [.int .i64 c] [(1, .cells powCells.toArray te fre)] [] (Ret (st (nameL c)) []) := by
  refine (name_wp te fre c (fun r => r = nameL c) ?_).weak (by rintro o (⟨v, rfl, rfl⟩ | h) <;> first | rfl | exact h.elim)
  have hil := itoa_len h
  unfold name_vc
  have hlen : nameTab.length = 42 := rfl
  refine ⟨fun i => 0 ≤ i ∧ i ≤ 42 ∧ ∀ j : Nat, (j : Int) < i → (nameTab.getD j (0, [])).1 ≠ c, fun i => (42 - i).toNat, ⟨by omega, by omega, fun j hj => by omega⟩, fun i ⟨h0, h1, hn⟩ => ?_⟩
  by_cases hi : i < 42
  · rw [if_pos (by simpa using hi)]
    refine ⟨⟨hlen, h0, hi⟩, ?_⟩
    by_cases he : (nameTab.getD i.toNat (0, [])).1 = c
    · rw [if_pos (by simpa using he)]
      unfold nameL
      rw [find_at (d := (0, [])) (i := i.toNat) (by omega) (by simpa using he) (fun j hj => by simpa using hn j (by omega))]
    · rw [if_neg (by simpa using he)]
      refine ⟨⟨by omega, by omega⟩, ⟨by omega, by omega, fun j hj => ?_⟩, by show (42 - (i + 1)).toNat < (42 - i).toNat; omega⟩
      by_cases hji : (j : Int) < i
      · exact hn j hji
      · rw [show j = i.toNat by omega]; exact he
  · rw [if_neg (by simpa using hi)]
    refine ⟨h, by simp only [List.length_cons, List.length_nil]; omega, ?_⟩
    unfold nameL
    rw [find_no (d := (0, [])) fun j hj => by simpa using hn j (by omega)]
theorem name_none {c : Int} (h : ∀ x ∈ nameTab, x.1 ≠ c) : nameL c = [101, 114, 114, 111, 114, 32] ++ Lib.itoa c := by
  unfold nameL
  rw [List.find?_eq_none.2 fun x hx => by simpa using h x hx]
theorem rname_does (c : Int) (h : I64 c) : Does Tryd.prog 15 [.int .i64 c] [] [] (Ret (st (nameL c)) []) := by
  refine (rname_wp c (fun r => r = nameL c) ?_).weak (by rintro o (⟨v, rfl, rfl⟩ | h) <;> first | rfl | exact h.elim)
  have hil := itoa_len h
  unfold rname_vc
  by_cases n0 : c = 0
  · rw [if_pos (by simpa using n0)]; subst n0; rfl
  rw [if_neg (by simpa using n0)]
  by_cases n1 : c = 1
  · rw [if_pos (by simpa using n1)]; subst n1; rfl
  rw [if_neg (by simpa using n1)]
  by_cases n2 : c = 2
  · rw [if_pos (by simpa using n2)]; subst n2; rfl
  rw [if_neg (by simpa using n2)]
  by_cases n3 : c = 3
  · rw [if_pos (by simpa using n3)]; subst n3; rfl
  rw [if_neg (by simpa using n3)]
  by_cases n4 : c = 4
  · rw [if_pos (by simpa using n4)]; subst n4; rfl
  rw [if_neg (by simpa using n4)]
  by_cases n10 : c = 10
  · rw [if_pos (by simpa using n10)]; subst n10; rfl
  rw [if_neg (by simpa using n10)]
  by_cases n20 : c = 20
  · rw [if_pos (by simpa using n20)]; subst n20; rfl
  rw [if_neg (by simpa using n20)]
  by_cases n21 : c = 21
  · rw [if_pos (by simpa using n21)]; subst n21; rfl
  rw [if_neg (by simpa using n21)]
  by_cases n22 : c = 22
  · rw [if_pos (by simpa using n22)]; subst n22; rfl
  rw [if_neg (by simpa using n22)]
  by_cases n23 : c = 23
  · rw [if_pos (by simpa using n23)]; subst n23; rfl
  rw [if_neg (by simpa using n23)]
  by_cases n24 : c = 24
  · rw [if_pos (by simpa using n24)]; subst n24; rfl
  rw [if_neg (by simpa using n24)]
  by_cases n30 : c = 30
  · rw [if_pos (by simpa using n30)]; subst n30; rfl
  rw [if_neg (by simpa using n30)]
  by_cases n40 : c = 40
  · rw [if_pos (by simpa using n40)]; subst n40; rfl
  rw [if_neg (by simpa using n40)]
  by_cases n50 : c = 50
  · rw [if_pos (by simpa using n50)]; subst n50; rfl
  rw [if_neg (by simpa using n50)]
  by_cases n51 : c = 51
  · rw [if_pos (by simpa using n51)]; subst n51; rfl
  rw [if_neg (by simpa using n51)]
  by_cases n52 : c = 52
  · rw [if_pos (by simpa using n52)]; subst n52; rfl
  rw [if_neg (by simpa using n52)]
  by_cases n60 : c = 60
  · rw [if_pos (by simpa using n60)]; subst n60; rfl
  rw [if_neg (by simpa using n60)]
  by_cases n70 : c = 70
  · rw [if_pos (by simpa using n70)]; subst n70; rfl
  rw [if_neg (by simpa using n70)]
  by_cases n71 : c = 71
  · rw [if_pos (by simpa using n71)]; subst n71; rfl
  rw [if_neg (by simpa using n71)]
  by_cases n72 : c = 72
  · rw [if_pos (by simpa using n72)]; subst n72; rfl
  rw [if_neg (by simpa using n72)]
  by_cases n80 : c = 80
  · rw [if_pos (by simpa using n80)]; subst n80; rfl
  rw [if_neg (by simpa using n80)]
  by_cases n81 : c = 81
  · rw [if_pos (by simpa using n81)]; subst n81; rfl
  rw [if_neg (by simpa using n81)]
  by_cases n82 : c = 82
  · rw [if_pos (by simpa using n82)]; subst n82; rfl
  rw [if_neg (by simpa using n82)]
  by_cases n83 : c = 83
  · rw [if_pos (by simpa using n83)]; subst n83; rfl
  rw [if_neg (by simpa using n83)]
  by_cases n84 : c = 84
  · rw [if_pos (by simpa using n84)]; subst n84; rfl
  rw [if_neg (by simpa using n84)]
  by_cases n85 : c = 85
  · rw [if_pos (by simpa using n85)]; subst n85; rfl
  rw [if_neg (by simpa using n85)]
  by_cases n86 : c = 86
  · rw [if_pos (by simpa using n86)]; subst n86; rfl
  rw [if_neg (by simpa using n86)]
  by_cases n87 : c = 87
  · rw [if_pos (by simpa using n87)]; subst n87; rfl
  rw [if_neg (by simpa using n87)]
  by_cases n88 : c = 88
  · rw [if_pos (by simpa using n88)]; subst n88; rfl
  rw [if_neg (by simpa using n88)]
  by_cases n89 : c = 89
  · rw [if_pos (by simpa using n89)]; subst n89; rfl
  rw [if_neg (by simpa using n89)]
  by_cases n90 : c = 90
  · rw [if_pos (by simpa using n90)]; subst n90; rfl
  rw [if_neg (by simpa using n90)]
  by_cases n100 : c = 100
  · rw [if_pos (by simpa using n100)]; subst n100; rfl
  rw [if_neg (by simpa using n100)]
  by_cases n101 : c = 101
  · rw [if_pos (by simpa using n101)]; subst n101; rfl
  rw [if_neg (by simpa using n101)]
  by_cases n110 : c = 110
  · rw [if_pos (by simpa using n110)]; subst n110; rfl
  rw [if_neg (by simpa using n110)]
  by_cases n111 : c = 111
  · rw [if_pos (by simpa using n111)]; subst n111; rfl
  rw [if_neg (by simpa using n111)]
  by_cases n112 : c = 112
  · rw [if_pos (by simpa using n112)]; subst n112; rfl
  rw [if_neg (by simpa using n112)]
  by_cases n113 : c = 113
  · rw [if_pos (by simpa using n113)]; subst n113; rfl
  rw [if_neg (by simpa using n113)]
  by_cases n114 : c = 114
  · rw [if_pos (by simpa using n114)]; subst n114; rfl
  rw [if_neg (by simpa using n114)]
  by_cases n115 : c = 115
  · rw [if_pos (by simpa using n115)]; subst n115; rfl
  rw [if_neg (by simpa using n115)]
  by_cases n120 : c = 120
  · rw [if_pos (by simpa using n120)]; subst n120; rfl
  rw [if_neg (by simpa using n120)]
  by_cases n130 : c = 130
  · rw [if_pos (by simpa using n130)]; subst n130; rfl
  rw [if_neg (by simpa using n130)]
  by_cases n140 : c = 140
  · rw [if_pos (by simpa using n140)]; subst n140; rfl
  rw [if_neg (by simpa using n140)]
  refine ⟨h, by simp only [List.length_cons, List.length_nil]; omega, (name_none fun x hx e => ?_).symm⟩
  have hm : x.1 ∈ nameTab.map (·.1) := List.mem_map.2 ⟨x, hx, rfl⟩
  rw [e] at hm
  have hl : nameTab.map (·.1) = [0, 1, 2, 3, 4, 10, 20, 21, 22, 23, 24, 30, 40, 50, 51, 52, 60, 70, 71, 72, 80, 81, 82, 83, 84, 85, 86, 87, 88, 89, 90, 100, 101, 110, 111, 112, 113, 114, 115, 120, 130, 140] := rfl
  rw [hl] at hm
  simp only [List.mem_cons, List.not_mem_nil, or_false] at hm
  omega
/-- Is the witness shown even where it is empty? -/
def shownB (c : Int) : Bool := (((decide (81 ≤ c)) && (decide (c ≤ 87))) || (decide (c = 89))) || (decide (c = 90))
theorem witness_does (c : Int) : Does Tryd.prog 25 [.int .i64 c] [] [] (Ret (.bool (shownB c)) []) :=
  (witness_wp c (fun r => r = shownB c) rfl).weak (by rintro o (⟨v, rfl, rfl⟩ | h) <;> first | rfl | exact h.elim)
theorem shown_does (c : Int) : Does Tryd.prog 24 [.int .i64 c] [] [] (Ret (.bool (shownB c)) []) := by
  refine (shown_wp c (fun r => r = shownB c) ?_).weak (by rintro o (⟨v, rfl, rfl⟩ | h) <;> first | rfl | exact h.elim)
  unfold shown_vc
  refine ⟨fun b => b = shownB c, fun b hb => ?_, ?_⟩
  · subst hb
    cases shownB c <;> simp
  · skip
    by_cases n81 : c = 81
    · rw [if_pos (by simpa using n81)]; subst n81; rfl
    rw [if_neg (by simpa using n81)]
    by_cases n82 : c = 82
    · rw [if_pos (by simpa using n82)]; subst n82; rfl
    rw [if_neg (by simpa using n82)]
    by_cases n83 : c = 83
    · rw [if_pos (by simpa using n83)]; subst n83; rfl
    rw [if_neg (by simpa using n83)]
    by_cases n84 : c = 84
    · rw [if_pos (by simpa using n84)]; subst n84; rfl
    rw [if_neg (by simpa using n84)]
    by_cases n85 : c = 85
    · rw [if_pos (by simpa using n85)]; subst n85; rfl
    rw [if_neg (by simpa using n85)]
    by_cases n86 : c = 86
    · rw [if_pos (by simpa using n86)]; subst n86; rfl
    rw [if_neg (by simpa using n86)]
    by_cases n87 : c = 87
    · rw [if_pos (by simpa using n87)]; subst n87; rfl
    rw [if_neg (by simpa using n87)]
    by_cases n89 : c = 89
    · rw [if_pos (by simpa using n89)]; subst n89; rfl
    rw [if_neg (by simpa using n89)]
    unfold shownB
    rw [show (decide (81 ≤ c) && decide (c ≤ 87)) = false by simp; omega, show decide (c = 89) = false by simpa using n89]; rfl

end Go.Proofs.YtiaafdjdppganaaDoor
