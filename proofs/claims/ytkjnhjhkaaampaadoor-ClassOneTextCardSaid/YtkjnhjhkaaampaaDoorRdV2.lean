/-
  The conditions and walks of the functions that read a set's text, 2; their contracts.
-/
import Derived.Test.YtkjnhjhkaaampaaDoorRdM
namespace Go.Proofs.YtkjnhjhkaaampaaDoor
open Go Go.RowKit

theorem tf_ent_35 : entB Tryd.prog 35 = true := by kernel_rfl
theorem tf_ent_27 : entB Tryd.prog 27 = true := by kernel_rfl
theorem tf_ent_36 : entB Tryd.prog 36 = true := by kernel_rfl
theorem tf_size_3 : sizeB Tryd.prog 3 1 = true := by kernel_rfl
theorem tf_some_3 : (Tryd.prog.underlying 3).isSome = true := by kernel_rfl
theorem tf_row_61 : RowT Tryd.prog 61 6 := ⟨by kernel_rfl, by kernel_rfl⟩
theorem tf_arr_61 : arrB Tryd.prog 61 60 3 2 = true := by kernel_rfl
theorem tf_row_60 : RowT Tryd.prog 60 2 := ⟨by kernel_rfl, by kernel_rfl⟩
theorem tf_zero_60 : zeroB Tryd.prog 60 = some [Value.int .u8 0, Value.int .u8 0] := by kernel_rfl
theorem tf_size_60 : sizeB Tryd.prog 60 2 = true := by kernel_rfl
theorem tf_field_60_0 : fieldOff Tryd.prog 60 0 = some 0 := by kernel_rfl
theorem tf_scal_5 : scalB Tryd.prog 5 = true := by kernel_rfl
theorem tf_field_60_1 : fieldOff Tryd.prog 60 1 = some 1 := by kernel_rfl
theorem tf_ent_40 : entB Tryd.prog 40 = true := by kernel_rfl
theorem tf_ent_38 : entB Tryd.prog 38 = true := by kernel_rfl

def hex_vc (r_0 : List UInt8) (r_1 : Int) (K : Int → (List UInt8) → Int → Prop) (KP : Value → (List UInt8) → Int → Prop) : Prop :=
  (0 ≤ r_1) ∧
  (if ((!(peekOk r_0 r_1)) || (decide (Lib.indexByte [48, 49, 50, 51, 52, 53, 54, 55, 56, 57, 97, 98, 99, 100, 101, 102] (peekB r_0 r_1).toNat.toUInt8 < 0))) = true then
    KP (faultV 10 r_1) r_0 r_1
  else
    (I64 (r_1 + 1)) ∧
    K (IntKind.wrap .u8 (Lib.indexByte [48, 49, 50, 51, 52, 53, 54, 55, 56, 57, 97, 98, 99, 100, 101, 102] (peekB r_0 r_1).toNat.toUInt8)) r_0 (r_1 + 1))
set_option maxRecDepth 100000 in
theorem hex_wp (b : Nat) (r_0 : List UInt8) (r_1 : Int) (K : Int → (List UInt8) → Int → Prop) (KP : Value → (List UInt8) → Int → Prop) (h : hex_vc r_0 r_1 K KP) :
    Does Tryd.prog 40 [Value.pointer (some ⟨b, 0, none⟩)] [] [HA.blk b (.cells [st r_0, Value.int .i64 r_1].toArray 55 (0, 0))] (fun o => (∃ (v : Int) (d_0 : List UInt8) (d_1 : Int), K v d_0 d_1 ∧ o = .ret (Value.int .u8 v) [HA.blk b (.cells [st d_0, Value.int .i64 d_1].toArray 55 (0, 0))]) ∨ (∃ (pv : Value) (d_0 : List UInt8) (d_1 : Int), KP pv d_0 d_1 ∧ o = .pan [{ v := pv, recovered := false }] [HA.blk b (.cells [st d_0, Value.int .i64 d_1].toArray 55 (0, 0))])) := by
  unfold hex_vc at h
  refine does_of_wc (n := 34) (L0 := [(0, Value.pointer (some ⟨b, 0, none⟩))]) Tryd.func40 rfl rfl rfl rfl (fun w0 M Q hE => ?_)
  refine wc_seq (fun K0 hK => ?_)
  refine wc_region ?_
  refine WL.val (OV.assign rfl) rfl rfl rfl ?_
  refine WL.nil ?_
  refine KX.go (hK [(0, Value.pointer (some ⟨b, 0, none⟩))] _ ?_) ⟨rfl, trivial⟩
  refine wc_seq (fun K0_1' hK_1' => ?_)
  refine wc_region ?_
  refine WL.val (OV.move rfl) rfl rfl rfl ?_
  obtain ⟨o, h⟩ := h
  refine WL.call (A := []) tf_ent_35 rfl (peek_does b r_0 r_1 o) rfl ⟨.inl ⟨0, rfl⟩, trivial⟩ rfl rfl ?_
  refine WL.val (OV.move rfl) rfl rfl rfl ?_
  refine WL.val (OV.extract 0 rfl rfl) rfl rfl rfl ?_
  refine WL.val (OV.extract 1 rfl rfl) rfl rfl rfl ?_
  refine WL.val (OV.assign rfl) rfl rfl rfl ?_
  refine WL.val (OV.assign rfl) rfl rfl rfl ?_
  refine WL.nil ?_
  refine KX.go (hK_1' [(0, Value.pointer (some ⟨b, 0, none⟩)), (3, Value.int .u8 (peekB r_0 r_1)), (4, Value.bool (peekOk r_0 r_1))] _ ?_) ⟨rfl, rfl, rfl, trivial⟩
  refine wc_seq (fun K0_2' hK_2' => ?_)
  refine wc_region ?_
  refine WL.val (OV.move rfl) rfl rfl rfl ?_
  refine WL.call (A := []) tf_ent_27 rfl (indexByte_does [48, 49, 50, 51, 52, 53, 54, 55, 56, 57, 97, 98, 99, 100, 101, 102] (peekB r_0 r_1)) rfl trivial rfl rfl ?_
  refine WL.val (OV.assign rfl) rfl rfl rfl ?_
  refine WL.nil ?_
  refine KX.go (hK_2' [(0, Value.pointer (some ⟨b, 0, none⟩)), (4, Value.bool (peekOk r_0 r_1)), (5, Value.int .i64 (Lib.indexByte [48, 49, 50, 51, 52, 53, 54, 55, 56, 57, 97, 98, 99, 100, 101, 102] (peekB r_0 r_1).toNat.toUInt8))] _ ?_) ⟨rfl, rfl, rfl, trivial⟩
  refine wc_seq (fun K0_3' hK_3' => ?_)
  refine wc_seq (fun K0_4' hK_4' => ?_)
  refine wc_region ?_
  refine WL.val (OV.move rfl) rfl rfl rfl ?_
  refine WL.val (OV.not rfl) rfl rfl rfl ?_
  refine WL.val (OV.move rfl) rfl rfl rfl ?_
  refine WL.cut 3 [(0, Value.pointer (some ⟨b, 0, none⟩)), (5, Value.int .i64 (Lib.indexByte [48, 49, 50, 51, 52, 53, 54, 55, 56, 57, 97, 98, 99, 100, 101, 102] (peekB r_0 r_1).toNat.toUInt8)), (18, Value.bool ((!(peekOk r_0 r_1)) || (decide (Lib.indexByte [48, 49, 50, 51, 52, 53, 54, 55, 56, 57, 97, 98, 99, 100, 101, 102] (peekB r_0 r_1).toNat.toUInt8 < 0))))] ?_ (fun K0_5' hK_5' => ?_)
  rotate_left
  · refine WL.split (!(peekOk r_0 r_1)) (fun hb => ?_) (fun hb => ?_)
    · refine WL.set 15 rfl (congrArg Value.bool hb) ?_
      refine WL.skip rfl rfl rfl ?_
      refine WL.skip rfl rfl rfl ?_
      refine WL.val (OV.pickT rfl rfl) rfl rfl rfl ?_
      refine WL.set 18 rfl (oT (v := decide (Lib.indexByte [48, 49, 50, 51, 52, 53, 54, 55, 56, 57, 97, 98, 99, 100, 101, 102] (peekB r_0 r_1).toNat.toUInt8 < 0)) hb) ?_
      exact WL.end_ (KX.go hK_5' ⟨rfl, rfl, rfl, trivial⟩)
    · refine WL.set 15 rfl (congrArg Value.bool hb) ?_
      refine WL.val (OV.move rfl) rfl rfl rfl ?_
      refine WL.val (OV.lss rfl rfl) rfl rfl rfl ?_
      refine WL.val (OV.pickF rfl rfl) rfl rfl rfl ?_
      refine WL.set 18 rfl (oF (v := decide (Lib.indexByte [48, 49, 50, 51, 52, 53, 54, 55, 56, 57, 97, 98, 99, 100, 101, 102] (peekB r_0 r_1).toNat.toUInt8 < 0)) hb) ?_
      exact WL.end_ (KX.go hK_5' ⟨rfl, rfl, rfl, trivial⟩)
  refine WL.nil ?_
  refine KX.go (hK_4' [(0, Value.pointer (some ⟨b, 0, none⟩)), (5, Value.int .i64 (Lib.indexByte [48, 49, 50, 51, 52, 53, 54, 55, 56, 57, 97, 98, 99, 100, 101, 102] (peekB r_0 r_1).toNat.toUInt8)), (18, Value.bool ((!(peekOk r_0 r_1)) || (decide (Lib.indexByte [48, 49, 50, 51, 52, 53, 54, 55, 56, 57, 97, 98, 99, 100, 101, 102] (peekB r_0 r_1).toNat.toUInt8 < 0))))] _ ?_) ⟨rfl, rfl, rfl, trivial⟩
  refine wc_cond (b := (!(peekOk r_0 r_1)) || (decide (Lib.indexByte [48, 49, 50, 51, 52, 53, 54, 55, 56, 57, 97, 98, 99, 100, 101, 102] (peekB r_0 r_1).toNat.toUInt8 < 0))) rfl (fun hb => ?_) (fun hb => ?_)
  · replace h := if_T h hb
    refine wc_region ?_
    refine WL.val (OV.move rfl) rfl rfl rfl ?_
    refine WL.val (OV.move rfl) rfl rfl rfl ?_
    refine WL.val (OV.nilCheck rfl) rfl rfl rfl ?_
    refine WL.val (OV.fieldAddr0 rfl tf_field_55_1) rfl rfl rfl ?_
    refine WL.val (OV.load rfl (At.own 0 rfl) rfl tf_scal_3) rfl rfl rfl ?_
    refine WL.callS tf_ent_36 rfl (fail_does b r_1) rfl trivial rfl rfl (fun r H' hS => by cases hS) (fun c H' hS => ?_)
    cases hS
    exact hE.pan [0] rfl rfl (.inr ⟨_, _, _, h, rfl⟩)
  · replace h := if_F h hb
    refine wc_skip ?_
    refine KX.go (hK_3' [(0, Value.pointer (some ⟨b, 0, none⟩)), (5, Value.int .i64 (Lib.indexByte [48, 49, 50, 51, 52, 53, 54, 55, 56, 57, 97, 98, 99, 100, 101, 102] (peekB r_0 r_1).toNat.toUInt8))] _ ?_) ⟨rfl, rfl, trivial⟩
    refine wc_seq (fun K0_6' hK_6' => ?_)
    refine wc_region ?_
    refine WL.val (OV.move rfl) rfl rfl rfl ?_
    refine WL.val (OV.nilCheck rfl) rfl rfl rfl ?_
    refine WL.val (OV.fieldAddr0 rfl tf_field_55_1) rfl rfl rfl ?_
    refine WL.val (OV.load rfl (At.own 0 rfl) rfl tf_scal_3) rfl rfl rfl ?_
    obtain ⟨o_2', h⟩ := h
    refine WL.val (OV.add rfl rfl o_2') rfl rfl rfl ?_
    refine WL.val (OV.nilCheck rfl) rfl rfl rfl ?_
    refine WL.val (OV.fieldAddr0 rfl tf_field_55_1) rfl rfl rfl ?_
    refine WL.store (vs := [Value.int .i64 (r_1 + 1)]) (cs' := [st r_0, Value.int .i64 (r_1 + 1)]) 0 rfl rfl rfl rfl tf_size_3 (Nat.le_of_ble_eq_true rfl) rfl rfl rfl ?_
    refine WL.nil ?_
    refine KX.go (hK_6' [(5, Value.int .i64 (Lib.indexByte [48, 49, 50, 51, 52, 53, 54, 55, 56, 57, 97, 98, 99, 100, 101, 102] (peekB r_0 r_1).toNat.toUInt8))] _ ?_) ⟨rfl, trivial⟩
    refine wc_seq (fun K0_7' hK_7' => ?_)
    refine wc_region ?_
    refine WL.val (OV.move rfl) rfl rfl rfl ?_
    refine WL.val (OV.conv rfl tf_some_3 Tryd.underlying5) rfl rfl rfl ?_
    refine WL.val (OV.assign rfl) rfl rfl rfl ?_
    refine WL.nil ?_
    refine KX.go (hK_7' [(2, Value.int .u8 (IntKind.wrap .u8 (Lib.indexByte [48, 49, 50, 51, 52, 53, 54, 55, 56, 57, 97, 98, 99, 100, 101, 102] (peekB r_0 r_1).toNat.toUInt8)))] _ ?_) ⟨rfl, trivial⟩
    refine wc_ret ?_
    exact hE.ret [0] rfl rfl (.inl ⟨_, _, _, h, rfl⟩) (ResV.of1 rfl (RV.tmp rfl))

set_option maxRecDepth 100000 in
theorem idx_hex (c : Int) (h : 0 ≤ c ∧ c < 256) : Lib.indexByte [48, 49, 50, 51, 52, 53, 54, 55, 56, 57, 97, 98, 99, 100, 101, 102] c.toNat.toUInt8 = refHex c := by
  obtain ⟨n, hn, rfl⟩ := nat_of h
  simp only [Int.toNat_natCast]
  revert n; decide
theorem peekB_bd (t : List UInt8) (a : Int) : 0 ≤ peekB t a ∧ peekB t a < 256 := by
  unfold peekB
  split
  · have := (t.getD a.toNat 0).toNat_lt; omega
  · omega
theorem refHex_bd {c : Int} : -1 ≤ refHex c ∧ refHex c ≤ 15 := by unfold refHex; split <;> (try split) <;> omega
abbrev rdBlk (b : Nat) (t : List UInt8) (a : Int) : HA := .blk b (.cells [st t, .int .i64 a].toArray 55 (0, 0))
/-- What a reading function comes to: a value and a place, or a fault. -/
def RdOut (b : Nat) (t : List UInt8) (enc : Int → Value) (m : Except Int (Int × Int)) : Out → Prop := fun o =>
  (∃ r q, m = .ok (r, q) ∧ o = .ret (enc r) [rdBlk b t q]) ∨ (∃ e q, m = .error e ∧ o = .pan [{ v := faultV 10 e, recovered := false }] [rdBlk b t q])
theorem hex_does (b : Nat) (t : List UInt8) (a : Int) (h : 0 ≤ a ∧ a ≤ t.length ∧ t.length ≤ 9223372036854775807) : Does Tryd.prog 40 [.pointer (some ⟨b, 0, none⟩)] [] [rdBlk b t a] (RdOut b t (fun r => .int .u8 r) (hexM t a)) := by
  refine (hex_wp b t a (fun r t' q => t' = t ∧ hexM t a = .ok (r, q)) (fun v t' _ => t' = t ∧ ∃ e, hexM t a = .error e ∧ v = faultV 10 e) ?_).weak ?_
  · have hb := peekB_bd t a
    have hr := refHex_bd (c := peekB t a)
    unfold hex_vc
    rw [idx_hex _ hb]
    unfold hexM peekOk
    refine ⟨h.1, ?_⟩
    by_cases h1 : a < t.length ∧ 0 ≤ refHex (peekB t a)
    · rw [if_neg (by simp; omega), IntWalk.u8_in _ (by omega), if_pos h1]
      exact ⟨⟨by omega, by omega⟩, rfl, rfl⟩
    · rw [if_pos (by simp; omega), if_neg h1]
      exact ⟨rfl, _, rfl, rfl⟩
  · rintro o (⟨r, t', q, ⟨rfl, hm⟩, rfl⟩ | ⟨v, t', q, ⟨rfl, e, hm, rfl⟩, rfl⟩)
    · exact .inl ⟨r, q, hm, rfl⟩
    · exact .inr ⟨e, q, hm, rfl⟩

def escape_vc (r_0 : List UInt8) (r_1 : Int) (K : Int → (List UInt8) → Int → Prop) (KP : Value → (List UInt8) → Int → Prop) : Prop :=
  (0 ≤ r_1) ∧
  (if (!(peekOk r_0 r_1)) = true then
    KP (faultV 10 r_1) r_0 r_1
  else
    (if (decide (110 = peekB r_0 r_1)) = true then
      (I64 (r_1 + 1)) ∧
      K 10 r_0 (r_1 + 1)
    else
      (if (decide (114 = peekB r_0 r_1)) = true then
        (I64 (r_1 + 1)) ∧
        K 13 r_0 (r_1 + 1)
      else
        (if (decide (116 = peekB r_0 r_1)) = true then
          (I64 (r_1 + 1)) ∧
          K 9 r_0 (r_1 + 1)
        else
          (if (decide (peekB r_0 r_1 = 120)) = true then
            (I64 (r_1 + 1)) ∧
            (0 ≤ r_1 + 1 ∧ r_1 + 1 ≤ r_0.length ∧ r_0.length ≤ 9223372036854775807) ∧
            (∀ (r_1' : Int) (at0 : Int), hexM r_0 (r_1 + 1) = .ok (r_1', at0) →
              (0 ≤ at0 ∧ at0 ≤ r_0.length ∧ r_0.length ≤ 9223372036854775807) ∧
              (∀ (r_2' : Int) (at0_2' : Int), hexM r_0 at0 = .ok (r_2', at0_2') →
                K (bits .or .u8 (IntKind.wrap .u8 (r_1' * 2 ^ (4 : Int).toNat)) r_2') r_0 at0_2') ∧
              (∀ (e_1' : Int) (at0_3' : Int), hexM r_0 at0 = .error e_1' →
                KP (faultV 10 e_1') r_0 at0_3')) ∧
            (∀ (e : Int) (at0_1' : Int), hexM r_0 (r_1 + 1) = .error e →
              KP (faultV 10 e) r_0 at0_1')
          else
            (if (((((decide (peekB r_0 r_1 < 32)) || (decide (126 < peekB r_0 r_1))) || ((decide (48 ≤ peekB r_0 r_1)) && (decide (peekB r_0 r_1 ≤ 57)))) || ((decide (97 ≤ peekB r_0 r_1)) && (decide (peekB r_0 r_1 ≤ 122)))) || ((decide (65 ≤ peekB r_0 r_1)) && (decide (peekB r_0 r_1 ≤ 90)))) = true then
              KP (faultV 10 r_1) r_0 r_1
            else
              (I64 (r_1 + 1)) ∧
              K (peekB r_0 r_1) r_0 (r_1 + 1)))))))
set_option maxRecDepth 100000 in
theorem escape_wp (b : Nat) (te : TypeId) (fre : Nat × Nat) (r_0 : List UInt8) (r_1 : Int) (K : Int → (List UInt8) → Int → Prop) (KP : Value → (List UInt8) → Int → Prop) (h : escape_vc r_0 r_1 K KP) :
    Does Tryd.prog 38 [Value.pointer (some ⟨b, 0, none⟩)] [(0, .cells [Value.int .u8 110, Value.int .u8 10, Value.int .u8 114, Value.int .u8 13, Value.int .u8 116, Value.int .u8 9].toArray te fre)] [HA.blk b (.cells [st r_0, Value.int .i64 r_1].toArray 55 (0, 0))] (fun o => (∃ (v : Int) (d_0 : List UInt8) (d_1 : Int), K v d_0 d_1 ∧ o = .ret (Value.int .u8 v) [HA.blk b (.cells [st d_0, Value.int .i64 d_1].toArray 55 (0, 0))]) ∨ (∃ (pv : Value) (d_0 : List UInt8) (d_1 : Int), KP pv d_0 d_1 ∧ o = .pan [{ v := pv, recovered := false }] [HA.blk b (.cells [st d_0, Value.int .i64 d_1].toArray 55 (0, 0))])) := by
  unfold escape_vc at h
  refine does_of_wc (n := 99) (L0 := [(0, Value.pointer (some ⟨b, 0, none⟩))]) Tryd.func38 rfl rfl rfl rfl (fun w0 M Q hE => ?_)
  refine wc_seq (fun K0 hK => ?_)
  refine wc_region ?_
  refine WL.val (OV.assign rfl) rfl rfl rfl ?_
  refine WL.nil ?_
  refine KX.go (hK [(0, Value.pointer (some ⟨b, 0, none⟩))] _ ?_) ⟨rfl, trivial⟩
  refine wc_seq (fun K0_1' hK_1' => ?_)
  refine wc_region ?_
  refine WL.val (OV.move rfl) rfl rfl rfl ?_
  obtain ⟨o, h⟩ := h
  refine WL.call (A := []) tf_ent_35 rfl (peek_does b r_0 r_1 o) rfl ⟨.inl ⟨0, rfl⟩, trivial⟩ rfl rfl ?_
  refine WL.val (OV.move rfl) rfl rfl rfl ?_
  refine WL.val (OV.extract 0 rfl rfl) rfl rfl rfl ?_
  refine WL.val (OV.extract 1 rfl rfl) rfl rfl rfl ?_
  refine WL.val (OV.assign rfl) rfl rfl rfl ?_
  refine WL.val (OV.assign rfl) rfl rfl rfl ?_
  refine WL.nil ?_
  refine KX.go (hK_1' [(0, Value.pointer (some ⟨b, 0, none⟩)), (3, Value.int .u8 (peekB r_0 r_1)), (4, Value.bool (peekOk r_0 r_1))] _ ?_) ⟨rfl, rfl, rfl, trivial⟩
  refine wc_seq (fun K0_2' hK_2' => ?_)
  refine wc_seq (fun K0_3' hK_3' => ?_)
  refine wc_region ?_
  refine WL.val (OV.move rfl) rfl rfl rfl ?_
  refine WL.val (OV.not rfl) rfl rfl rfl ?_
  refine WL.nil ?_
  refine KX.go (hK_3' [(0, Value.pointer (some ⟨b, 0, none⟩)), (3, Value.int .u8 (peekB r_0 r_1)), (14, Value.bool (!(peekOk r_0 r_1)))] _ ?_) ⟨rfl, rfl, rfl, trivial⟩
  refine wc_cond (b := !(peekOk r_0 r_1)) rfl (fun hb => ?_) (fun hb => ?_)
  · replace h := if_T h hb
    refine wc_region ?_
    refine WL.val (OV.move rfl) rfl rfl rfl ?_
    refine WL.val (OV.move rfl) rfl rfl rfl ?_
    refine WL.val (OV.nilCheck rfl) rfl rfl rfl ?_
    refine WL.val (OV.fieldAddr0 rfl tf_field_55_1) rfl rfl rfl ?_
    refine WL.val (OV.load rfl (At.own 0 rfl) rfl tf_scal_3) rfl rfl rfl ?_
    refine WL.callS tf_ent_36 rfl (fail_does b r_1) rfl trivial rfl rfl (fun r H' hS => by cases hS) (fun c H' hS => ?_)
    cases hS
    exact hE.pan [0] rfl rfl (.inr ⟨_, _, _, h, rfl⟩)
  · replace h := if_F h hb
    refine wc_skip ?_
    refine KX.go (hK_2' [(0, Value.pointer (some ⟨b, 0, none⟩)), (3, Value.int .u8 (peekB r_0 r_1))] _ ?_) ⟨rfl, rfl, trivial⟩
    refine wc_seq (fun K0_4' hK_4' => ?_)
    refine wc_seq (fun K0_5' hK_5' => ?_)
    refine wc_region ?_
    refine WL.val (OV.loadR rfl (At.ro 0 rfl) tf_row_61) rfl rfl rfl ?_
    refine WL.val (OV.move rfl) rfl rfl rfl ?_
    refine WL.nil ?_
    refine KX.go (hK_5' [(0, Value.pointer (some ⟨b, 0, none⟩)), (3, Value.int .u8 (peekB r_0 r_1)), (21, Value.agg [Value.int .u8 110, Value.int .u8 10, Value.int .u8 114, Value.int .u8 13, Value.int .u8 116, Value.int .u8 9].toArray), (22, Value.int .i64 0)] _ ?_) ⟨rfl, rfl, rfl, rfl, trivial⟩
    refine wc_block ?_
    refine wc_rounds 4 ?_
    refine RC.succ (fun K0_6' hK_6' => ?_)
    refine wc_seq (fun K0_7' hK_7' => ?_)
    refine wc_region ?_
    refine WL.val (OV.lss rfl rfl) rfl rfl rfl ?_
    refine WL.nil ?_
    refine KX.go (hK_7' [(0, Value.pointer (some ⟨b, 0, none⟩)), (3, Value.int .u8 (peekB r_0 r_1)), (21, Value.agg [Value.int .u8 110, Value.int .u8 10, Value.int .u8 114, Value.int .u8 13, Value.int .u8 116, Value.int .u8 9].toArray), (22, Value.int .i64 0), (23, Value.bool true)] _ ?_) ⟨rfl, rfl, rfl, rfl, rfl, trivial⟩
    refine wc_seq (fun K0_8' hK_8' => ?_)
    refine wc_condT rfl ?_
    refine wc_skip ?_
    refine KX.go (hK_8' [(0, Value.pointer (some ⟨b, 0, none⟩)), (3, Value.int .u8 (peekB r_0 r_1)), (21, Value.agg [Value.int .u8 110, Value.int .u8 10, Value.int .u8 114, Value.int .u8 13, Value.int .u8 116, Value.int .u8 9].toArray), (22, Value.int .i64 0)] _ ?_) ⟨rfl, rfl, rfl, rfl, trivial⟩
    refine wc_seq (fun K0_9' hK_9' => ?_)
    refine wc_block ?_
    refine wc_seq (fun K0_10' hK_10' => ?_)
    refine wc_region ?_
    refine WL.val (OV.indexM (vs := [Value.int .u8 110, Value.int .u8 10]) rfl rfl tf_arr_61 (by decide) tf_row_60 rfl) rfl rfl rfl ?_
    refine WL.make (MV.alloc tf_zero_60) rfl rfl rfl (fun b_1' => ?_)
    refine WL.storeW (vs := [Value.int .u8 110, Value.int .u8 10]) 0 rfl rfl rfl rfl rfl tf_size_60 rfl rfl rfl ?_
    refine WL.nil ?_
    refine KX.go (hK_10' [(0, Value.pointer (some ⟨b, 0, none⟩)), (3, Value.int .u8 (peekB r_0 r_1)), (6, Value.pointer (some ⟨b_1', 0, none⟩)), (21, Value.agg [Value.int .u8 110, Value.int .u8 10, Value.int .u8 114, Value.int .u8 13, Value.int .u8 116, Value.int .u8 9].toArray), (22, Value.int .i64 0)] _ ?_) ⟨rfl, rfl, rfl, rfl, rfl, trivial⟩
    refine wc_seq (fun K0_11' hK_11' => ?_)
    refine wc_region ?_
    refine WL.val (OV.fieldAddr0 rfl tf_field_60_0) rfl rfl rfl ?_
    refine WL.val (OV.load rfl (At.own 0 rfl) rfl tf_scal_5) rfl rfl rfl ?_
    refine WL.val (OV.move rfl) rfl rfl rfl ?_
    refine WL.val (OV.eql rfl rfl) rfl rfl rfl ?_
    refine WL.nil ?_
    refine KX.go (hK_11' [(0, Value.pointer (some ⟨b, 0, none⟩)), (3, Value.int .u8 (peekB r_0 r_1)), (6, Value.pointer (some ⟨b_1', 0, none⟩)), (21, Value.agg [Value.int .u8 110, Value.int .u8 10, Value.int .u8 114, Value.int .u8 13, Value.int .u8 116, Value.int .u8 9].toArray), (22, Value.int .i64 0), (28, Value.bool (decide (110 = peekB r_0 r_1)))] _ ?_) ⟨rfl, rfl, rfl, rfl, rfl, rfl, trivial⟩
    refine wc_cond (b := decide (110 = peekB r_0 r_1)) rfl (fun hb => ?_) (fun hb => ?_)
    · replace h := if_T h hb
      refine wc_seq (fun K0_12' hK_12' => ?_)
      refine wc_region ?_
      refine WL.val (OV.move rfl) rfl rfl rfl ?_
      refine WL.val (OV.nilCheck rfl) rfl rfl rfl ?_
      refine WL.val (OV.fieldAddr0 rfl tf_field_55_1) rfl rfl rfl ?_
      refine WL.val (OV.load rfl (At.own 1 rfl) rfl tf_scal_3) rfl rfl rfl ?_
      obtain ⟨o_1', h⟩ := h
      refine WL.val (OV.add rfl rfl o_1') rfl rfl rfl ?_
      refine WL.val (OV.nilCheck rfl) rfl rfl rfl ?_
      refine WL.val (OV.fieldAddr0 rfl tf_field_55_1) rfl rfl rfl ?_
      refine WL.store (vs := [Value.int .i64 (r_1 + 1)]) (cs' := [st r_0, Value.int .i64 (r_1 + 1)]) 1 rfl rfl rfl rfl tf_size_3 (Nat.le_of_ble_eq_true rfl) rfl rfl rfl ?_
      refine WL.nil ?_
      refine KX.go (hK_12' [(6, Value.pointer (some ⟨b_1', 0, none⟩))] _ ?_) ⟨rfl, trivial⟩
      refine wc_seq (fun K0_13' hK_13' => ?_)
      refine wc_region ?_
      refine WL.val (OV.fieldAddr0 rfl tf_field_60_1) rfl rfl rfl ?_
      refine WL.val (OV.load rfl (At.own 0 rfl) rfl tf_scal_5) rfl rfl rfl ?_
      refine WL.val (OV.assign rfl) rfl rfl rfl ?_
      refine WL.nil ?_
      refine KX.go (hK_13' [(2, Value.int .u8 10)] _ ?_) ⟨rfl, trivial⟩
      refine wc_ret ?_
      exact hE.ret [1] rfl rfl (.inl ⟨_, _, _, h, rfl⟩) (ResV.of1 rfl (RV.tmp rfl))
    · replace h := if_F h hb
      refine wc_skip ?_
      refine KX.go (hK_9' [(0, Value.pointer (some ⟨b, 0, none⟩)), (3, Value.int .u8 (peekB r_0 r_1)), (21, Value.agg [Value.int .u8 110, Value.int .u8 10, Value.int .u8 114, Value.int .u8 13, Value.int .u8 116, Value.int .u8 9].toArray), (22, Value.int .i64 0)] _ ?_) ⟨rfl, rfl, rfl, rfl, trivial⟩
      refine wc_region ?_
      refine WL.val (OV.add rfl rfl ⟨by decide, by decide⟩) rfl rfl rfl ?_
      refine WL.val (OV.move rfl) rfl rfl rfl ?_
      refine WL.nil ?_
      refine KX.go (hK_6' [(0, Value.pointer (some ⟨b, 0, none⟩)), (3, Value.int .u8 (peekB r_0 r_1)), (21, Value.agg [Value.int .u8 110, Value.int .u8 10, Value.int .u8 114, Value.int .u8 13, Value.int .u8 116, Value.int .u8 9].toArray), (22, Value.int .i64 1)] _ ?_) ⟨rfl, rfl, rfl, rfl, trivial⟩
      refine RC.succ (fun K0_14' hK_14' => ?_)
      refine wc_seq (fun K0_15' hK_15' => ?_)
      refine wc_region ?_
      refine WL.val (OV.lss rfl rfl) rfl rfl rfl ?_
      refine WL.nil ?_
      refine KX.go (hK_15' [(0, Value.pointer (some ⟨b, 0, none⟩)), (3, Value.int .u8 (peekB r_0 r_1)), (21, Value.agg [Value.int .u8 110, Value.int .u8 10, Value.int .u8 114, Value.int .u8 13, Value.int .u8 116, Value.int .u8 9].toArray), (22, Value.int .i64 1), (23, Value.bool true)] _ ?_) ⟨rfl, rfl, rfl, rfl, rfl, trivial⟩
      refine wc_seq (fun K0_16' hK_16' => ?_)
      refine wc_condT rfl ?_
      refine wc_skip ?_
      refine KX.go (hK_16' [(0, Value.pointer (some ⟨b, 0, none⟩)), (3, Value.int .u8 (peekB r_0 r_1)), (21, Value.agg [Value.int .u8 110, Value.int .u8 10, Value.int .u8 114, Value.int .u8 13, Value.int .u8 116, Value.int .u8 9].toArray), (22, Value.int .i64 1)] _ ?_) ⟨rfl, rfl, rfl, rfl, trivial⟩
      refine wc_seq (fun K0_17' hK_17' => ?_)
      refine wc_block ?_
      refine wc_seq (fun K0_18' hK_18' => ?_)
      refine wc_region ?_
      refine WL.val (OV.indexM (vs := [Value.int .u8 114, Value.int .u8 13]) rfl rfl tf_arr_61 (by decide) tf_row_60 rfl) rfl rfl rfl ?_
      refine WL.make (MV.alloc tf_zero_60) rfl rfl rfl (fun b_2' => ?_)
      refine WL.storeW (vs := [Value.int .u8 114, Value.int .u8 13]) 0 rfl rfl rfl rfl rfl tf_size_60 rfl rfl rfl ?_
      refine WL.nil ?_
      refine KX.go (hK_18' [(0, Value.pointer (some ⟨b, 0, none⟩)), (3, Value.int .u8 (peekB r_0 r_1)), (6, Value.pointer (some ⟨b_2', 0, none⟩)), (21, Value.agg [Value.int .u8 110, Value.int .u8 10, Value.int .u8 114, Value.int .u8 13, Value.int .u8 116, Value.int .u8 9].toArray), (22, Value.int .i64 1)] _ ?_) ⟨rfl, rfl, rfl, rfl, rfl, trivial⟩
      refine wc_seq (fun K0_19' hK_19' => ?_)
      refine wc_region ?_
      refine WL.val (OV.fieldAddr0 rfl tf_field_60_0) rfl rfl rfl ?_
      refine WL.val (OV.load rfl (At.own 0 rfl) rfl tf_scal_5) rfl rfl rfl ?_
      refine WL.val (OV.move rfl) rfl rfl rfl ?_
      refine WL.val (OV.eql rfl rfl) rfl rfl rfl ?_
      refine WL.nil ?_
      refine KX.go (hK_19' [(0, Value.pointer (some ⟨b, 0, none⟩)), (3, Value.int .u8 (peekB r_0 r_1)), (6, Value.pointer (some ⟨b_2', 0, none⟩)), (21, Value.agg [Value.int .u8 110, Value.int .u8 10, Value.int .u8 114, Value.int .u8 13, Value.int .u8 116, Value.int .u8 9].toArray), (22, Value.int .i64 1), (28, Value.bool (decide (114 = peekB r_0 r_1)))] _ ?_) ⟨rfl, rfl, rfl, rfl, rfl, rfl, trivial⟩
      refine wc_cond (b := decide (114 = peekB r_0 r_1)) rfl (fun hb => ?_) (fun hb => ?_)
      · replace h := if_T h hb
        refine wc_seq (fun K0_20' hK_20' => ?_)
        refine wc_region ?_
        refine WL.val (OV.move rfl) rfl rfl rfl ?_
        refine WL.val (OV.nilCheck rfl) rfl rfl rfl ?_
        refine WL.val (OV.fieldAddr0 rfl tf_field_55_1) rfl rfl rfl ?_
        refine WL.val (OV.load rfl (At.own 2 rfl) rfl tf_scal_3) rfl rfl rfl ?_
        obtain ⟨o_2', h⟩ := h
        refine WL.val (OV.add rfl rfl o_2') rfl rfl rfl ?_
        refine WL.val (OV.nilCheck rfl) rfl rfl rfl ?_
        refine WL.val (OV.fieldAddr0 rfl tf_field_55_1) rfl rfl rfl ?_
        refine WL.store (vs := [Value.int .i64 (r_1 + 1)]) (cs' := [st r_0, Value.int .i64 (r_1 + 1)]) 2 rfl rfl rfl rfl tf_size_3 (Nat.le_of_ble_eq_true rfl) rfl rfl rfl ?_
        refine WL.nil ?_
        refine KX.go (hK_20' [(6, Value.pointer (some ⟨b_2', 0, none⟩))] _ ?_) ⟨rfl, trivial⟩
        refine wc_seq (fun K0_21' hK_21' => ?_)
        refine wc_region ?_
        refine WL.val (OV.fieldAddr0 rfl tf_field_60_1) rfl rfl rfl ?_
        refine WL.val (OV.load rfl (At.own 0 rfl) rfl tf_scal_5) rfl rfl rfl ?_
        refine WL.val (OV.assign rfl) rfl rfl rfl ?_
        refine WL.nil ?_
        refine KX.go (hK_21' [(2, Value.int .u8 13)] _ ?_) ⟨rfl, trivial⟩
        refine wc_ret ?_
        exact hE.ret [2] rfl rfl (.inl ⟨_, _, _, h, rfl⟩) (ResV.of1 rfl (RV.tmp rfl))
      · replace h := if_F h hb
        refine wc_skip ?_
        refine KX.go (hK_17' [(0, Value.pointer (some ⟨b, 0, none⟩)), (3, Value.int .u8 (peekB r_0 r_1)), (21, Value.agg [Value.int .u8 110, Value.int .u8 10, Value.int .u8 114, Value.int .u8 13, Value.int .u8 116, Value.int .u8 9].toArray), (22, Value.int .i64 1)] _ ?_) ⟨rfl, rfl, rfl, rfl, trivial⟩
        refine wc_region ?_
        refine WL.val (OV.add rfl rfl ⟨by decide, by decide⟩) rfl rfl rfl ?_
        refine WL.val (OV.move rfl) rfl rfl rfl ?_
        refine WL.nil ?_
        refine KX.go (hK_14' [(0, Value.pointer (some ⟨b, 0, none⟩)), (3, Value.int .u8 (peekB r_0 r_1)), (21, Value.agg [Value.int .u8 110, Value.int .u8 10, Value.int .u8 114, Value.int .u8 13, Value.int .u8 116, Value.int .u8 9].toArray), (22, Value.int .i64 2)] _ ?_) ⟨rfl, rfl, rfl, rfl, trivial⟩
        refine RC.succ (fun K0_22' hK_22' => ?_)
        refine wc_seq (fun K0_23' hK_23' => ?_)
        refine wc_region ?_
        refine WL.val (OV.lss rfl rfl) rfl rfl rfl ?_
        refine WL.nil ?_
        refine KX.go (hK_23' [(0, Value.pointer (some ⟨b, 0, none⟩)), (3, Value.int .u8 (peekB r_0 r_1)), (21, Value.agg [Value.int .u8 110, Value.int .u8 10, Value.int .u8 114, Value.int .u8 13, Value.int .u8 116, Value.int .u8 9].toArray), (22, Value.int .i64 2), (23, Value.bool true)] _ ?_) ⟨rfl, rfl, rfl, rfl, rfl, trivial⟩
        refine wc_seq (fun K0_24' hK_24' => ?_)
        refine wc_condT rfl ?_
        refine wc_skip ?_
        refine KX.go (hK_24' [(0, Value.pointer (some ⟨b, 0, none⟩)), (3, Value.int .u8 (peekB r_0 r_1)), (21, Value.agg [Value.int .u8 110, Value.int .u8 10, Value.int .u8 114, Value.int .u8 13, Value.int .u8 116, Value.int .u8 9].toArray), (22, Value.int .i64 2)] _ ?_) ⟨rfl, rfl, rfl, rfl, trivial⟩
        refine wc_seq (fun K0_25' hK_25' => ?_)
        refine wc_block ?_
        refine wc_seq (fun K0_26' hK_26' => ?_)
        refine wc_region ?_
        refine WL.val (OV.indexM (vs := [Value.int .u8 116, Value.int .u8 9]) rfl rfl tf_arr_61 (by decide) tf_row_60 rfl) rfl rfl rfl ?_
        refine WL.make (MV.alloc tf_zero_60) rfl rfl rfl (fun b_3' => ?_)
        refine WL.storeW (vs := [Value.int .u8 116, Value.int .u8 9]) 0 rfl rfl rfl rfl rfl tf_size_60 rfl rfl rfl ?_
        refine WL.nil ?_
        refine KX.go (hK_26' [(0, Value.pointer (some ⟨b, 0, none⟩)), (3, Value.int .u8 (peekB r_0 r_1)), (6, Value.pointer (some ⟨b_3', 0, none⟩)), (21, Value.agg [Value.int .u8 110, Value.int .u8 10, Value.int .u8 114, Value.int .u8 13, Value.int .u8 116, Value.int .u8 9].toArray), (22, Value.int .i64 2)] _ ?_) ⟨rfl, rfl, rfl, rfl, rfl, trivial⟩
        refine wc_seq (fun K0_27' hK_27' => ?_)
        refine wc_region ?_
        refine WL.val (OV.fieldAddr0 rfl tf_field_60_0) rfl rfl rfl ?_
        refine WL.val (OV.load rfl (At.own 0 rfl) rfl tf_scal_5) rfl rfl rfl ?_
        refine WL.val (OV.move rfl) rfl rfl rfl ?_
        refine WL.val (OV.eql rfl rfl) rfl rfl rfl ?_
        refine WL.nil ?_
        refine KX.go (hK_27' [(0, Value.pointer (some ⟨b, 0, none⟩)), (3, Value.int .u8 (peekB r_0 r_1)), (6, Value.pointer (some ⟨b_3', 0, none⟩)), (21, Value.agg [Value.int .u8 110, Value.int .u8 10, Value.int .u8 114, Value.int .u8 13, Value.int .u8 116, Value.int .u8 9].toArray), (22, Value.int .i64 2), (28, Value.bool (decide (116 = peekB r_0 r_1)))] _ ?_) ⟨rfl, rfl, rfl, rfl, rfl, rfl, trivial⟩
        refine wc_cond (b := decide (116 = peekB r_0 r_1)) rfl (fun hb => ?_) (fun hb => ?_)
        · replace h := if_T h hb
          refine wc_seq (fun K0_28' hK_28' => ?_)
          refine wc_region ?_
          refine WL.val (OV.move rfl) rfl rfl rfl ?_
          refine WL.val (OV.nilCheck rfl) rfl rfl rfl ?_
          refine WL.val (OV.fieldAddr0 rfl tf_field_55_1) rfl rfl rfl ?_
          refine WL.val (OV.load rfl (At.own 3 rfl) rfl tf_scal_3) rfl rfl rfl ?_
          obtain ⟨o_3', h⟩ := h
          refine WL.val (OV.add rfl rfl o_3') rfl rfl rfl ?_
          refine WL.val (OV.nilCheck rfl) rfl rfl rfl ?_
          refine WL.val (OV.fieldAddr0 rfl tf_field_55_1) rfl rfl rfl ?_
          refine WL.store (vs := [Value.int .i64 (r_1 + 1)]) (cs' := [st r_0, Value.int .i64 (r_1 + 1)]) 3 rfl rfl rfl rfl tf_size_3 (Nat.le_of_ble_eq_true rfl) rfl rfl rfl ?_
          refine WL.nil ?_
          refine KX.go (hK_28' [(6, Value.pointer (some ⟨b_3', 0, none⟩))] _ ?_) ⟨rfl, trivial⟩
          refine wc_seq (fun K0_29' hK_29' => ?_)
          refine wc_region ?_
          refine WL.val (OV.fieldAddr0 rfl tf_field_60_1) rfl rfl rfl ?_
          refine WL.val (OV.load rfl (At.own 0 rfl) rfl tf_scal_5) rfl rfl rfl ?_
          refine WL.val (OV.assign rfl) rfl rfl rfl ?_
          refine WL.nil ?_
          refine KX.go (hK_29' [(2, Value.int .u8 9)] _ ?_) ⟨rfl, trivial⟩
          refine wc_ret ?_
          exact hE.ret [3] rfl rfl (.inl ⟨_, _, _, h, rfl⟩) (ResV.of1 rfl (RV.tmp rfl))
        · replace h := if_F h hb
          refine wc_skip ?_
          refine KX.go (hK_25' [(0, Value.pointer (some ⟨b, 0, none⟩)), (3, Value.int .u8 (peekB r_0 r_1)), (21, Value.agg [Value.int .u8 110, Value.int .u8 10, Value.int .u8 114, Value.int .u8 13, Value.int .u8 116, Value.int .u8 9].toArray), (22, Value.int .i64 2)] _ ?_) ⟨rfl, rfl, rfl, rfl, trivial⟩
          refine wc_region ?_
          refine WL.val (OV.add rfl rfl ⟨by decide, by decide⟩) rfl rfl rfl ?_
          refine WL.val (OV.move rfl) rfl rfl rfl ?_
          refine WL.nil ?_
          refine KX.go (hK_22' [(0, Value.pointer (some ⟨b, 0, none⟩)), (3, Value.int .u8 (peekB r_0 r_1)), (21, Value.agg [Value.int .u8 110, Value.int .u8 10, Value.int .u8 114, Value.int .u8 13, Value.int .u8 116, Value.int .u8 9].toArray), (22, Value.int .i64 3)] _ ?_) ⟨rfl, rfl, rfl, rfl, trivial⟩
          refine RC.succ (fun K0_30' hK_30' => ?_)
          refine wc_seq (fun K0_31' hK_31' => ?_)
          refine wc_region ?_
          refine WL.val (OV.lss rfl rfl) rfl rfl rfl ?_
          refine WL.nil ?_
          refine KX.go (hK_31' [(0, Value.pointer (some ⟨b, 0, none⟩)), (3, Value.int .u8 (peekB r_0 r_1)), (21, Value.agg [Value.int .u8 110, Value.int .u8 10, Value.int .u8 114, Value.int .u8 13, Value.int .u8 116, Value.int .u8 9].toArray), (22, Value.int .i64 3), (23, Value.bool false)] _ ?_) ⟨rfl, rfl, rfl, rfl, rfl, trivial⟩
          refine wc_seq (fun K0_32' hK_32' => ?_)
          refine wc_condF rfl ?_
          refine wc_exit ?_
          refine KX.go (hK_4' [(0, Value.pointer (some ⟨b, 0, none⟩)), (3, Value.int .u8 (peekB r_0 r_1))] _ ?_) ⟨rfl, rfl, trivial⟩
          refine wc_seq (fun K0_33' hK_33' => ?_)
          refine wc_seq (fun K0_34' hK_34' => ?_)
          refine wc_region ?_
          refine WL.val (OV.move rfl) rfl rfl rfl ?_
          refine WL.val (OV.eql rfl rfl) rfl rfl rfl ?_
          refine WL.nil ?_
          refine KX.go (hK_34' [(0, Value.pointer (some ⟨b, 0, none⟩)), (3, Value.int .u8 (peekB r_0 r_1)), (40, Value.bool (decide (peekB r_0 r_1 = 120)))] _ ?_) ⟨rfl, rfl, rfl, trivial⟩
          refine wc_cond (b := decide (peekB r_0 r_1 = 120)) rfl (fun hb => ?_) (fun hb => ?_)
          · replace h := if_T h hb
            refine wc_seq (fun K0_35' hK_35' => ?_)
            refine wc_region ?_
            refine WL.val (OV.move rfl) rfl rfl rfl ?_
            refine WL.val (OV.nilCheck rfl) rfl rfl rfl ?_
            refine WL.val (OV.fieldAddr0 rfl tf_field_55_1) rfl rfl rfl ?_
            refine WL.val (OV.load rfl (At.own 3 rfl) rfl tf_scal_3) rfl rfl rfl ?_
            obtain ⟨o_4', h⟩ := h
            refine WL.val (OV.add rfl rfl o_4') rfl rfl rfl ?_
            refine WL.val (OV.nilCheck rfl) rfl rfl rfl ?_
            refine WL.val (OV.fieldAddr0 rfl tf_field_55_1) rfl rfl rfl ?_
            refine WL.store (vs := [Value.int .i64 (r_1 + 1)]) (cs' := [st r_0, Value.int .i64 (r_1 + 1)]) 3 rfl rfl rfl rfl tf_size_3 (Nat.le_of_ble_eq_true rfl) rfl rfl rfl ?_
            refine WL.nil ?_
            refine KX.go (hK_35' [(0, Value.pointer (some ⟨b, 0, none⟩))] _ ?_) ⟨rfl, trivial⟩
            refine wc_seq (fun K0_36' hK_36' => ?_)
            refine wc_region ?_
            refine WL.val (OV.move rfl) rfl rfl rfl ?_
            obtain ⟨o_5', h⟩ := h
            refine WL.pick (H' := [HA.blk b (.cells [st r_0, Value.int .i64 (r_1 + 1)].toArray 55 (0, 0)), HA.blk b_3' (.cells [Value.int .u8 116, Value.int .u8 9].toArray 60 (0, 0)), HA.blk b_2' (.cells [Value.int .u8 114, Value.int .u8 13].toArray 60 (0, 0)), HA.blk b_1' (.cells [Value.int .u8 110, Value.int .u8 10].toArray 60 (0, 0))]) [3, 0, 1, 2] rfl rfl ?_
            refine WL.callS tf_ent_40 rfl (hex_does b r_0 (r_1 + 1) o_5') rfl trivial rfl rfl (fun r H' hS => ?_) (fun c H' hS => ?_)
            · rcases hS with ⟨r_1', at0, hc, ho⟩ | ⟨e, at0_1', hc, ho⟩ <;> cases ho
              replace h := h.1 r_1' at0 hc
              refine WL.val (OV.assign rfl) rfl rfl rfl ?_
              refine WL.nil ?_
              refine KX.go (hK_36' [(0, Value.pointer (some ⟨b, 0, none⟩)), (7, Value.int .u8 r_1')] _ ?_) ⟨rfl, rfl, trivial⟩
              refine wc_seq (fun K0_37' hK_37' => ?_)
              refine wc_region ?_
              refine WL.val (OV.move rfl) rfl rfl rfl ?_
              refine WL.val (OV.shl rfl rfl ⟨by decide, by decide⟩) rfl rfl rfl ?_
              refine WL.val (OV.move rfl) rfl rfl rfl ?_
              obtain ⟨o_6', h⟩ := h
              refine WL.callS tf_ent_40 rfl (hex_does b r_0 at0 o_6') rfl trivial rfl rfl (fun r H' hS => ?_) (fun c H' hS => ?_)
              · rcases hS with ⟨r_2', at0_2', hc, ho⟩ | ⟨e_1', at0_3', hc, ho⟩ <;> cases ho
                replace h := h.1 r_2' at0_2' hc
                refine WL.val (OV.bits_or rfl rfl) rfl rfl rfl ?_
                refine WL.val (OV.assign rfl) rfl rfl rfl ?_
                refine WL.nil ?_
                refine KX.go (hK_37' [(2, Value.int .u8 (bits .or .u8 (IntKind.wrap .u8 (r_1' * 2 ^ (4 : Int).toNat)) r_2'))] _ ?_) ⟨rfl, trivial⟩
                refine wc_ret ?_
                exact hE.ret [0] rfl rfl (.inl ⟨_, _, _, h, rfl⟩) (ResV.of1 rfl (RV.tmp rfl))
              · rcases hS with ⟨r_2', at0_2', hc, ho⟩ | ⟨e_1', at0_3', hc, ho⟩ <;> cases ho
                replace h := h.2 e_1' at0_3' hc
                exact hE.pan [0] rfl rfl (.inr ⟨_, _, _, h, rfl⟩)
            · rcases hS with ⟨r_1', at0, hc, ho⟩ | ⟨e, at0_1', hc, ho⟩ <;> cases ho
              replace h := h.2 e at0_1' hc
              exact hE.pan [0] rfl rfl (.inr ⟨_, _, _, h, rfl⟩)
          · replace h := if_F h hb
            refine wc_skip ?_
            refine KX.go (hK_33' [(0, Value.pointer (some ⟨b, 0, none⟩)), (3, Value.int .u8 (peekB r_0 r_1))] _ ?_) ⟨rfl, rfl, trivial⟩
            refine wc_seq (fun K0_38' hK_38' => ?_)
            refine wc_seq (fun K0_39' hK_39' => ?_)
            refine wc_region ?_
            refine WL.val (OV.move rfl) rfl rfl rfl ?_
            refine WL.val (OV.lss rfl rfl) rfl rfl rfl ?_
            refine WL.val (OV.move rfl) rfl rfl rfl ?_
            refine WL.cut 3 [(0, Value.pointer (some ⟨b, 0, none⟩)), (3, Value.int .u8 (peekB r_0 r_1)), (60, Value.bool ((decide (peekB r_0 r_1 < 32)) || (decide (126 < peekB r_0 r_1))))] ?_ (fun K0_40' hK_40' => ?_)
            rotate_left
            · refine WL.split (decide (peekB r_0 r_1 < 32)) (fun hb => ?_) (fun hb => ?_)
              · refine WL.set 57 rfl (congrArg Value.bool hb) ?_
                refine WL.skip rfl rfl rfl ?_
                refine WL.skip rfl rfl rfl ?_
                refine WL.val (OV.pickT rfl rfl) rfl rfl rfl ?_
                refine WL.set 60 rfl (oT (v := decide (126 < peekB r_0 r_1)) hb) ?_
                exact WL.end_ (KX.go hK_40' ⟨rfl, rfl, rfl, trivial⟩)
              · refine WL.set 57 rfl (congrArg Value.bool hb) ?_
                refine WL.val (OV.move rfl) rfl rfl rfl ?_
                refine WL.val (OV.gtr rfl rfl) rfl rfl rfl ?_
                refine WL.val (OV.pickF rfl rfl) rfl rfl rfl ?_
                refine WL.set 60 rfl (oF (v := decide (126 < peekB r_0 r_1)) hb) ?_
                exact WL.end_ (KX.go hK_40' ⟨rfl, rfl, rfl, trivial⟩)
            refine WL.val (OV.move rfl) rfl rfl rfl ?_
            refine WL.cut 7 [(0, Value.pointer (some ⟨b, 0, none⟩)), (3, Value.int .u8 (peekB r_0 r_1)), (68, Value.bool (((decide (peekB r_0 r_1 < 32)) || (decide (126 < peekB r_0 r_1))) || ((decide (48 ≤ peekB r_0 r_1)) && (decide (peekB r_0 r_1 ≤ 57)))))] ?_ (fun K0_42' hK_42' => ?_)
            rotate_left
            · refine WL.split ((decide (peekB r_0 r_1 < 32)) || (decide (126 < peekB r_0 r_1))) (fun hb => ?_) (fun hb => ?_)
              · refine WL.set 61 rfl (congrArg Value.bool hb) ?_
                refine WL.skip rfl rfl rfl ?_
                refine WL.skip rfl rfl rfl ?_
                refine WL.skip rfl rfl rfl ?_
                refine WL.skip rfl rfl rfl ?_
                refine WL.skip rfl rfl rfl ?_
                refine WL.skip rfl rfl rfl ?_
                refine WL.val (OV.pickT rfl rfl) rfl rfl rfl ?_
                refine WL.set 68 rfl (oT (v := (decide (48 ≤ peekB r_0 r_1)) && (decide (peekB r_0 r_1 ≤ 57))) hb) ?_
                exact WL.end_ (KX.go hK_42' ⟨rfl, rfl, rfl, trivial⟩)
              · refine WL.set 61 rfl (congrArg Value.bool hb) ?_
                refine WL.val (OV.move rfl) rfl rfl rfl ?_
                refine WL.val (OV.geq rfl rfl) rfl rfl rfl ?_
                refine WL.val (OV.move rfl) rfl rfl rfl ?_
                refine WL.cut 3 [(0, Value.pointer (some ⟨b, 0, none⟩)), (3, Value.int .u8 (peekB r_0 r_1)), (61, Value.bool false), (67, Value.bool ((decide (48 ≤ peekB r_0 r_1)) && (decide (peekB r_0 r_1 ≤ 57))))] ?_ (fun K0_41' hK_41' => ?_)
                rotate_left
                · refine WL.split (decide (48 ≤ peekB r_0 r_1)) (fun hb => ?_) (fun hb => ?_)
                  · refine WL.set 64 rfl (congrArg Value.bool hb) ?_
                    refine WL.val (OV.move rfl) rfl rfl rfl ?_
                    refine WL.val (OV.leq rfl rfl) rfl rfl rfl ?_
                    refine WL.val (OV.pickT rfl rfl) rfl rfl rfl ?_
                    refine WL.set 67 rfl (bT (v := decide (peekB r_0 r_1 ≤ 57)) hb) ?_
                    exact WL.end_ (KX.go hK_41' ⟨rfl, rfl, rfl, rfl, trivial⟩)
                  · refine WL.set 64 rfl (congrArg Value.bool hb) ?_
                    refine WL.skip rfl rfl rfl ?_
                    refine WL.skip rfl rfl rfl ?_
                    refine WL.val (OV.pickF rfl rfl) rfl rfl rfl ?_
                    refine WL.set 67 rfl (bF (v := decide (peekB r_0 r_1 ≤ 57)) hb) ?_
                    exact WL.end_ (KX.go hK_41' ⟨rfl, rfl, rfl, rfl, trivial⟩)
                refine WL.val (OV.pickF rfl rfl) rfl rfl rfl ?_
                refine WL.set 68 rfl (oF (v := (decide (48 ≤ peekB r_0 r_1)) && (decide (peekB r_0 r_1 ≤ 57))) hb) ?_
                exact WL.end_ (KX.go hK_42' ⟨rfl, rfl, rfl, trivial⟩)
            refine WL.val (OV.move rfl) rfl rfl rfl ?_
            refine WL.cut 7 [(0, Value.pointer (some ⟨b, 0, none⟩)), (3, Value.int .u8 (peekB r_0 r_1)), (76, Value.bool ((((decide (peekB r_0 r_1 < 32)) || (decide (126 < peekB r_0 r_1))) || ((decide (48 ≤ peekB r_0 r_1)) && (decide (peekB r_0 r_1 ≤ 57)))) || ((decide (97 ≤ peekB r_0 r_1)) && (decide (peekB r_0 r_1 ≤ 122)))))] ?_ (fun K0_44' hK_44' => ?_)
            rotate_left
            · refine WL.split (((decide (peekB r_0 r_1 < 32)) || (decide (126 < peekB r_0 r_1))) || ((decide (48 ≤ peekB r_0 r_1)) && (decide (peekB r_0 r_1 ≤ 57)))) (fun hb => ?_) (fun hb => ?_)
              · refine WL.set 69 rfl (congrArg Value.bool hb) ?_
                refine WL.skip rfl rfl rfl ?_
                refine WL.skip rfl rfl rfl ?_
                refine WL.skip rfl rfl rfl ?_
                refine WL.skip rfl rfl rfl ?_
                refine WL.skip rfl rfl rfl ?_
                refine WL.skip rfl rfl rfl ?_
                refine WL.val (OV.pickT rfl rfl) rfl rfl rfl ?_
                refine WL.set 76 rfl (oT (v := (decide (97 ≤ peekB r_0 r_1)) && (decide (peekB r_0 r_1 ≤ 122))) hb) ?_
                exact WL.end_ (KX.go hK_44' ⟨rfl, rfl, rfl, trivial⟩)
              · refine WL.set 69 rfl (congrArg Value.bool hb) ?_
                refine WL.val (OV.move rfl) rfl rfl rfl ?_
                refine WL.val (OV.geq rfl rfl) rfl rfl rfl ?_
                refine WL.val (OV.move rfl) rfl rfl rfl ?_
                refine WL.cut 3 [(0, Value.pointer (some ⟨b, 0, none⟩)), (3, Value.int .u8 (peekB r_0 r_1)), (69, Value.bool false), (75, Value.bool ((decide (97 ≤ peekB r_0 r_1)) && (decide (peekB r_0 r_1 ≤ 122))))] ?_ (fun K0_43' hK_43' => ?_)
                rotate_left
                · refine WL.split (decide (97 ≤ peekB r_0 r_1)) (fun hb => ?_) (fun hb => ?_)
                  · refine WL.set 72 rfl (congrArg Value.bool hb) ?_
                    refine WL.val (OV.move rfl) rfl rfl rfl ?_
                    refine WL.val (OV.leq rfl rfl) rfl rfl rfl ?_
                    refine WL.val (OV.pickT rfl rfl) rfl rfl rfl ?_
                    refine WL.set 75 rfl (bT (v := decide (peekB r_0 r_1 ≤ 122)) hb) ?_
                    exact WL.end_ (KX.go hK_43' ⟨rfl, rfl, rfl, rfl, trivial⟩)
                  · refine WL.set 72 rfl (congrArg Value.bool hb) ?_
                    refine WL.skip rfl rfl rfl ?_
                    refine WL.skip rfl rfl rfl ?_
                    refine WL.val (OV.pickF rfl rfl) rfl rfl rfl ?_
                    refine WL.set 75 rfl (bF (v := decide (peekB r_0 r_1 ≤ 122)) hb) ?_
                    exact WL.end_ (KX.go hK_43' ⟨rfl, rfl, rfl, rfl, trivial⟩)
                refine WL.val (OV.pickF rfl rfl) rfl rfl rfl ?_
                refine WL.set 76 rfl (oF (v := (decide (97 ≤ peekB r_0 r_1)) && (decide (peekB r_0 r_1 ≤ 122))) hb) ?_
                exact WL.end_ (KX.go hK_44' ⟨rfl, rfl, rfl, trivial⟩)
            refine WL.val (OV.move rfl) rfl rfl rfl ?_
            refine WL.cut 7 [(0, Value.pointer (some ⟨b, 0, none⟩)), (3, Value.int .u8 (peekB r_0 r_1)), (84, Value.bool (((((decide (peekB r_0 r_1 < 32)) || (decide (126 < peekB r_0 r_1))) || ((decide (48 ≤ peekB r_0 r_1)) && (decide (peekB r_0 r_1 ≤ 57)))) || ((decide (97 ≤ peekB r_0 r_1)) && (decide (peekB r_0 r_1 ≤ 122)))) || ((decide (65 ≤ peekB r_0 r_1)) && (decide (peekB r_0 r_1 ≤ 90)))))] ?_ (fun K0_46' hK_46' => ?_)
            rotate_left
            · refine WL.split ((((decide (peekB r_0 r_1 < 32)) || (decide (126 < peekB r_0 r_1))) || ((decide (48 ≤ peekB r_0 r_1)) && (decide (peekB r_0 r_1 ≤ 57)))) || ((decide (97 ≤ peekB r_0 r_1)) && (decide (peekB r_0 r_1 ≤ 122)))) (fun hb => ?_) (fun hb => ?_)
              · refine WL.set 77 rfl (congrArg Value.bool hb) ?_
                refine WL.skip rfl rfl rfl ?_
                refine WL.skip rfl rfl rfl ?_
                refine WL.skip rfl rfl rfl ?_
                refine WL.skip rfl rfl rfl ?_
                refine WL.skip rfl rfl rfl ?_
                refine WL.skip rfl rfl rfl ?_
                refine WL.val (OV.pickT rfl rfl) rfl rfl rfl ?_
                refine WL.set 84 rfl (oT (v := (decide (65 ≤ peekB r_0 r_1)) && (decide (peekB r_0 r_1 ≤ 90))) hb) ?_
                exact WL.end_ (KX.go hK_46' ⟨rfl, rfl, rfl, trivial⟩)
              · refine WL.set 77 rfl (congrArg Value.bool hb) ?_
                refine WL.val (OV.move rfl) rfl rfl rfl ?_
                refine WL.val (OV.geq rfl rfl) rfl rfl rfl ?_
                refine WL.val (OV.move rfl) rfl rfl rfl ?_
                refine WL.cut 3 [(0, Value.pointer (some ⟨b, 0, none⟩)), (3, Value.int .u8 (peekB r_0 r_1)), (77, Value.bool false), (83, Value.bool ((decide (65 ≤ peekB r_0 r_1)) && (decide (peekB r_0 r_1 ≤ 90))))] ?_ (fun K0_45' hK_45' => ?_)
                rotate_left
                · refine WL.split (decide (65 ≤ peekB r_0 r_1)) (fun hb => ?_) (fun hb => ?_)
                  · refine WL.set 80 rfl (congrArg Value.bool hb) ?_
                    refine WL.val (OV.move rfl) rfl rfl rfl ?_
                    refine WL.val (OV.leq rfl rfl) rfl rfl rfl ?_
                    refine WL.val (OV.pickT rfl rfl) rfl rfl rfl ?_
                    refine WL.set 83 rfl (bT (v := decide (peekB r_0 r_1 ≤ 90)) hb) ?_
                    exact WL.end_ (KX.go hK_45' ⟨rfl, rfl, rfl, rfl, trivial⟩)
                  · refine WL.set 80 rfl (congrArg Value.bool hb) ?_
                    refine WL.skip rfl rfl rfl ?_
                    refine WL.skip rfl rfl rfl ?_
                    refine WL.val (OV.pickF rfl rfl) rfl rfl rfl ?_
                    refine WL.set 83 rfl (bF (v := decide (peekB r_0 r_1 ≤ 90)) hb) ?_
                    exact WL.end_ (KX.go hK_45' ⟨rfl, rfl, rfl, rfl, trivial⟩)
                refine WL.val (OV.pickF rfl rfl) rfl rfl rfl ?_
                refine WL.set 84 rfl (oF (v := (decide (65 ≤ peekB r_0 r_1)) && (decide (peekB r_0 r_1 ≤ 90))) hb) ?_
                exact WL.end_ (KX.go hK_46' ⟨rfl, rfl, rfl, trivial⟩)
            refine WL.nil ?_
            refine KX.go (hK_39' [(0, Value.pointer (some ⟨b, 0, none⟩)), (3, Value.int .u8 (peekB r_0 r_1)), (84, Value.bool (((((decide (peekB r_0 r_1 < 32)) || (decide (126 < peekB r_0 r_1))) || ((decide (48 ≤ peekB r_0 r_1)) && (decide (peekB r_0 r_1 ≤ 57)))) || ((decide (97 ≤ peekB r_0 r_1)) && (decide (peekB r_0 r_1 ≤ 122)))) || ((decide (65 ≤ peekB r_0 r_1)) && (decide (peekB r_0 r_1 ≤ 90)))))] _ ?_) ⟨rfl, rfl, rfl, trivial⟩
            refine wc_cond (b := ((((decide (peekB r_0 r_1 < 32)) || (decide (126 < peekB r_0 r_1))) || ((decide (48 ≤ peekB r_0 r_1)) && (decide (peekB r_0 r_1 ≤ 57)))) || ((decide (97 ≤ peekB r_0 r_1)) && (decide (peekB r_0 r_1 ≤ 122)))) || ((decide (65 ≤ peekB r_0 r_1)) && (decide (peekB r_0 r_1 ≤ 90)))) rfl (fun hb => ?_) (fun hb => ?_)
            · replace h := if_T h hb
              refine wc_region ?_
              refine WL.val (OV.move rfl) rfl rfl rfl ?_
              refine WL.val (OV.move rfl) rfl rfl rfl ?_
              refine WL.val (OV.nilCheck rfl) rfl rfl rfl ?_
              refine WL.val (OV.fieldAddr0 rfl tf_field_55_1) rfl rfl rfl ?_
              refine WL.val (OV.load rfl (At.own 3 rfl) rfl tf_scal_3) rfl rfl rfl ?_
              refine WL.callS tf_ent_36 rfl (fail_does b r_1) rfl trivial rfl rfl (fun r H' hS => by cases hS) (fun c H' hS => ?_)
              cases hS
              exact hE.pan [3] rfl rfl (.inr ⟨_, _, _, h, rfl⟩)
            · replace h := if_F h hb
              refine wc_skip ?_
              refine KX.go (hK_38' [(0, Value.pointer (some ⟨b, 0, none⟩)), (3, Value.int .u8 (peekB r_0 r_1))] _ ?_) ⟨rfl, rfl, trivial⟩
              refine wc_seq (fun K0_47' hK_47' => ?_)
              refine wc_region ?_
              refine WL.val (OV.move rfl) rfl rfl rfl ?_
              refine WL.val (OV.nilCheck rfl) rfl rfl rfl ?_
              refine WL.val (OV.fieldAddr0 rfl tf_field_55_1) rfl rfl rfl ?_
              refine WL.val (OV.load rfl (At.own 3 rfl) rfl tf_scal_3) rfl rfl rfl ?_
              obtain ⟨o_14', h⟩ := h
              refine WL.val (OV.add rfl rfl o_14') rfl rfl rfl ?_
              refine WL.val (OV.nilCheck rfl) rfl rfl rfl ?_
              refine WL.val (OV.fieldAddr0 rfl tf_field_55_1) rfl rfl rfl ?_
              refine WL.store (vs := [Value.int .i64 (r_1 + 1)]) (cs' := [st r_0, Value.int .i64 (r_1 + 1)]) 3 rfl rfl rfl rfl tf_size_3 (Nat.le_of_ble_eq_true rfl) rfl rfl rfl ?_
              refine WL.nil ?_
              refine KX.go (hK_47' [(3, Value.int .u8 (peekB r_0 r_1))] _ ?_) ⟨rfl, trivial⟩
              refine wc_seq (fun K0_48' hK_48' => ?_)
              refine wc_region ?_
              refine WL.val (OV.move rfl) rfl rfl rfl ?_
              refine WL.val (OV.assign rfl) rfl rfl rfl ?_
              refine WL.nil ?_
              refine KX.go (hK_48' [(2, Value.int .u8 (peekB r_0 r_1))] _ ?_) ⟨rfl, trivial⟩
              refine wc_ret ?_
              exact hE.ret [3] rfl rfl (.inl ⟨_, _, _, h, rfl⟩) (ResV.of1 rfl (RV.tmp rfl))

theorem or16 (hi lo : Int) (h1 : 0 ≤ hi ∧ hi ≤ 15) (h2 : 0 ≤ lo ∧ lo ≤ 15) : bits .or .u8 (IntKind.wrap .u8 (hi * 2 ^ (4 : Int).toNat)) lo = 16 * hi + lo := by
  obtain ⟨a, ha, rfl⟩ : ∃ a : Nat, a < 16 ∧ hi = (a : Int) := ⟨hi.toNat, by omega, by omega⟩
  obtain ⟨b, hb, rfl⟩ : ∃ b : Nat, b < 16 ∧ lo = (b : Int) := ⟨lo.toNat, by omega, by omega⟩
  clear h1 h2
  revert a b; decide
theorem hexM_ok {t : List UInt8} {a r q : Int} (h : hexM t a = .ok (r, q)) : a < t.length ∧ 0 ≤ r ∧ r ≤ 15 ∧ q = a + 1 := by
  unfold hexM at h
  split at h
  · rename_i h1
    cases h
    exact ⟨h1.1, h1.2, refHex_bd.2, rfl⟩
  · cases h
abbrev escTab (te : TypeId) (fre : Nat × Nat) : List (Nat × Obj) := [(0, .cells [Value.int .u8 110, Value.int .u8 10, Value.int .u8 114, Value.int .u8 13, Value.int .u8 116, Value.int .u8 9].toArray te fre)]
theorem escape_does (b : Nat) (te : TypeId) (fre : Nat × Nat) (t : List UInt8) (a : Int) (h : 0 ≤ a ∧ a ≤ t.length ∧ t.length ≤ 9223372036854775807) : Does Tryd.prog 38 [.pointer (some ⟨b, 0, none⟩)] (escTab te fre) [rdBlk b t a] (RdOut b t (fun r => .int .u8 r) (escM t a)) := by
  refine (escape_wp b te fre t a (fun r t' q => t' = t ∧ escM t a = .ok (r, q)) (fun v t' _ => t' = t ∧ ∃ e, escM t a = .error e ∧ v = faultV 10 e) ?_).weak ?_
  · have hb := peekB_bd t a
    unfold escape_vc escM peekOk
    refine ⟨h.1, ?_⟩
    by_cases h1 : a < t.length
    · rw [if_neg (by simp [h1]), if_pos h1]
      have hI : I64 (a + 1) := ⟨by omega, by omega⟩
      generalize peekB t a = c at hb ⊢
      by_cases e1 : c = 110
      · subst e1; simp [hI]
      · by_cases e2 : c = 114
        · subst e2; simp [hI]
        · by_cases e3 : c = 116
          · subst e3; simp [hI]
          · rw [if_neg (by simpa using fun e => e1 e.symm), if_neg (by simpa using fun e => e2 e.symm), if_neg (by simpa using fun e => e3 e.symm), if_neg e1, if_neg e2, if_neg e3]
            by_cases e4 : c = 120
            · rw [if_pos (by simpa using e4), if_pos e4]
              refine ⟨hI, ⟨by omega, by omega, h.2.2⟩, fun hi p hp => ⟨?_, fun lo q hq => ?_, fun e q he => ?_⟩, fun e q he => ?_⟩
              · have := hexM_ok hp; exact ⟨by omega, by omega, h.2.2⟩
              · simp only [hp, hq]
                have h3 := hexM_ok hp
                have h4 := hexM_ok hq
                rw [or16 hi lo ⟨h3.2.1, h3.2.2.1⟩ ⟨h4.2.1, h4.2.2.1⟩]
                simp
              · simp only [hp]; simp [he]
              · simp [he]
            · rw [if_neg (by simpa using e4), if_neg e4]
              by_cases e5 : c < 32 ∨ 126 < c ∨ (48 ≤ c ∧ c ≤ 57) ∨ (97 ≤ c ∧ c ≤ 122) ∨ (65 ≤ c ∧ c ≤ 90)
              · rw [if_pos (by simp; omega), if_pos e5]; exact ⟨rfl, _, rfl, rfl⟩
              · rw [if_neg (by simp; omega), if_neg e5]; exact ⟨hI, rfl, rfl⟩
    · rw [if_pos (by simp [h1]), if_neg h1]; exact ⟨rfl, _, rfl, rfl⟩
  · rintro o (⟨r, t', q, ⟨rfl, hm⟩, rfl⟩ | ⟨v, t', q, ⟨rfl, e, hm, rfl⟩, rfl⟩)
    · exact .inl ⟨r, q, hm, rfl⟩
    · exact .inr ⟨e, q, hm, rfl⟩

def one_vc (r_0 : List UInt8) (r_1 : Int) (barred : List UInt8) (K : Int → (List UInt8) → Int → Prop) (KP : Value → (List UInt8) → Int → Prop) : Prop :=
  (0 ≤ r_1) ∧
  (if ((peekOk r_0 r_1) && (decide (peekB r_0 r_1 = 92))) = true then
    (I64 (r_1 + 1)) ∧
    (0 ≤ r_1 + 1 ∧ r_1 + 1 ≤ r_0.length ∧ r_0.length ≤ 9223372036854775807) ∧
    (∀ (r_1' : Int) (at0 : Int), escM r_0 (r_1 + 1) = .ok (r_1', at0) →
      K r_1' r_0 at0) ∧
    (∀ (e : Int) (at0_1' : Int), escM r_0 (r_1 + 1) = .error e →
      KP (faultV 10 e) r_0 at0_1')
  else
    (if ((((!(peekOk r_0 r_1)) || (decide (peekB r_0 r_1 < 32))) || (decide (126 < peekB r_0 r_1))) || (decide (0 ≤ Lib.indexByte barred (peekB r_0 r_1).toNat.toUInt8))) = true then
      KP (faultV 10 r_1) r_0 r_1
    else
      (I64 (r_1 + 1)) ∧
      K (peekB r_0 r_1) r_0 (r_1 + 1)))
set_option maxRecDepth 100000 in
theorem one_wp (b : Nat) (te : TypeId) (fre : Nat × Nat) (r_0 : List UInt8) (r_1 : Int) (barred : List UInt8) (K : Int → (List UInt8) → Int → Prop) (KP : Value → (List UInt8) → Int → Prop) (h : one_vc r_0 r_1 barred K KP) :
    Does Tryd.prog 31 [Value.pointer (some ⟨b, 0, none⟩), st barred] [(0, .cells [Value.int .u8 110, Value.int .u8 10, Value.int .u8 114, Value.int .u8 13, Value.int .u8 116, Value.int .u8 9].toArray te fre)] [HA.blk b (.cells [st r_0, Value.int .i64 r_1].toArray 55 (0, 0))] (fun o => (∃ (v : Int) (d_0 : List UInt8) (d_1 : Int), K v d_0 d_1 ∧ o = .ret (Value.int .u8 v) [HA.blk b (.cells [st d_0, Value.int .i64 d_1].toArray 55 (0, 0))]) ∨ (∃ (pv : Value) (d_0 : List UInt8) (d_1 : Int), KP pv d_0 d_1 ∧ o = .pan [{ v := pv, recovered := false }] [HA.blk b (.cells [st d_0, Value.int .i64 d_1].toArray 55 (0, 0))])) := by
  unfold one_vc at h
  refine does_of_wc (n := 56) (L0 := [(0, Value.pointer (some ⟨b, 0, none⟩)), (1, st barred)]) Tryd.func31 rfl rfl rfl rfl (fun w0 M Q hE => ?_)
  refine wc_seq (fun K0 hK => ?_)
  refine wc_region ?_
  refine WL.val (OV.assign rfl) rfl rfl rfl ?_
  refine WL.nil ?_
  refine KX.go (hK [(0, Value.pointer (some ⟨b, 0, none⟩)), (1, st barred)] _ ?_) ⟨rfl, rfl, trivial⟩
  refine wc_seq (fun K0_1' hK_1' => ?_)
  refine wc_region ?_
  refine WL.val (OV.move rfl) rfl rfl rfl ?_
  obtain ⟨o, h⟩ := h
  refine WL.call (A := []) tf_ent_35 rfl (peek_does b r_0 r_1 o) rfl ⟨.inl ⟨0, rfl⟩, trivial⟩ rfl rfl ?_
  refine WL.val (OV.move rfl) rfl rfl rfl ?_
  refine WL.val (OV.extract 0 rfl rfl) rfl rfl rfl ?_
  refine WL.val (OV.extract 1 rfl rfl) rfl rfl rfl ?_
  refine WL.val (OV.assign rfl) rfl rfl rfl ?_
  refine WL.val (OV.assign rfl) rfl rfl rfl ?_
  refine WL.nil ?_
  refine KX.go (hK_1' [(0, Value.pointer (some ⟨b, 0, none⟩)), (1, st barred), (5, Value.int .u8 (peekB r_0 r_1)), (6, Value.bool (peekOk r_0 r_1))] _ ?_) ⟨rfl, rfl, rfl, rfl, trivial⟩
  refine wc_seq (fun K0_2' hK_2' => ?_)
  refine wc_seq (fun K0_3' hK_3' => ?_)
  refine wc_region ?_
  refine WL.val (OV.move rfl) rfl rfl rfl ?_
  refine WL.val (OV.move rfl) rfl rfl rfl ?_
  refine WL.cut 3 [(0, Value.pointer (some ⟨b, 0, none⟩)), (1, st barred), (5, Value.int .u8 (peekB r_0 r_1)), (6, Value.bool (peekOk r_0 r_1)), (16, Value.bool ((peekOk r_0 r_1) && (decide (peekB r_0 r_1 = 92))))] ?_ (fun K0_4' hK_4' => ?_)
  rotate_left
  · refine WL.split (peekOk r_0 r_1) (fun hb => ?_) (fun hb => ?_)
    · refine WL.set 13 rfl (congrArg Value.bool hb) ?_
      refine WL.val (OV.move rfl) rfl rfl rfl ?_
      refine WL.val (OV.eql rfl rfl) rfl rfl rfl ?_
      refine WL.val (OV.pickT rfl rfl) rfl rfl rfl ?_
      refine WL.set 16 rfl (bT (v := decide (peekB r_0 r_1 = 92)) hb) ?_
      exact WL.end_ (KX.go hK_4' ⟨rfl, rfl, rfl, rfl, rfl, trivial⟩)
    · refine WL.set 13 rfl (congrArg Value.bool hb) ?_
      refine WL.skip rfl rfl rfl ?_
      refine WL.skip rfl rfl rfl ?_
      refine WL.val (OV.pickF rfl rfl) rfl rfl rfl ?_
      refine WL.set 16 rfl (bF (v := decide (peekB r_0 r_1 = 92)) hb) ?_
      exact WL.end_ (KX.go hK_4' ⟨rfl, rfl, rfl, rfl, rfl, trivial⟩)
  refine WL.nil ?_
  refine KX.go (hK_3' [(0, Value.pointer (some ⟨b, 0, none⟩)), (1, st barred), (5, Value.int .u8 (peekB r_0 r_1)), (6, Value.bool (peekOk r_0 r_1)), (16, Value.bool ((peekOk r_0 r_1) && (decide (peekB r_0 r_1 = 92))))] _ ?_) ⟨rfl, rfl, rfl, rfl, rfl, trivial⟩
  refine wc_cond (b := (peekOk r_0 r_1) && (decide (peekB r_0 r_1 = 92))) rfl (fun hb => ?_) (fun hb => ?_)
  · replace h := if_T h hb
    refine wc_seq (fun K0_5' hK_5' => ?_)
    refine wc_region ?_
    refine WL.val (OV.move rfl) rfl rfl rfl ?_
    refine WL.val (OV.nilCheck rfl) rfl rfl rfl ?_
    refine WL.val (OV.fieldAddr0 rfl tf_field_55_1) rfl rfl rfl ?_
    refine WL.val (OV.load rfl (At.own 0 rfl) rfl tf_scal_3) rfl rfl rfl ?_
    obtain ⟨o_2', h⟩ := h
    refine WL.val (OV.add rfl rfl o_2') rfl rfl rfl ?_
    refine WL.val (OV.nilCheck rfl) rfl rfl rfl ?_
    refine WL.val (OV.fieldAddr0 rfl tf_field_55_1) rfl rfl rfl ?_
    refine WL.store (vs := [Value.int .i64 (r_1 + 1)]) (cs' := [st r_0, Value.int .i64 (r_1 + 1)]) 0 rfl rfl rfl rfl tf_size_3 (Nat.le_of_ble_eq_true rfl) rfl rfl rfl ?_
    refine WL.nil ?_
    refine KX.go (hK_5' [(0, Value.pointer (some ⟨b, 0, none⟩))] _ ?_) ⟨rfl, trivial⟩
    refine wc_seq (fun K0_6' hK_6' => ?_)
    refine wc_region ?_
    refine WL.val (OV.move rfl) rfl rfl rfl ?_
    obtain ⟨o_3', h⟩ := h
    refine WL.callS tf_ent_38 rfl (escape_does b te fre r_0 (r_1 + 1) o_3') rfl ⟨.inr (List.mem_of_getElem? (i := 0) rfl), trivial⟩ rfl rfl (fun r H' hS => ?_) (fun c H' hS => ?_)
    · rcases hS with ⟨r_1', at0, hc, ho⟩ | ⟨e, at0_1', hc, ho⟩ <;> cases ho
      replace h := h.1 r_1' at0 hc
      refine WL.val (OV.assign rfl) rfl rfl rfl ?_
      refine WL.nil ?_
      refine KX.go (hK_6' [(4, Value.int .u8 r_1')] _ ?_) ⟨rfl, trivial⟩
      refine wc_ret ?_
      exact hE.ret [0] rfl rfl (.inl ⟨_, _, _, h, rfl⟩) (ResV.of1 rfl (RV.tmp rfl))
    · rcases hS with ⟨r_1', at0, hc, ho⟩ | ⟨e, at0_1', hc, ho⟩ <;> cases ho
      replace h := h.2 e at0_1' hc
      exact hE.pan [0] rfl rfl (.inr ⟨_, _, _, h, rfl⟩)
  · replace h := if_F h hb
    refine wc_skip ?_
    refine KX.go (hK_2' [(0, Value.pointer (some ⟨b, 0, none⟩)), (1, st barred), (5, Value.int .u8 (peekB r_0 r_1)), (6, Value.bool (peekOk r_0 r_1))] _ ?_) ⟨rfl, rfl, rfl, rfl, trivial⟩
    refine wc_seq (fun K0_7' hK_7' => ?_)
    refine wc_seq (fun K0_8' hK_8' => ?_)
    refine wc_region ?_
    refine WL.val (OV.move rfl) rfl rfl rfl ?_
    refine WL.val (OV.not rfl) rfl rfl rfl ?_
    refine WL.val (OV.move rfl) rfl rfl rfl ?_
    refine WL.cut 3 [(0, Value.pointer (some ⟨b, 0, none⟩)), (1, st barred), (5, Value.int .u8 (peekB r_0 r_1)), (31, Value.bool ((!(peekOk r_0 r_1)) || (decide (peekB r_0 r_1 < 32))))] ?_ (fun K0_9' hK_9' => ?_)
    rotate_left
    · refine WL.split (!(peekOk r_0 r_1)) (fun hb => ?_) (fun hb => ?_)
      · refine WL.set 28 rfl (congrArg Value.bool hb) ?_
        refine WL.skip rfl rfl rfl ?_
        refine WL.skip rfl rfl rfl ?_
        refine WL.val (OV.pickT rfl rfl) rfl rfl rfl ?_
        refine WL.set 31 rfl (oT (v := decide (peekB r_0 r_1 < 32)) hb) ?_
        exact WL.end_ (KX.go hK_9' ⟨rfl, rfl, rfl, rfl, trivial⟩)
      · refine WL.set 28 rfl (congrArg Value.bool hb) ?_
        refine WL.val (OV.move rfl) rfl rfl rfl ?_
        refine WL.val (OV.lss rfl rfl) rfl rfl rfl ?_
        refine WL.val (OV.pickF rfl rfl) rfl rfl rfl ?_
        refine WL.set 31 rfl (oF (v := decide (peekB r_0 r_1 < 32)) hb) ?_
        exact WL.end_ (KX.go hK_9' ⟨rfl, rfl, rfl, rfl, trivial⟩)
    refine WL.val (OV.move rfl) rfl rfl rfl ?_
    refine WL.cut 3 [(0, Value.pointer (some ⟨b, 0, none⟩)), (1, st barred), (5, Value.int .u8 (peekB r_0 r_1)), (35, Value.bool (((!(peekOk r_0 r_1)) || (decide (peekB r_0 r_1 < 32))) || (decide (126 < peekB r_0 r_1))))] ?_ (fun K0_10' hK_10' => ?_)
    rotate_left
    · refine WL.split ((!(peekOk r_0 r_1)) || (decide (peekB r_0 r_1 < 32))) (fun hb => ?_) (fun hb => ?_)
      · refine WL.set 32 rfl (congrArg Value.bool hb) ?_
        refine WL.skip rfl rfl rfl ?_
        refine WL.skip rfl rfl rfl ?_
        refine WL.val (OV.pickT rfl rfl) rfl rfl rfl ?_
        refine WL.set 35 rfl (oT (v := decide (126 < peekB r_0 r_1)) hb) ?_
        exact WL.end_ (KX.go hK_10' ⟨rfl, rfl, rfl, rfl, trivial⟩)
      · refine WL.set 32 rfl (congrArg Value.bool hb) ?_
        refine WL.val (OV.move rfl) rfl rfl rfl ?_
        refine WL.val (OV.gtr rfl rfl) rfl rfl rfl ?_
        refine WL.val (OV.pickF rfl rfl) rfl rfl rfl ?_
        refine WL.set 35 rfl (oF (v := decide (126 < peekB r_0 r_1)) hb) ?_
        exact WL.end_ (KX.go hK_10' ⟨rfl, rfl, rfl, rfl, trivial⟩)
    refine WL.val (OV.move rfl) rfl rfl rfl ?_
    refine WL.cut 5 [(0, Value.pointer (some ⟨b, 0, none⟩)), (5, Value.int .u8 (peekB r_0 r_1)), (41, Value.bool ((((!(peekOk r_0 r_1)) || (decide (peekB r_0 r_1 < 32))) || (decide (126 < peekB r_0 r_1))) || (decide (0 ≤ Lib.indexByte barred (peekB r_0 r_1).toNat.toUInt8))))] ?_ (fun K0_11' hK_11' => ?_)
    rotate_left
    · refine WL.split (((!(peekOk r_0 r_1)) || (decide (peekB r_0 r_1 < 32))) || (decide (126 < peekB r_0 r_1))) (fun hb => ?_) (fun hb => ?_)
      · refine WL.set 36 rfl (congrArg Value.bool hb) ?_
        refine WL.skip rfl rfl rfl ?_
        refine WL.skip rfl rfl rfl ?_
        refine WL.skip rfl rfl rfl ?_
        refine WL.skip rfl rfl rfl ?_
        refine WL.val (OV.pickT rfl rfl) rfl rfl rfl ?_
        refine WL.set 41 rfl (oT (v := decide (0 ≤ Lib.indexByte barred (peekB r_0 r_1).toNat.toUInt8)) hb) ?_
        exact WL.end_ (KX.go hK_11' ⟨rfl, rfl, rfl, trivial⟩)
      · refine WL.set 36 rfl (congrArg Value.bool hb) ?_
        refine WL.val (OV.move rfl) rfl rfl rfl ?_
        refine WL.val (OV.move rfl) rfl rfl rfl ?_
        refine WL.call (A := []) tf_ent_27 rfl (indexByte_does barred (peekB r_0 r_1)) rfl trivial rfl rfl ?_
        refine WL.val (OV.geq rfl rfl) rfl rfl rfl ?_
        refine WL.val (OV.pickF rfl rfl) rfl rfl rfl ?_
        refine WL.set 41 rfl (oF (v := decide (0 ≤ Lib.indexByte barred (peekB r_0 r_1).toNat.toUInt8)) hb) ?_
        exact WL.end_ (KX.go hK_11' ⟨rfl, rfl, rfl, trivial⟩)
    refine WL.nil ?_
    refine KX.go (hK_8' [(0, Value.pointer (some ⟨b, 0, none⟩)), (5, Value.int .u8 (peekB r_0 r_1)), (41, Value.bool ((((!(peekOk r_0 r_1)) || (decide (peekB r_0 r_1 < 32))) || (decide (126 < peekB r_0 r_1))) || (decide (0 ≤ Lib.indexByte barred (peekB r_0 r_1).toNat.toUInt8))))] _ ?_) ⟨rfl, rfl, rfl, trivial⟩
    refine wc_cond (b := (((!(peekOk r_0 r_1)) || (decide (peekB r_0 r_1 < 32))) || (decide (126 < peekB r_0 r_1))) || (decide (0 ≤ Lib.indexByte barred (peekB r_0 r_1).toNat.toUInt8))) rfl (fun hb => ?_) (fun hb => ?_)
    · replace h := if_T h hb
      refine wc_region ?_
      refine WL.val (OV.move rfl) rfl rfl rfl ?_
      refine WL.val (OV.move rfl) rfl rfl rfl ?_
      refine WL.val (OV.nilCheck rfl) rfl rfl rfl ?_
      refine WL.val (OV.fieldAddr0 rfl tf_field_55_1) rfl rfl rfl ?_
      refine WL.val (OV.load rfl (At.own 0 rfl) rfl tf_scal_3) rfl rfl rfl ?_
      refine WL.callS tf_ent_36 rfl (fail_does b r_1) rfl trivial rfl rfl (fun r H' hS => by cases hS) (fun c H' hS => ?_)
      cases hS
      exact hE.pan [0] rfl rfl (.inr ⟨_, _, _, h, rfl⟩)
    · replace h := if_F h hb
      refine wc_skip ?_
      refine KX.go (hK_7' [(0, Value.pointer (some ⟨b, 0, none⟩)), (5, Value.int .u8 (peekB r_0 r_1))] _ ?_) ⟨rfl, rfl, trivial⟩
      refine wc_seq (fun K0_12' hK_12' => ?_)
      refine wc_region ?_
      refine WL.val (OV.move rfl) rfl rfl rfl ?_
      refine WL.val (OV.nilCheck rfl) rfl rfl rfl ?_
      refine WL.val (OV.fieldAddr0 rfl tf_field_55_1) rfl rfl rfl ?_
      refine WL.val (OV.load rfl (At.own 0 rfl) rfl tf_scal_3) rfl rfl rfl ?_
      obtain ⟨o_7', h⟩ := h
      refine WL.val (OV.add rfl rfl o_7') rfl rfl rfl ?_
      refine WL.val (OV.nilCheck rfl) rfl rfl rfl ?_
      refine WL.val (OV.fieldAddr0 rfl tf_field_55_1) rfl rfl rfl ?_
      refine WL.store (vs := [Value.int .i64 (r_1 + 1)]) (cs' := [st r_0, Value.int .i64 (r_1 + 1)]) 0 rfl rfl rfl rfl tf_size_3 (Nat.le_of_ble_eq_true rfl) rfl rfl rfl ?_
      refine WL.nil ?_
      refine KX.go (hK_12' [(5, Value.int .u8 (peekB r_0 r_1))] _ ?_) ⟨rfl, trivial⟩
      refine wc_seq (fun K0_13' hK_13' => ?_)
      refine wc_region ?_
      refine WL.val (OV.move rfl) rfl rfl rfl ?_
      refine WL.val (OV.assign rfl) rfl rfl rfl ?_
      refine WL.nil ?_
      refine KX.go (hK_13' [(4, Value.int .u8 (peekB r_0 r_1))] _ ?_) ⟨rfl, trivial⟩
      refine wc_ret ?_
      exact hE.ret [0] rfl rfl (.inl ⟨_, _, _, h, rfl⟩) (ResV.of1 rfl (RV.tmp rfl))

theorem idx_bar (bar : List UInt8) (c : Int) : (0 ≤ Lib.indexByte bar c.toNat.toUInt8) ↔ bar.contains c.toNat.toUInt8 = true := indexByte_nonneg _ _
theorem one_does (b : Nat) (te : TypeId) (fre : Nat × Nat) (t : List UInt8) (a : Int) (bar : List UInt8) (h : 0 ≤ a ∧ a ≤ t.length ∧ t.length ≤ 9223372036854775807) : Does Tryd.prog 31 [.pointer (some ⟨b, 0, none⟩), st bar] (escTab te fre) [rdBlk b t a] (RdOut b t (fun r => .int .u8 r) (oneM t a bar)) := by
  refine (one_wp b te fre t a bar (fun r t' q => t' = t ∧ oneM t a bar = .ok (r, q)) (fun v t' _ => t' = t ∧ ∃ e, oneM t a bar = .error e ∧ v = faultV 10 e) ?_).weak ?_
  · have hb := peekB_bd t a
    unfold one_vc oneM peekOk
    refine ⟨h.1, ?_⟩
    by_cases h1 : a < t.length
    · have hI : I64 (a + 1) := ⟨by omega, by omega⟩
      have hbar := idx_bar bar (peekB t a)
      generalize peekB t a = c at hb hbar ⊢
      simp only [h1, decide_true, Bool.true_and, if_true]
      generalize Lib.indexByte bar c.toNat.toUInt8 = ix at hbar ⊢
      generalize bar.contains c.toNat.toUInt8 = bc at hbar ⊢
      by_cases e1 : c = 92
      · rw [if_pos (by simpa using e1), if_pos e1]
        exact ⟨hI, ⟨by omega, by omega, h.2.2⟩, fun r q hr => by simp [hr], fun e q he => by simp [he]⟩
      · rw [if_neg (by simpa using e1), if_neg e1]
        by_cases e5 : c < 32 ∨ 126 < c ∨ bc = true
        · rw [if_pos (by rw [← hbar] at e5; simp; omega), if_pos e5]; simp
        · rw [if_neg (by rw [← hbar] at e5; simp; omega), if_neg e5]; simp [hI]
    · simp only [h1, decide_false, Bool.false_and, if_false]
      rw [if_neg (by simp), if_pos (by simp)]
      simp
  · rintro o (⟨r, t', q, ⟨rfl, hm⟩, rfl⟩ | ⟨v, t', q, ⟨rfl, e, hm, rfl⟩, rfl⟩)
    · exact .inl ⟨r, q, hm, rfl⟩
    · exact .inr ⟨e, q, hm, rfl⟩

end Go.Proofs.YtkjnhjhkaaampaaDoor
