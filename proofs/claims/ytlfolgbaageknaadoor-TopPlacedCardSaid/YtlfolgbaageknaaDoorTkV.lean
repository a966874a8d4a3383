/-
  The scanner: conditions and walks.
-/
import Derived.Test.YtlfolgbaageknaaDoorChecked
import Derived.Test.YtlfolgbaageknaaDoorGws
import Derived.Test.YtlfolgbaageknaaDoorTkD
namespace Go.Proofs.YtlfolgbaageknaaDoor
open Go Go.RowKit

theorem tf_field_43_1 : fieldOff Tryd.prog 43 1 = some 1 := by kernel_rfl
theorem tf_scal_3 : scalB Tryd.prog 3 = true := by kernel_rfl
theorem tf_field_43_0 : fieldOff Tryd.prog 43 0 = some 0 := by kernel_rfl
theorem tf_scal_9 : scalB Tryd.prog 9 = true := by kernel_rfl
theorem tf_str_9 : strB Tryd.prog 9 = true := by kernel_rfl
theorem tf_mixed : Tryd.prog.follows .mixedOrders = true := by kernel_rfl
theorem tf_field_43_3 : fieldOff Tryd.prog 43 3 = some 3 := by kernel_rfl
theorem tf_size_25 : sizeB Tryd.prog 25 3 = true := by kernel_rfl
theorem tf_field_43_2 : fieldOff Tryd.prog 43 2 = some 2 := by kernel_rfl
theorem tf_scal_26 : scalB Tryd.prog 26 = true := by kernel_rfl
theorem tf_sl_26 : slB Tryd.prog 26 34 3 = true := by kernel_rfl
theorem tf_info_34 : infoB Tryd.prog 34 = some ([Value.int .i64 0, Value.int .i64 0, st []], 3, 32) := by kernel_rfl
theorem tf_size_26 : sizeB Tryd.prog 26 1 = true := by kernel_rfl

def tokletter_vc (c : Int) (K : Bool → Prop) : Prop :=
  K (((decide (c = 95)) || ((decide (97 ≤ c)) && (decide (c ≤ 122)))) || ((decide (65 ≤ c)) && (decide (c ≤ 90))))
set_option maxRecDepth 100000 in
theorem tokletter_wp  (c : Int) (K : Bool → Prop) (h : tokletter_vc c K) :
    Does Tryd.prog 23 [Value.int .u8 c] [] [] (fun o => (∃ (v : Bool), K v ∧ o = .ret (Value.bool v) []) ∨ (False)) := by
  unfold tokletter_vc at h
  refine does_of_wc (n := 21) (L0 := [(0, Value.int .u8 c)]) Tryd.func23 rfl rfl rfl rfl (fun w0 M Q hE => ?_)
  refine wc_seq (fun K0 hK => ?_)
  refine wc_region ?_
  refine WL.val (OV.assign rfl) rfl rfl rfl ?_
  refine WL.nil ?_
  refine KX.go (hK [(0, Value.int .u8 c)] _ ?_) ⟨rfl, trivial⟩
  refine wc_seq (fun K0_1' hK_1' => ?_)
  refine wc_region ?_
  refine WL.val (OV.move rfl) rfl rfl rfl ?_
  refine WL.val (OV.eql rfl rfl) rfl rfl rfl ?_
  refine WL.val (OV.move rfl) rfl rfl rfl ?_
  refine WL.cut 7 [(0, Value.int .u8 c), (12, Value.bool ((decide (c = 95)) || ((decide (97 ≤ c)) && (decide (c ≤ 122)))))] ?_ (fun K0_3' hK_3' => ?_)
  rotate_left
  · refine WL.split (decide (c = 95)) (fun hb => ?_) (fun hb => ?_)
    · refine WL.set 5 rfl (congrArg Value.bool hb) ?_
      refine WL.skip rfl rfl rfl ?_
      refine WL.skip rfl rfl rfl ?_
      refine WL.skip rfl rfl rfl ?_
      refine WL.skip rfl rfl rfl ?_
      refine WL.skip rfl rfl rfl ?_
      refine WL.skip rfl rfl rfl ?_
      refine WL.val (OV.pickT rfl rfl) rfl rfl rfl ?_
      refine WL.set 12 rfl (oT (v := (decide (97 ≤ c)) && (decide (c ≤ 122))) hb) ?_
      exact WL.end_ (KX.go hK_3' ⟨rfl, rfl, trivial⟩)
    · refine WL.set 5 rfl (congrArg Value.bool hb) ?_
      refine WL.val (OV.move rfl) rfl rfl rfl ?_
      refine WL.val (OV.geq rfl rfl) rfl rfl rfl ?_
      refine WL.val (OV.move rfl) rfl rfl rfl ?_
      refine WL.cut 3 [(0, Value.int .u8 c), (5, Value.bool false), (11, Value.bool ((decide (97 ≤ c)) && (decide (c ≤ 122))))] ?_ (fun K0_2' hK_2' => ?_)
      rotate_left
      · refine WL.split (decide (97 ≤ c)) (fun hb => ?_) (fun hb => ?_)
        · refine WL.set 8 rfl (congrArg Value.bool hb) ?_
          refine WL.val (OV.move rfl) rfl rfl rfl ?_
          refine WL.val (OV.leq rfl rfl) rfl rfl rfl ?_
          refine WL.val (OV.pickT rfl rfl) rfl rfl rfl ?_
          refine WL.set 11 rfl (bT (v := decide (c ≤ 122)) hb) ?_
          exact WL.end_ (KX.go hK_2' ⟨rfl, rfl, rfl, trivial⟩)
        · refine WL.set 8 rfl (congrArg Value.bool hb) ?_
          refine WL.skip rfl rfl rfl ?_
          refine WL.skip rfl rfl rfl ?_
          refine WL.val (OV.pickF rfl rfl) rfl rfl rfl ?_
          refine WL.set 11 rfl (bF (v := decide (c ≤ 122)) hb) ?_
          exact WL.end_ (KX.go hK_2' ⟨rfl, rfl, rfl, trivial⟩)
      refine WL.val (OV.pickF rfl rfl) rfl rfl rfl ?_
      refine WL.set 12 rfl (oF (v := (decide (97 ≤ c)) && (decide (c ≤ 122))) hb) ?_
      exact WL.end_ (KX.go hK_3' ⟨rfl, rfl, trivial⟩)
  refine WL.val (OV.move rfl) rfl rfl rfl ?_
  refine WL.cut 7 [(20, Value.bool (((decide (c = 95)) || ((decide (97 ≤ c)) && (decide (c ≤ 122)))) || ((decide (65 ≤ c)) && (decide (c ≤ 90)))))] ?_ (fun K0_5' hK_5' => ?_)
  rotate_left
  · refine WL.split ((decide (c = 95)) || ((decide (97 ≤ c)) && (decide (c ≤ 122)))) (fun hb => ?_) (fun hb => ?_)
    · refine WL.set 13 rfl (congrArg Value.bool hb) ?_
      refine WL.skip rfl rfl rfl ?_
      refine WL.skip rfl rfl rfl ?_
      refine WL.skip rfl rfl rfl ?_
      refine WL.skip rfl rfl rfl ?_
      refine WL.skip rfl rfl rfl ?_
      refine WL.skip rfl rfl rfl ?_
      refine WL.val (OV.pickT rfl rfl) rfl rfl rfl ?_
      refine WL.set 20 rfl (oT (v := (decide (65 ≤ c)) && (decide (c ≤ 90))) hb) ?_
      exact WL.end_ (KX.go hK_5' ⟨rfl, trivial⟩)
    · refine WL.set 13 rfl (congrArg Value.bool hb) ?_
      refine WL.val (OV.move rfl) rfl rfl rfl ?_
      refine WL.val (OV.geq rfl rfl) rfl rfl rfl ?_
      refine WL.val (OV.move rfl) rfl rfl rfl ?_
      refine WL.cut 3 [(13, Value.bool false), (19, Value.bool ((decide (65 ≤ c)) && (decide (c ≤ 90))))] ?_ (fun K0_4' hK_4' => ?_)
      rotate_left
      · refine WL.split (decide (65 ≤ c)) (fun hb => ?_) (fun hb => ?_)
        · refine WL.set 16 rfl (congrArg Value.bool hb) ?_
          refine WL.val (OV.move rfl) rfl rfl rfl ?_
          refine WL.val (OV.leq rfl rfl) rfl rfl rfl ?_
          refine WL.val (OV.pickT rfl rfl) rfl rfl rfl ?_
          refine WL.set 19 rfl (bT (v := decide (c ≤ 90)) hb) ?_
          exact WL.end_ (KX.go hK_4' ⟨rfl, rfl, trivial⟩)
        · refine WL.set 16 rfl (congrArg Value.bool hb) ?_
          refine WL.skip rfl rfl rfl ?_
          refine WL.skip rfl rfl rfl ?_
          refine WL.val (OV.pickF rfl rfl) rfl rfl rfl ?_
          refine WL.set 19 rfl (bF (v := decide (c ≤ 90)) hb) ?_
          exact WL.end_ (KX.go hK_4' ⟨rfl, rfl, trivial⟩)
      refine WL.val (OV.pickF rfl rfl) rfl rfl rfl ?_
      refine WL.set 20 rfl (oF (v := (decide (65 ≤ c)) && (decide (c ≤ 90))) hb) ?_
      exact WL.end_ (KX.go hK_5' ⟨rfl, trivial⟩)
  refine WL.val (OV.assign rfl) rfl rfl rfl ?_
  refine WL.nil ?_
  refine KX.go (hK_1' [(2, Value.bool (((decide (c = 95)) || ((decide (97 ≤ c)) && (decide (c ≤ 122)))) || ((decide (65 ≤ c)) && (decide (c ≤ 90)))))] _ ?_) ⟨rfl, trivial⟩
  refine wc_ret ?_
  exact hE.ret [] rfl rfl (.inl ⟨_, h, rfl⟩) (ResV.of1 rfl (RV.tmp rfl))

def tokdigit_vc (c : Int) (K : Bool → Prop) : Prop :=
  K ((decide (48 ≤ c)) && (decide (c ≤ 57)))
set_option maxRecDepth 100000 in
theorem tokdigit_wp  (c : Int) (K : Bool → Prop) (h : tokdigit_vc c K) :
    Does Tryd.prog 24 [Value.int .u8 c] [] [] (fun o => (∃ (v : Bool), K v ∧ o = .ret (Value.bool v) []) ∨ (False)) := by
  unfold tokdigit_vc at h
  refine does_of_wc (n := 9) (L0 := [(0, Value.int .u8 c)]) Tryd.func24 rfl rfl rfl rfl (fun w0 M Q hE => ?_)
  refine wc_seq (fun K0 hK => ?_)
  refine wc_region ?_
  refine WL.val (OV.assign rfl) rfl rfl rfl ?_
  refine WL.nil ?_
  refine KX.go (hK [(0, Value.int .u8 c)] _ ?_) ⟨rfl, trivial⟩
  refine wc_seq (fun K0_1' hK_1' => ?_)
  refine wc_region ?_
  refine WL.val (OV.move rfl) rfl rfl rfl ?_
  refine WL.val (OV.geq rfl rfl) rfl rfl rfl ?_
  refine WL.val (OV.move rfl) rfl rfl rfl ?_
  refine WL.cut 3 [(8, Value.bool ((decide (48 ≤ c)) && (decide (c ≤ 57))))] ?_ (fun K0_2' hK_2' => ?_)
  rotate_left
  · refine WL.split (decide (48 ≤ c)) (fun hb => ?_) (fun hb => ?_)
    · refine WL.set 5 rfl (congrArg Value.bool hb) ?_
      refine WL.val (OV.move rfl) rfl rfl rfl ?_
      refine WL.val (OV.leq rfl rfl) rfl rfl rfl ?_
      refine WL.val (OV.pickT rfl rfl) rfl rfl rfl ?_
      refine WL.set 8 rfl (bT (v := decide (c ≤ 57)) hb) ?_
      exact WL.end_ (KX.go hK_2' ⟨rfl, trivial⟩)
    · refine WL.set 5 rfl (congrArg Value.bool hb) ?_
      refine WL.skip rfl rfl rfl ?_
      refine WL.skip rfl rfl rfl ?_
      refine WL.val (OV.pickF rfl rfl) rfl rfl rfl ?_
      refine WL.set 8 rfl (bF (v := decide (c ≤ 57)) hb) ?_
      exact WL.end_ (KX.go hK_2' ⟨rfl, trivial⟩)
  refine WL.val (OV.assign rfl) rfl rfl rfl ?_
  refine WL.nil ?_
  refine KX.go (hK_1' [(2, Value.bool ((decide (48 ≤ c)) && (decide (c ≤ 57))))] _ ?_) ⟨rfl, trivial⟩
  refine wc_ret ?_
  exact hE.ret [] rfl rfl (.inl ⟨_, h, rfl⟩) (ResV.of1 rfl (RV.tmp rfl))

def tokprintable_vc (c : Int) (K : Bool → Prop) : Prop :=
  K ((decide (32 ≤ c)) && (decide (c ≤ 126)))
set_option maxRecDepth 100000 in
theorem tokprintable_wp  (c : Int) (K : Bool → Prop) (h : tokprintable_vc c K) :
    Does Tryd.prog 36 [Value.int .u8 c] [] [] (fun o => (∃ (v : Bool), K v ∧ o = .ret (Value.bool v) []) ∨ (False)) := by
  unfold tokprintable_vc at h
  refine does_of_wc (n := 9) (L0 := [(0, Value.int .u8 c)]) Tryd.func36 rfl rfl rfl rfl (fun w0 M Q hE => ?_)
  refine wc_seq (fun K0 hK => ?_)
  refine wc_region ?_
  refine WL.val (OV.assign rfl) rfl rfl rfl ?_
  refine WL.nil ?_
  refine KX.go (hK [(0, Value.int .u8 c)] _ ?_) ⟨rfl, trivial⟩
  refine wc_seq (fun K0_1' hK_1' => ?_)
  refine wc_region ?_
  refine WL.val (OV.move rfl) rfl rfl rfl ?_
  refine WL.val (OV.geq rfl rfl) rfl rfl rfl ?_
  refine WL.val (OV.move rfl) rfl rfl rfl ?_
  refine WL.cut 3 [(8, Value.bool ((decide (32 ≤ c)) && (decide (c ≤ 126))))] ?_ (fun K0_2' hK_2' => ?_)
  rotate_left
  · refine WL.split (decide (32 ≤ c)) (fun hb => ?_) (fun hb => ?_)
    · refine WL.set 5 rfl (congrArg Value.bool hb) ?_
      refine WL.val (OV.move rfl) rfl rfl rfl ?_
      refine WL.val (OV.leq rfl rfl) rfl rfl rfl ?_
      refine WL.val (OV.pickT rfl rfl) rfl rfl rfl ?_
      refine WL.set 8 rfl (bT (v := decide (c ≤ 126)) hb) ?_
      exact WL.end_ (KX.go hK_2' ⟨rfl, trivial⟩)
    · refine WL.set 5 rfl (congrArg Value.bool hb) ?_
      refine WL.skip rfl rfl rfl ?_
      refine WL.skip rfl rfl rfl ?_
      refine WL.val (OV.pickF rfl rfl) rfl rfl rfl ?_
      refine WL.set 8 rfl (bF (v := decide (c ≤ 126)) hb) ?_
      exact WL.end_ (KX.go hK_2' ⟨rfl, trivial⟩)
  refine WL.val (OV.assign rfl) rfl rfl rfl ?_
  refine WL.nil ?_
  refine KX.go (hK_1' [(2, Value.bool ((decide (32 ≤ c)) && (decide (c ≤ 126))))] _ ?_) ⟨rfl, trivial⟩
  refine wc_ret ?_
  exact hE.ret [] rfl rfl (.inl ⟨_, h, rfl⟩) (ResV.of1 rfl (RV.tmp rfl))

def ended_vc (s_0 : List UInt8) (s_1 : Int) (_ : Value) (_ : Int) (_ : Int) (_ : List UInt8) (K : Bool → Prop) : Prop :=
  K (decide ((s_0.length : Int) ≤ s_1))
set_option maxRecDepth 100000 in
theorem ended_wp (b : Nat) (s_0 : List UInt8) (s_1 : Int) (s_2 : Value) (s_3 : Int) (s_4 : Int) (s_5 : List UInt8) (K : Bool → Prop) (h : ended_vc s_0 s_1 s_2 s_3 s_4 s_5 K) :
    Does Tryd.prog 14 [Value.pointer (some ⟨b, 0, none⟩)] [(b, .cells [st s_0, Value.int .i64 s_1, s_2, Value.int .i64 s_3, Value.int .i64 s_4, st s_5].toArray 43 (0, 0))] [] (fun o => (∃ (v : Bool), K v ∧ o = .ret (Value.bool v) []) ∨ (False)) := by
  unfold ended_vc at h
  refine does_of_wc (n := 13) (L0 := [(0, Value.pointer (some ⟨b, 0, none⟩))]) Tryd.func14 rfl rfl rfl rfl (fun w0 M Q hE => ?_)
  refine wc_seq (fun K0 hK => ?_)
  refine wc_region ?_
  refine WL.val (OV.assign rfl) rfl rfl rfl ?_
  refine WL.nil ?_
  refine KX.go (hK [(0, Value.pointer (some ⟨b, 0, none⟩))] _ ?_) ⟨rfl, trivial⟩
  refine wc_seq (fun K0_1' hK_1' => ?_)
  refine wc_draw 9 [] tf_mixed (by kernel_rfl) rfl (fun T hT => ?_)
  refine FL.val (fun _ => OV.move rfl) rfl (fun _ => rfl) rfl rfl ?_
  refine FL.val (fun _ => OV.nilCheck rfl) rfl (fun _ => rfl) rfl rfl ?_
  refine FL.val (fun _ => OV.fieldAddr0 rfl tf_field_43_1) rfl (fun _ => rfl) rfl rfl ?_
  refine FL.val (fun _ => OV.load rfl (At.ro 0 rfl) rfl tf_scal_3) rfl (fun _ => rfl) rfl rfl ?_
  refine FL.val (fun _ => OV.move rfl) rfl (fun _ => rfl) rfl rfl ?_
  refine FL.val (fun _ => OV.nilCheck rfl) rfl (fun _ => rfl) rfl rfl ?_
  refine FL.val (fun _ => OV.fieldAddr0 rfl tf_field_43_0) rfl (fun _ => rfl) rfl rfl ?_
  refine FL.val (fun _ => OV.load rfl (At.ro 0 rfl) rfl tf_scal_9) rfl (fun _ => rfl) rfl rfl ?_
  refine FL.val (fun _ => OV.len rfl tf_str_9) rfl (fun _ => rfl) rfl rfl ?_
  refine FL.weak (L' := fun γ => [(6, Value.int .i64 s_1), (11, Value.int .i64 (s_0.length : Int))]) (fun γ => ⟨rfl, rfl, trivial⟩) (FL.nil (hT (fun γ => [(6, Value.int .i64 s_1), (11, Value.int .i64 (s_0.length : Int))]) (fun γ => ?_)))
  refine WL.val (OV.geq rfl rfl) rfl rfl rfl ?_
  refine WL.val (OV.assign rfl) rfl rfl rfl ?_
  refine WL.nil ?_
  refine KX.go (hK_1' [(2, Value.bool (decide ((s_0.length : Int) ≤ s_1)))] _ ?_) ⟨rfl, trivial⟩
  refine wc_ret ?_
  exact hE.ret [] rfl rfl (.inl ⟨_, h, rfl⟩) (ResV.of1 rfl (RV.tmp rfl))

def fail_vc (s_0 : List UInt8) (s_1 : Int) (s_2 : Value) (_ : Int) (_ : Int) (_ : List UInt8) (code : Int) (at0 : Int) (K : Bool → (List UInt8) → Int → Value → Int → Int → (List UInt8) → Prop) : Prop :=
  K false s_0 s_1 s_2 code at0 []
set_option maxRecDepth 100000 in
theorem fail_wp (b : Nat) (s_0 : List UInt8) (s_1 : Int) (s_2 : Value) (s_3 : Int) (s_4 : Int) (s_5 : List UInt8) (code : Int) (at0 : Int) (K : Bool → (List UInt8) → Int → Value → Int → Int → (List UInt8) → Prop) (h : fail_vc s_0 s_1 s_2 s_3 s_4 s_5 code at0 K) :
    Does Tryd.prog 25 [Value.pointer (some ⟨b, 0, none⟩), Value.int .i64 code, Value.int .i64 at0] [] [HA.blk b (.cells [st s_0, Value.int .i64 s_1, s_2, Value.int .i64 s_3, Value.int .i64 s_4, st s_5].toArray 43 (0, 0))] (fun o => (∃ (v : Bool) (d_0 : List UInt8) (d_1 : Int) (d_2 : Value) (d_3 : Int) (d_4 : Int) (d_5 : List UInt8), K v d_0 d_1 d_2 d_3 d_4 d_5 ∧ o = .ret (Value.bool v) [HA.blk b (.cells [st d_0, Value.int .i64 d_1, d_2, Value.int .i64 d_3, Value.int .i64 d_4, st d_5].toArray 43 (0, 0))]) ∨ (False)) := by
  unfold fail_vc at h
  refine does_of_wc (n := 13) (L0 := [(0, Value.pointer (some ⟨b, 0, none⟩)), (1, Value.int .i64 code), (2, Value.int .i64 at0)]) Tryd.func25 rfl rfl rfl rfl (fun w0 M Q hE => ?_)
  refine wc_seq (fun K0 hK => ?_)
  refine wc_region ?_
  refine WL.val (OV.assign rfl) rfl rfl rfl ?_
  refine WL.nil ?_
  refine KX.go (hK [(0, Value.pointer (some ⟨b, 0, none⟩)), (1, Value.int .i64 code), (2, Value.int .i64 at0)] _ ?_) ⟨rfl, rfl, rfl, trivial⟩
  refine wc_seq (fun K0_1' hK_1' => ?_)
  refine wc_region ?_
  refine WL.val (OV.move rfl) rfl rfl rfl ?_
  refine WL.val (OV.move rfl) rfl rfl rfl ?_
  refine WL.val (OV.move rfl) rfl rfl rfl ?_
  refine WL.val (OV.build rfl (cs := [Value.int .i64 code, Value.int .i64 at0, st []]) rfl) rfl rfl rfl ?_
  refine WL.val (OV.nilCheck rfl) rfl rfl rfl ?_
  refine WL.val (OV.fieldAddr0 rfl tf_field_43_3) rfl rfl rfl ?_
  refine WL.store (vs := [Value.int .i64 code, Value.int .i64 at0, st []]) (cs' := [st s_0, Value.int .i64 s_1, s_2, Value.int .i64 code, Value.int .i64 at0, st []]) 0 rfl rfl rfl rfl tf_size_25 (Nat.le_of_ble_eq_true rfl) rfl rfl rfl ?_
  refine WL.nil ?_
  refine KX.go (hK_1' [] _ ?_) trivial
  refine wc_seq (fun K0_2' hK_2' => ?_)
  refine wc_region ?_
  refine WL.val (OV.assign rfl) rfl rfl rfl ?_
  refine WL.nil ?_
  refine KX.go (hK_2' [(6, Value.bool false)] _ ?_) ⟨rfl, trivial⟩
  refine wc_ret ?_
  exact hE.ret [0] rfl rfl (.inl ⟨_, _, _, _, _, _, _, h, rfl⟩) (ResV.of1 rfl (RV.tmp rfl))

def add_vc (s_0 : List UInt8) (s_1 : Int) (s_3 : Int) (s_4 : Int) (s_5 : List UInt8) (sl : List Tok) (kind : Int) (from0 : Int) (text : List UInt8) (K : Bool → (List UInt8) → Int → Int → Int → (List UInt8) → (List Tok) → Prop) : Prop :=
  (((sl.length + 1) + (sl.length + 1) / 4 + 192) * 32 ≤ 281474976710656 ∧ sl.length + 1 ≤ 9223372036854775807) ∧
  K true s_0 s_1 s_3 s_4 s_5 (sl ++ [(kind, from0, text)])
set_option maxRecDepth 100000 in
theorem add_wp (b : Nat) (w : Value) (s_0 : List UInt8) (s_1 : Int) (s_3 : Int) (s_4 : Int) (s_5 : List UInt8) (sl : List Tok) (kind : Int) (from0 : Int) (text : List UInt8) (K : Bool → (List UInt8) → Int → Int → Int → (List UInt8) → (List Tok) → Prop) (h : add_vc s_0 s_1 s_3 s_4 s_5 sl kind from0 text K) :
    Does Tryd.prog 16 [Value.pointer (some ⟨b, 0, none⟩), Value.int .i64 kind, Value.int .i64 from0, st text] [] [HA.blk b (.cells [st s_0, Value.int .i64 s_1, w, Value.int .i64 s_3, Value.int .i64 s_4, st s_5].toArray 43 (0, 0)), HA.row w 34 3 sl.length (sl.flatMap tokC)] (fun o => (∃ (v : Bool) (d_1' : List UInt8) (d_2' : Int) (d_3' : Int) (d_4' : Int) (d_5' : List UInt8) (w_2' : Value) (d : List Tok), K v d_1' d_2' d_3' d_4' d_5' d ∧ o = .ret (Value.bool v) [HA.blk b (.cells [st d_1', Value.int .i64 d_2', w_2', Value.int .i64 d_3', Value.int .i64 d_4', st d_5'].toArray 43 (0, 0)), HA.row w_2' 34 3 d.length (d.flatMap tokC)]) ∨ (False)) := by
  unfold add_vc at h
  refine does_of_wc (n := 22) (L0 := [(0, Value.pointer (some ⟨b, 0, none⟩)), (1, Value.int .i64 kind), (2, Value.int .i64 from0), (3, st text)]) Tryd.func16 rfl rfl rfl rfl (fun w0 M Q hE => ?_)
  refine wc_seq (fun K0 hK => ?_)
  refine wc_region ?_
  refine WL.val (OV.assign rfl) rfl rfl rfl ?_
  refine WL.nil ?_
  refine KX.go (hK [(0, Value.pointer (some ⟨b, 0, none⟩)), (1, Value.int .i64 kind), (2, Value.int .i64 from0), (3, st text)] _ ?_) ⟨rfl, rfl, rfl, rfl, trivial⟩
  refine wc_seq (fun K0_1' hK_1' => ?_)
  refine wc_region ?_
  refine WL.val (OV.move rfl) rfl rfl rfl ?_
  refine WL.val (OV.move rfl) rfl rfl rfl ?_
  refine WL.val (OV.nilCheck rfl) rfl rfl rfl ?_
  refine WL.val (OV.fieldAddr0 rfl tf_field_43_2) rfl rfl rfl ?_
  refine WL.val (OV.load rfl (At.own 0 rfl) rfl tf_scal_26) rfl rfl rfl ?_
  refine WL.val (OV.move rfl) rfl rfl rfl ?_
  refine WL.val (OV.move rfl) rfl rfl rfl ?_
  refine WL.val (OV.move rfl) rfl rfl rfl ?_
  refine WL.val (OV.build rfl (cs := [Value.int .i64 kind, Value.int .i64 from0, st text]) rfl) rfl rfl rfl ?_
  refine WL.make (MV.buildSlice (cs := [Value.int .i64 kind, Value.int .i64 from0, st text]) rfl tf_sl_26 (by kernel_rfl)) rfl rfl rfl (fun b_1' => ?_)
  obtain ⟨o, h⟩ := h
  refine WL.append (f := tokC) (ms := [(kind, from0, text)]) 2 0 rfl rfl rfl rfl rfl rfl tokC_len (by decide) rfl tf_sl_26 tf_info_34 rfl o rfl rfl (fun w_1' => ?_)
  refine WL.val (OV.nilCheck rfl) rfl rfl rfl ?_
  refine WL.val (OV.fieldAddr0 rfl tf_field_43_2) rfl rfl rfl ?_
  refine WL.storeSl (cs' := [st s_0, Value.int .i64 s_1, w_1', Value.int .i64 s_3, Value.int .i64 s_4, st s_5]) 1 2 rfl rfl rfl rfl tf_size_26 (Nat.le_of_ble_eq_true rfl) rfl rfl ?_
  refine WL.nil ?_
  refine KX.go (hK_1' [] _ ?_) trivial
  refine wc_seq (fun K0_2' hK_2' => ?_)
  refine wc_region ?_
  refine WL.val (OV.assign rfl) rfl rfl rfl ?_
  refine WL.nil ?_
  refine KX.go (hK_2' [(8, Value.bool true)] _ ?_) ⟨rfl, trivial⟩
  refine wc_ret ?_
  exact hE.ret [1, 2] rfl rfl (.inl ⟨_, _, _, _, _, _, _, _, h, rfl⟩) (ResV.of1 rfl (RV.tmp rfl))

theorem tokletter_does (c : Int) : Does Tryd.prog 23 [.int .u8 c] [] [] (Ret (.bool (letterB c)) []) :=
  (tokletter_wp c (fun r => r = letterB c) rfl).weak (by rintro o (⟨v, rfl, rfl⟩ | h) <;> first | rfl | exact h.elim)
theorem tokdigit_does (c : Int) : Does Tryd.prog 24 [.int .u8 c] [] [] (Ret (.bool (digitB c)) []) :=
  (tokdigit_wp c (fun r => r = digitB c) rfl).weak (by rintro o (⟨v, rfl, rfl⟩ | h) <;> first | rfl | exact h.elim)
theorem tokprintable_does (c : Int) : Does Tryd.prog 36 [.int .u8 c] [] [] (Ret (.bool (printB c)) []) :=
  (tokprintable_wp c (fun r => r = printB c) rfl).weak (by rintro o (⟨v, rfl, rfl⟩ | h) <;> first | rfl | exact h.elim)
/-- The scanner's block. -/
abbrev scB (t : List UInt8) (a : Int) (w : Value) (fc fa : Int) (ft : List UInt8) : Obj := .cells [st t, Value.int .i64 a, w, Value.int .i64 fc, Value.int .i64 fa, st ft].toArray 43 (0, 0)
abbrev tokRow (w : Value) (l : List Tok) : HA := HA.row w 34 3 l.length (l.flatMap tokC)
theorem ended_does (b : Nat) (t : List UInt8) (a : Int) (w : Value) (fc fa : Int) (ft : List UInt8) : Does Tryd.prog 14 [.pointer (some ⟨b, 0, none⟩)] [(b, scB t a w fc fa ft)] [] (Ret (.bool (decide (t.length ≤ a))) []) :=
  (ended_wp b t a w fc fa ft (fun r => r = decide ((t.length : Int) ≤ a)) rfl).weak (by rintro o (⟨v, rfl, rfl⟩ | h) <;> first | rfl | exact h.elim)
theorem fail_does (b : Nat) (t : List UInt8) (a : Int) (w : Value) (fc fa : Int) (ft : List UInt8) (code p : Int) : Does Tryd.prog 25 [.pointer (some ⟨b, 0, none⟩), .int .i64 code, .int .i64 p] [] [.blk b (scB t a w fc fa ft)] (Ret (.bool false) [.blk b (scB t a w code p [])]) :=
  (fail_wp b t a w fc fa ft code p (fun r t' a' w' c' p' x => r = false ∧ t' = t ∧ a' = a ∧ w' = w ∧ c' = code ∧ p' = p ∧ x = []) ⟨rfl, rfl, rfl, rfl, rfl, rfl, rfl⟩).weak (by
    rintro o (⟨_, _, _, _, _, _, _, ⟨rfl, rfl, rfl, rfl, rfl, rfl, rfl⟩, rfl⟩ | h)
    · rfl
    · exact h.elim)
theorem add_does (b : Nat) (t : List UInt8) (a : Int) (w : Value) (fc fa : Int) (ft : List UInt8) (l : List Tok) (k p : Int) (x : List UInt8) (h : l.length ≤ 4096) : Does Tryd.prog 16 [.pointer (some ⟨b, 0, none⟩), .int .i64 k, .int .i64 p, st x] [] [.blk b (scB t a w fc fa ft), tokRow w l]
    (fun o => ∃ w' : Value, o = .ret (.bool true) [.blk b (scB t a w' fc fa ft), tokRow w' (l ++ [(k, p, x)])]) :=
  (add_wp b w t a fc fa ft l k p x (fun r t' a' c' p' x' l' => r = true ∧ t' = t ∧ a' = a ∧ c' = fc ∧ p' = fa ∧ x' = ft ∧ l' = l ++ [(k, p, x)]) ⟨⟨by omega, by omega⟩, rfl, rfl, rfl, rfl, rfl, rfl, rfl⟩).weak (by
    rintro o (hh | h)
    · obtain ⟨_, _, _, _, _, _, w', _, ⟨rfl, rfl, rfl, rfl, rfl, rfl, rfl⟩, rfl⟩ := hh
      exact ⟨w', rfl⟩
    · exact h.elim)

end Go.Proofs.YtlfolgbaageknaaDoor
