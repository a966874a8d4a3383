/-
  Say.
-/
import Derived.Test.YtlfolgbaageknaaDoorPlN
namespace Go.Proofs.YtlfolgbaageknaaDoor
open Go Go.RowKit

theorem tf_field_25_1 : fieldOff Tryd.prog 25 1 = some 1 := by kernel_rfl
theorem tf_ent_6 : entB Tryd.prog 6 = true := by kernel_rfl
theorem tf_field_25_0 : fieldOff Tryd.prog 25 0 = some 0 := by kernel_rfl
theorem tf_ent_10 : entB Tryd.prog 10 = true := by kernel_rfl
theorem tf_field_25_2 : fieldOff Tryd.prog 25 2 = some 2 := by kernel_rfl
theorem tf_ent_11 : entB Tryd.prog 11 = true := by kernel_rfl

def sayHead (t : List UInt8) (code a : Int) : List UInt8 := ((((Lib.itoa (ofL t a).1) ++ ([58] : List UInt8)) ++ (Lib.itoa (ofL t a).2)) ++ ([58, 32] : List UInt8)) ++ (pnameL code)
/-- A fault as a line. -/
def sayL (t : List UInt8) (code a : Int) (w : List UInt8) : List UInt8 := if (w ≠ [] ∨ shownB code = true) then sayHead t code a ++ (([32] : List UInt8) ++ quoteL w) else sayHead t code a
theorem pnameL_len {c : Int} (h : I64 c) : (pnameL c).length ≤ 100 := by
  unfold pnameL
  split
  · rename_i x hx
    have hm := List.mem_of_find?_eq_some hx
    have : ∀ x ∈ nameTab, x.2.length ≤ 100 := by decide
    exact this x hm
  · have := itoa_len h
    rw [List.length_append]
    simp only [List.length_cons, List.length_nil]; omega
theorem ofL_bd (t : List UInt8) (a : Int) : 1 ≤ (ofL t a).1 ∧ (ofL t a).1 ≤ 1 + t.length ∧ 1 ≤ (ofL t a).2 ∧ (ofL t a).2 ≤ 1 + t.length := by
  have hle : clampI t a ≤ t.length := by unfold clampI; omega
  have := posF_bd t (clampI t a) hle
  unfold ofL; omega

def say_vc (text : List UInt8) (f_0 : Int) (f_1 : Int) (f_2 : List UInt8) (K : (List UInt8) → Prop) : Prop :=
  (text.length ≤ 140737488351232) ∧
  (I64 ((ofL text f_1).1)) ∧
  ((Lib.itoa ((ofL text f_1).1)).length + ([58] : List UInt8).length ≤ 9223372036854775807) ∧
  (I64 ((ofL text f_1).2)) ∧
  (((Lib.itoa ((ofL text f_1).1)) ++ ([58] : List UInt8)).length + (Lib.itoa ((ofL text f_1).2)).length ≤ 9223372036854775807) ∧
  ((((Lib.itoa ((ofL text f_1).1)) ++ ([58] : List UInt8)) ++ (Lib.itoa ((ofL text f_1).2))).length + ([58, 32] : List UInt8).length ≤ 9223372036854775807) ∧
  (I64 f_0) ∧
  (((((Lib.itoa ((ofL text f_1).1)) ++ ([58] : List UInt8)) ++ (Lib.itoa ((ofL text f_1).2))) ++ ([58, 32] : List UInt8)).length + (pnameL f_0).length ≤ 9223372036854775807) ∧
  ∃ (J0 : (List UInt8) → Prop),
    (∀ (out : List UInt8), J0 out →
      K out) ∧
    (if ((!decide (f_2 = [])) || (shownB f_0)) = true then
      (f_2.length ≤ 1048576) ∧
      (([32] : List UInt8).length + (quoteL f_2).length ≤ 9223372036854775807) ∧
      ((((((Lib.itoa ((ofL text f_1).1)) ++ ([58] : List UInt8)) ++ (Lib.itoa ((ofL text f_1).2))) ++ ([58, 32] : List UInt8)) ++ (pnameL f_0)).length + (([32] : List UInt8) ++ (quoteL f_2)).length ≤ 9223372036854775807) ∧
      J0 ((((((Lib.itoa ((ofL text f_1).1)) ++ ([58] : List UInt8)) ++ (Lib.itoa ((ofL text f_1).2))) ++ ([58, 32] : List UInt8)) ++ (pnameL f_0)) ++ (([32] : List UInt8) ++ (quoteL f_2)))
    else
      J0 (((((Lib.itoa ((ofL text f_1).1)) ++ ([58] : List UInt8)) ++ (Lib.itoa ((ofL text f_1).2))) ++ ([58, 32] : List UInt8)) ++ (pnameL f_0)))
set_option maxRecDepth 100000 in
theorem say_wp (te : TypeId) (fre : Nat × Nat) (text : List UInt8) (f_0 : Int) (f_1 : Int) (f_2 : List UInt8) (K : (List UInt8) → Prop) (h : say_vc text f_0 f_1 f_2 K) :
    Does Tryd.prog 4 [st text, Value.agg [Value.int .i64 f_0, Value.int .i64 f_1, st f_2].toArray] [(1, .cells [Value.int .u64 1, Value.int .u64 10, Value.int .u64 100, Value.int .u64 1000, Value.int .u64 10000, Value.int .u64 100000, Value.int .u64 1000000, Value.int .u64 10000000, Value.int .u64 100000000, Value.int .u64 1000000000, Value.int .u64 10000000000, Value.int .u64 100000000000, Value.int .u64 1000000000000, Value.int .u64 10000000000000, Value.int .u64 100000000000000, Value.int .u64 1000000000000000, Value.int .u64 10000000000000000, Value.int .u64 100000000000000000, Value.int .u64 1000000000000000000, Value.int .u64 10000000000000000000].toArray te fre)] [] (fun o => (∃ (v : List UInt8), K v ∧ o = .ret (st v) []) ∨ (False)) := by
  unfold say_vc at h
  refine does_of_wc (n := 41) (L0 := [(0, st text), (1, Value.agg [Value.int .i64 f_0, Value.int .i64 f_1, st f_2].toArray)]) Tryd.func4 rfl rfl rfl rfl (fun w0 M Q hE => ?_)
  refine wc_seq (fun K0 hK => ?_)
  refine wc_region ?_
  refine WL.make (MV.box (cs := [Value.int .i64 f_0, Value.int .i64 f_1, st f_2]) rfl rfl) rfl rfl rfl (fun b => ?_)
  refine WL.val (OV.assign rfl) rfl rfl rfl ?_
  refine WL.nil ?_
  refine KX.go (hK [(0, st text), (3, Value.pointer (some ⟨b, 0, none⟩))] _ ?_) ⟨rfl, rfl, trivial⟩
  refine wc_seq (fun K0_1' hK_1' => ?_)
  refine wc_region ?_
  refine WL.val (OV.move rfl) rfl rfl rfl ?_
  refine WL.val (OV.fieldAddr0 rfl tf_field_25_1) rfl rfl rfl ?_
  refine WL.val (OV.load rfl (At.own 0 rfl) rfl tf_scal_3) rfl rfl rfl ?_
  obtain ⟨o, h⟩ := h
  refine WL.call (A := []) tf_ent_6 rfl (of_does text f_1 o) rfl trivial rfl rfl ?_
  refine WL.val (OV.move rfl) rfl rfl rfl ?_
  refine WL.val (OV.extract 0 rfl rfl) rfl rfl rfl ?_
  refine WL.val (OV.extract 1 rfl rfl) rfl rfl rfl ?_
  refine WL.val (OV.assign rfl) rfl rfl rfl ?_
  refine WL.val (OV.assign rfl) rfl rfl rfl ?_
  refine WL.nil ?_
  refine KX.go (hK_1' [(3, Value.pointer (some ⟨b, 0, none⟩)), (5, Value.int .i64 ((ofL text f_1).1)), (6, Value.int .i64 ((ofL text f_1).2))] _ ?_) ⟨rfl, rfl, rfl, trivial⟩
  refine wc_seq (fun K0_2' hK_2' => ?_)
  refine wc_draw 10 [] tf_mixed (by kernel_rfl) rfl (fun T hT => ?_)
  refine FL.val (fun _ => OV.move rfl) rfl (fun _ => rfl) rfl rfl ?_
  obtain ⟨o_1', h⟩ := h
  refine FL.call tf_ent_9 (fun _ => rfl) (itoa_does te fre ((ofL text f_1).1) o_1') ⟨.inr (List.mem_of_getElem? (i := 0) rfl), trivial⟩ rfl (fun _ => rfl) rfl ?_
  obtain ⟨o_2', h⟩ := h
  refine FL.val (fun _ => OV.cat rfl rfl o_2') rfl (fun _ => rfl) rfl rfl ?_
  refine FL.val (fun _ => OV.move rfl) rfl (fun _ => rfl) rfl rfl ?_
  obtain ⟨o_3', h⟩ := h
  refine FL.call tf_ent_9 (fun _ => rfl) (itoa_does te fre ((ofL text f_1).2) o_3') ⟨.inr (List.mem_of_getElem? (i := 0) rfl), trivial⟩ rfl (fun _ => rfl) rfl ?_
  obtain ⟨o_4', h⟩ := h
  refine FL.val (fun _ => OV.cat rfl rfl o_4') rfl (fun _ => rfl) rfl rfl ?_
  obtain ⟨o_5', h⟩ := h
  refine FL.val (fun _ => OV.cat rfl rfl o_5') rfl (fun _ => rfl) rfl rfl ?_
  refine FL.val (fun _ => OV.fieldAddr0 rfl tf_field_25_0) rfl (fun _ => rfl) rfl rfl ?_
  refine FL.val (fun _ => OV.load rfl (At.own 0 rfl) rfl tf_scal_23) rfl (fun _ => rfl) rfl rfl ?_
  obtain ⟨o_6', h⟩ := h
  refine FL.call tf_ent_10 (fun _ => rfl) (name_does te fre f_0 o_6') ⟨.inr (List.mem_of_getElem? (i := 0) rfl), trivial⟩ rfl (fun _ => rfl) rfl ?_
  refine FL.weak (L' := fun γ => [(3, Value.pointer (some ⟨b, 0, none⟩)), (21, st ((((Lib.itoa ((ofL text f_1).1)) ++ ([58] : List UInt8)) ++ (Lib.itoa ((ofL text f_1).2))) ++ ([58, 32] : List UInt8))), (24, st (pnameL f_0))]) (fun γ => ⟨rfl, rfl, rfl, trivial⟩) (FL.nil (hT (fun γ => [(3, Value.pointer (some ⟨b, 0, none⟩)), (21, st ((((Lib.itoa ((ofL text f_1).1)) ++ ([58] : List UInt8)) ++ (Lib.itoa ((ofL text f_1).2))) ++ ([58, 32] : List UInt8))), (24, st (pnameL f_0))]) (fun γ => ?_)))
  obtain ⟨o_7', h⟩ := h
  refine WL.val (OV.cat rfl rfl o_7') rfl rfl rfl ?_
  refine WL.val (OV.assign rfl) rfl rfl rfl ?_
  refine WL.nil ?_
  refine KX.go (hK_2' [(3, Value.pointer (some ⟨b, 0, none⟩)), (7, st (((((Lib.itoa ((ofL text f_1).1)) ++ ([58] : List UInt8)) ++ (Lib.itoa ((ofL text f_1).2))) ++ ([58, 32] : List UInt8)) ++ (pnameL f_0)))] _ ?_) ⟨rfl, rfl, trivial⟩
  obtain ⟨J0, hJ, h⟩ := h
  refine wc_seqJ (X := (List UInt8)) (fun σ => J0 σ) (fun σ => [(7, st σ)]) (fun σ => []) ?_ (fun K0_5' hK_5' => ?_)
  · rintro out hj
    replace h := hJ out hj
    show WC _ _ _ _ [(7, st out)] []
    refine wc_seq (fun K0_6' hK_6' => ?_)
    refine wc_region ?_
    refine WL.val (OV.move rfl) rfl rfl rfl ?_
    refine WL.val (OV.assign rfl) rfl rfl rfl ?_
    refine WL.nil ?_
    refine KX.go (hK_6' [(4, st out)] _ ?_) ⟨rfl, trivial⟩
    refine wc_ret ?_
    exact hE.ret [] rfl rfl (.inl ⟨_, h, rfl⟩) (ResV.of1 rfl (RV.tmp rfl))
  · skip
    refine wc_seq (fun K0_7' hK_7' => ?_)
    refine wc_region ?_
    refine WL.val (OV.fieldAddr0 rfl tf_field_25_2) rfl rfl rfl ?_
    refine WL.val (OV.load rfl (At.own 0 rfl) rfl tf_scal_9) rfl rfl rfl ?_
    refine WL.val (OV.neqS rfl rfl) rfl rfl rfl ?_
    refine WL.val (OV.move rfl) rfl rfl rfl ?_
    refine WL.cut 4 [(3, Value.pointer (some ⟨b, 0, none⟩)), (7, st (((((Lib.itoa ((ofL text f_1).1)) ++ ([58] : List UInt8)) ++ (Lib.itoa ((ofL text f_1).2))) ++ ([58, 32] : List UInt8)) ++ (pnameL f_0))), (33, Value.bool ((!decide (f_2 = [])) || (shownB f_0)))] ?_ (fun K0_8' hK_8' => ?_)
    rotate_left
    · refine WL.split (!decide (f_2 = [])) (fun hb => ?_) (fun hb => ?_)
      · refine WL.set 29 rfl (congrArg Value.bool hb) ?_
        refine WL.skip rfl rfl rfl ?_
        refine WL.skip rfl rfl rfl ?_
        refine WL.skip rfl rfl rfl ?_
        refine WL.val (OV.pickT rfl rfl) rfl rfl rfl ?_
        refine WL.set 33 rfl (oT (v := shownB f_0) hb) ?_
        exact WL.end_ (KX.go hK_8' ⟨rfl, rfl, rfl, trivial⟩)
      · refine WL.set 29 rfl (congrArg Value.bool hb) ?_
        refine WL.val (OV.fieldAddr0 rfl tf_field_25_0) rfl rfl rfl ?_
        refine WL.val (OV.load rfl (At.own 0 rfl) rfl tf_scal_23) rfl rfl rfl ?_
        refine WL.call (A := []) tf_ent_11 rfl (shown_does f_0) rfl trivial rfl rfl ?_
        refine WL.val (OV.pickF rfl rfl) rfl rfl rfl ?_
        refine WL.set 33 rfl (oF (v := shownB f_0) hb) ?_
        exact WL.end_ (KX.go hK_8' ⟨rfl, rfl, rfl, trivial⟩)
    refine WL.nil ?_
    refine KX.go (hK_7' [(3, Value.pointer (some ⟨b, 0, none⟩)), (7, st (((((Lib.itoa ((ofL text f_1).1)) ++ ([58] : List UInt8)) ++ (Lib.itoa ((ofL text f_1).2))) ++ ([58, 32] : List UInt8)) ++ (pnameL f_0))), (33, Value.bool ((!decide (f_2 = [])) || (shownB f_0)))] _ ?_) ⟨rfl, rfl, rfl, trivial⟩
    refine wc_cond (b := (!decide (f_2 = [])) || (shownB f_0)) rfl (fun hb => ?_) (fun hb => ?_)
    · replace h := if_T h hb
      refine wc_region ?_
      refine WL.val (OV.move rfl) rfl rfl rfl ?_
      refine WL.val (OV.fieldAddr0 rfl tf_field_25_2) rfl rfl rfl ?_
      refine WL.val (OV.load rfl (At.own 0 rfl) rfl tf_scal_9) rfl rfl rfl ?_
      obtain ⟨o_13', h⟩ := h
      refine WL.call (A := []) tf_ent_12 rfl (quote_does f_2 o_13') rfl trivial rfl rfl ?_
      obtain ⟨o_14', h⟩ := h
      refine WL.val (OV.cat rfl rfl o_14') rfl rfl rfl ?_
      obtain ⟨o_15', h⟩ := h
      refine WL.val (OV.cat rfl rfl o_15') rfl rfl rfl ?_
      refine WL.val (OV.assign rfl) rfl rfl rfl ?_
      refine WL.nil ?_
      exact KX.goH (hK_5' ((((((Lib.itoa ((ofL text f_1).1)) ++ ([58] : List UInt8)) ++ (Lib.itoa ((ofL text f_1).2))) ++ ([58, 32] : List UInt8)) ++ (pnameL f_0)) ++ (([32] : List UInt8) ++ (quoteL f_2))) h) ⟨rfl, trivial⟩ [] rfl rfl
    · replace h := if_F h hb
      refine wc_skip ?_
      exact KX.goH (hK_5' (((((Lib.itoa ((ofL text f_1).1)) ++ ([58] : List UInt8)) ++ (Lib.itoa ((ofL text f_1).2))) ++ ([58, 32] : List UInt8)) ++ (pnameL f_0)) h) ⟨rfl, trivial⟩ [] rfl rfl

theorem say_ok (t : List UInt8) (code a : Int) (w : List UInt8) (h : t.length ≤ 140737488351232 ∧ I64 code ∧ I64 a ∧ w.length ≤ 1048576) : say_vc t code a w (fun r => r = sayL t code a w) := by
  obtain ⟨ht, hc, ha, hw⟩ := h
  have hb := ofL_bd t a
  have i1 : I64 (ofL t a).1 := ⟨by omega, by omega⟩
  have i2 : I64 (ofL t a).2 := ⟨by omega, by omega⟩
  have l1 := itoa_len i1
  have l2 := itoa_len i2
  have l3 := pnameL_len hc
  have l4 := quoteL_len w
  unfold say_vc
  refine ⟨ht, i1, ?_, i2, ?_, ?_, hc, ?_, fun r => r = sayL t code a w, fun r hr => hr, ?_⟩
  · simp only [List.length_cons, List.length_nil]; omega
  · simp only [List.length_append, List.length_cons, List.length_nil]; omega
  · simp only [List.length_append, List.length_cons, List.length_nil]; omega
  · simp only [List.length_append, List.length_cons, List.length_nil]; omega
  · unfold sayL
    by_cases hx : w ≠ [] ∨ shownB code = true
    · rw [if_pos (by simpa using hx), if_pos hx]
      refine ⟨hw, ?_, ?_, rfl⟩
      · simp only [List.length_cons, List.length_nil]; omega
      · simp only [List.length_append, List.length_cons, List.length_nil]; omega
    · rw [if_neg (by simpa using hx), if_neg hx]; rfl
theorem say_does (te : TypeId) (fre : Nat × Nat) (t : List UInt8) (code a : Int) (w : List UInt8) (h : t.length ≤ 140737488351232 ∧ I64 code ∧ I64 a ∧ w.length ≤ 1048576) : Does Tryd.prog 4 [st t, .agg [Value.int .i64 code, Value.int .i64 a, st w].toArray] [(1, .cells powCells.toArray te fre)] [] (Ret (st (sayL t code a w)) []) :=
  (say_wp te fre t code a w (fun r => r = sayL t code a w) (say_ok t code a w h)).weak (by rintro o (⟨v, rfl, rfl⟩ | h) <;> first | rfl | exact h.elim)

theorem small_digits (n : Nat) (h : n < 10) : Lib.decDigits n = [UInt8.ofNat (48 + n)] := by rw [Lib.decDigits, dif_pos h]
theorem speaks_say : sayL [97, 10, 98, 99] 70 3 [] = [50, 58, 50, 58, 32, 117, 110, 107, 110, 111, 119, 110, 32, 110, 97, 109, 101] := by
  have h1 : ofL [97, 10, 98, 99] 3 = (2, 2) := rfl
  have h2 : pnameL 70 = [117, 110, 107, 110, 111, 119, 110, 32, 110, 97, 109, 101] := rfl
  have h3 : Lib.itoa 2 = [50] := by
    unfold Lib.itoa
    rw [if_neg (by decide), show (2 : Int).toNat = 2 from rfl, small_digits 2 (by decide)]; rfl
  unfold sayL
  rw [if_neg (by simp [shownB])]
  unfold sayHead
  rw [h1, h2]
  simp only [h3]; rfl

end Go.Proofs.YtlfolgbaageknaaDoor
