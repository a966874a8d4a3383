/-
  The laws of layer 11.
-/
import Derived.Test.YtiaafdjdppganaaDoorPlS
namespace Go.Proofs.YtiaafdjdppganaaDoor
open Go Go.RowKit

theorem tf_ent_11 : entB Tryd.prog 11 = true := by kernel_rfl
theorem tf_ent_18 : entB Tryd.prog 18 = true := by kernel_rfl
theorem tf_ent_19 : entB Tryd.prog 19 = true := by kernel_rfl
theorem tf_arr_40 : arrB Tryd.prog 40 3 2 1 = true := by kernel_rfl
theorem tf_size_29 : sizeB Tryd.prog 29 1 = true := by kernel_rfl
theorem tf_row_33 : RowT Tryd.prog 33 3 := ⟨by kernel_rfl, by kernel_rfl⟩
theorem tf_ent_17 : entB Tryd.prog 17 = true := by kernel_rfl

def lofs_vc (text : List UInt8) (at0 : Int) (K : Bool → Prop) : Prop :=
  (text.length ≤ 140737488351232) ∧
  (text.length ≤ 140737488351232) ∧
  K ((decide ((ofL text at0).1 = (ofL text at0).1)) && (decide ((ofL text at0).2 = (ofL text at0).2)))
set_option maxRecDepth 100000 in
theorem lofs_wp (te : TypeId) (fre : Nat × Nat) (text : List UInt8) (at0 : Int) (K : Bool → Prop) (h : lofs_vc text at0 K) :
    Does Tryd.prog 3 [st text, Value.int .i64 at0] [(1, .cells [Value.int .u64 1, Value.int .u64 10, Value.int .u64 100, Value.int .u64 1000, Value.int .u64 10000, Value.int .u64 100000, Value.int .u64 1000000, Value.int .u64 10000000, Value.int .u64 100000000, Value.int .u64 1000000000, Value.int .u64 10000000000, Value.int .u64 100000000000, Value.int .u64 1000000000000, Value.int .u64 10000000000000, Value.int .u64 100000000000000, Value.int .u64 1000000000000000, Value.int .u64 10000000000000000, Value.int .u64 100000000000000000, Value.int .u64 1000000000000000000, Value.int .u64 10000000000000000000].toArray te fre)] [] (fun o => (∃ (v : Bool), K v ∧ o = .ret (Value.bool v) []) ∨ (False)) := by
  unfold lofs_vc at h
  refine does_of_wc (n := 32) (L0 := [(0, st text), (1, Value.int .i64 at0)]) Tryd.func3 rfl rfl rfl rfl (fun w0 M Q hE => ?_)
  refine wc_seq (fun K0 hK => ?_)
  refine wc_region ?_
  refine WL.val (OV.assign rfl) rfl rfl rfl ?_
  refine WL.nil ?_
  refine KX.go (hK [(0, st text), (1, Value.int .i64 at0)] _ ?_) ⟨rfl, rfl, trivial⟩
  refine wc_seq (fun K0_1' hK_1' => ?_)
  refine wc_region ?_
  refine WL.val (OV.move rfl) rfl rfl rfl ?_
  refine WL.val (OV.move rfl) rfl rfl rfl ?_
  obtain ⟨o, h⟩ := h
  refine WL.call (A := []) tf_ent_9 rfl (of_does text at0 o) rfl trivial rfl rfl ?_
  refine WL.val (OV.move rfl) rfl rfl rfl ?_
  refine WL.val (OV.extract 0 rfl rfl) rfl rfl rfl ?_
  refine WL.val (OV.extract 1 rfl rfl) rfl rfl rfl ?_
  refine WL.val (OV.assign rfl) rfl rfl rfl ?_
  refine WL.val (OV.assign rfl) rfl rfl rfl ?_
  refine WL.nil ?_
  refine KX.go (hK_1' [(0, st text), (1, Value.int .i64 at0), (5, Value.int .i64 ((ofL text at0).1)), (6, Value.int .i64 ((ofL text at0).2))] _ ?_) ⟨rfl, rfl, rfl, rfl, trivial⟩
  refine wc_seq (fun K0_2' hK_2' => ?_)
  refine wc_region ?_
  refine WL.val (OV.move rfl) rfl rfl rfl ?_
  refine WL.val (OV.move rfl) rfl rfl rfl ?_
  obtain ⟨o_1', h⟩ := h
  refine WL.call (A := []) tf_ent_10 rfl (rof_does text at0 o_1') rfl trivial rfl rfl ?_
  refine WL.val (OV.move rfl) rfl rfl rfl ?_
  refine WL.val (OV.extract 0 rfl rfl) rfl rfl rfl ?_
  refine WL.val (OV.extract 1 rfl rfl) rfl rfl rfl ?_
  refine WL.val (OV.assign rfl) rfl rfl rfl ?_
  refine WL.val (OV.assign rfl) rfl rfl rfl ?_
  refine WL.nil ?_
  refine KX.go (hK_2' [(5, Value.int .i64 ((ofL text at0).1)), (6, Value.int .i64 ((ofL text at0).2)), (7, Value.int .i64 ((ofL text at0).1)), (8, Value.int .i64 ((ofL text at0).2))] _ ?_) ⟨rfl, rfl, rfl, rfl, trivial⟩
  refine wc_seq (fun K0_3' hK_3' => ?_)
  refine wc_region ?_
  refine WL.call (A := []) tf_ent_11 rfl (speaks_does te fre) rfl ⟨.inr (List.mem_of_getElem? (i := 0) rfl), trivial⟩ rfl rfl ?_
  refine WL.val (OV.move rfl) rfl rfl rfl ?_
  refine WL.val (OV.move rfl) rfl rfl rfl ?_
  refine WL.val (OV.move rfl) rfl rfl rfl ?_
  refine WL.val (OV.eql rfl rfl) rfl rfl rfl ?_
  refine WL.val (OV.pickT rfl rfl) rfl rfl rfl ?_
  refine WL.val (OV.move rfl) rfl rfl rfl ?_
  refine WL.cut 4 [(31, Value.bool ((decide ((ofL text at0).1 = (ofL text at0).1)) && (decide ((ofL text at0).2 = (ofL text at0).2))))] ?_ (fun K0_4' hK_4' => ?_)
  rotate_left
  · refine WL.split (decide ((ofL text at0).1 = (ofL text at0).1)) (fun hb => ?_) (fun hb => ?_)
    · refine WL.set 27 rfl (congrArg Value.bool hb) ?_
      refine WL.val (OV.move rfl) rfl rfl rfl ?_
      refine WL.val (OV.move rfl) rfl rfl rfl ?_
      refine WL.val (OV.eql rfl rfl) rfl rfl rfl ?_
      refine WL.val (OV.pickT rfl rfl) rfl rfl rfl ?_
      refine WL.set 31 rfl (bT (v := decide ((ofL text at0).2 = (ofL text at0).2)) hb) ?_
      exact WL.end_ (KX.go hK_4' ⟨rfl, trivial⟩)
    · refine WL.set 27 rfl (congrArg Value.bool hb) ?_
      refine WL.skip rfl rfl rfl ?_
      refine WL.skip rfl rfl rfl ?_
      refine WL.skip rfl rfl rfl ?_
      refine WL.val (OV.pickF rfl rfl) rfl rfl rfl ?_
      refine WL.set 31 rfl (bF (v := decide ((ofL text at0).2 = (ofL text at0).2)) hb) ?_
      exact WL.end_ (KX.go hK_4' ⟨rfl, trivial⟩)
  refine WL.val (OV.assign rfl) rfl rfl rfl ?_
  refine WL.nil ?_
  refine KX.go (hK_3' [(4, Value.bool ((decide ((ofL text at0).1 = (ofL text at0).1)) && (decide ((ofL text at0).2 = (ofL text at0).2))))] _ ?_) ⟨rfl, trivial⟩
  refine wc_ret ?_
  exact hE.ret [] rfl rfl (.inl ⟨_, h, rfl⟩) (ResV.of1 rfl (RV.tmp rfl))

def loffsets_vc (text : List UInt8) (line : Int) (col : Int) (K : Bool → Prop) : Prop :=
  (text.length ≤ 140737488351232 ∧ I64 line ∧ I64 col) ∧
  (text.length ≤ 140737488351232 ∧ I64 line ∧ I64 col) ∧
  K ((decide ((offL text line col).1 = (offL text line col).1)) && (((offL text line col).2) == ((offL text line col).2)))
set_option maxRecDepth 100000 in
theorem loffsets_wp (te : TypeId) (fre : Nat × Nat) (text : List UInt8) (line : Int) (col : Int) (K : Bool → Prop) (h : loffsets_vc text line col K) :
    Does Tryd.prog 7 [st text, Value.int .i64 line, Value.int .i64 col] [(1, .cells [Value.int .u64 1, Value.int .u64 10, Value.int .u64 100, Value.int .u64 1000, Value.int .u64 10000, Value.int .u64 100000, Value.int .u64 1000000, Value.int .u64 10000000, Value.int .u64 100000000, Value.int .u64 1000000000, Value.int .u64 10000000000, Value.int .u64 100000000000, Value.int .u64 1000000000000, Value.int .u64 10000000000000, Value.int .u64 100000000000000, Value.int .u64 1000000000000000, Value.int .u64 10000000000000000, Value.int .u64 100000000000000000, Value.int .u64 1000000000000000000, Value.int .u64 10000000000000000000].toArray te fre)] [] (fun o => (∃ (v : Bool), K v ∧ o = .ret (Value.bool v) []) ∨ (False)) := by
  unfold loffsets_vc at h
  refine does_of_wc (n := 36) (L0 := [(0, st text), (1, Value.int .i64 line), (2, Value.int .i64 col)]) Tryd.func7 rfl rfl rfl rfl (fun w0 M Q hE => ?_)
  refine wc_seq (fun K0 hK => ?_)
  refine wc_region ?_
  refine WL.val (OV.assign rfl) rfl rfl rfl ?_
  refine WL.nil ?_
  refine KX.go (hK [(0, st text), (1, Value.int .i64 line), (2, Value.int .i64 col)] _ ?_) ⟨rfl, rfl, rfl, trivial⟩
  refine wc_seq (fun K0_1' hK_1' => ?_)
  refine wc_region ?_
  refine WL.val (OV.move rfl) rfl rfl rfl ?_
  refine WL.val (OV.move rfl) rfl rfl rfl ?_
  refine WL.val (OV.move rfl) rfl rfl rfl ?_
  obtain ⟨o, h⟩ := h
  refine WL.call (A := []) tf_ent_18 rfl (offset_does text line col o) rfl trivial rfl rfl ?_
  refine WL.val (OV.move rfl) rfl rfl rfl ?_
  refine WL.val (OV.extract 0 rfl rfl) rfl rfl rfl ?_
  refine WL.val (OV.extract 1 rfl rfl) rfl rfl rfl ?_
  refine WL.val (OV.assign rfl) rfl rfl rfl ?_
  refine WL.val (OV.assign rfl) rfl rfl rfl ?_
  refine WL.nil ?_
  refine KX.go (hK_1' [(0, st text), (1, Value.int .i64 line), (2, Value.int .i64 col), (7, Value.int .i64 ((offL text line col).1)), (8, Value.bool ((offL text line col).2))] _ ?_) ⟨rfl, rfl, rfl, rfl, rfl, trivial⟩
  refine wc_seq (fun K0_2' hK_2' => ?_)
  refine wc_region ?_
  refine WL.val (OV.move rfl) rfl rfl rfl ?_
  refine WL.val (OV.move rfl) rfl rfl rfl ?_
  refine WL.val (OV.move rfl) rfl rfl rfl ?_
  obtain ⟨o_1', h⟩ := h
  refine WL.call (A := []) tf_ent_19 rfl (roffset_does text line col o_1') rfl trivial rfl rfl ?_
  refine WL.val (OV.move rfl) rfl rfl rfl ?_
  refine WL.val (OV.extract 0 rfl rfl) rfl rfl rfl ?_
  refine WL.val (OV.extract 1 rfl rfl) rfl rfl rfl ?_
  refine WL.val (OV.assign rfl) rfl rfl rfl ?_
  refine WL.val (OV.assign rfl) rfl rfl rfl ?_
  refine WL.nil ?_
  refine KX.go (hK_2' [(7, Value.int .i64 ((offL text line col).1)), (8, Value.bool ((offL text line col).2)), (9, Value.int .i64 ((offL text line col).1)), (10, Value.bool ((offL text line col).2))] _ ?_) ⟨rfl, rfl, rfl, rfl, trivial⟩
  refine wc_seq (fun K0_3' hK_3' => ?_)
  refine wc_region ?_
  refine WL.call (A := []) tf_ent_11 rfl (speaks_does te fre) rfl ⟨.inr (List.mem_of_getElem? (i := 0) rfl), trivial⟩ rfl rfl ?_
  refine WL.val (OV.move rfl) rfl rfl rfl ?_
  refine WL.val (OV.move rfl) rfl rfl rfl ?_
  refine WL.val (OV.move rfl) rfl rfl rfl ?_
  refine WL.val (OV.eql rfl rfl) rfl rfl rfl ?_
  refine WL.val (OV.pickT rfl rfl) rfl rfl rfl ?_
  refine WL.val (OV.move rfl) rfl rfl rfl ?_
  refine WL.cut 4 [(35, Value.bool ((decide ((offL text line col).1 = (offL text line col).1)) && (((offL text line col).2) == ((offL text line col).2))))] ?_ (fun K0_4' hK_4' => ?_)
  rotate_left
  · refine WL.split (decide ((offL text line col).1 = (offL text line col).1)) (fun hb => ?_) (fun hb => ?_)
    · refine WL.set 31 rfl (congrArg Value.bool hb) ?_
      refine WL.val (OV.move rfl) rfl rfl rfl ?_
      refine WL.val (OV.move rfl) rfl rfl rfl ?_
      refine WL.val (OV.eqlB rfl rfl Tryd.underlying4) rfl rfl rfl ?_
      refine WL.val (OV.pickT rfl rfl) rfl rfl rfl ?_
      refine WL.set 35 rfl (bT (v := ((offL text line col).2) == ((offL text line col).2)) hb) ?_
      exact WL.end_ (KX.go hK_4' ⟨rfl, trivial⟩)
    · refine WL.set 31 rfl (congrArg Value.bool hb) ?_
      refine WL.skip rfl rfl rfl ?_
      refine WL.skip rfl rfl rfl ?_
      refine WL.skip rfl rfl rfl ?_
      refine WL.val (OV.pickF rfl rfl) rfl rfl rfl ?_
      refine WL.set 35 rfl (bF (v := ((offL text line col).2) == ((offL text line col).2)) hb) ?_
      exact WL.end_ (KX.go hK_4' ⟨rfl, trivial⟩)
  refine WL.val (OV.assign rfl) rfl rfl rfl ?_
  refine WL.nil ?_
  refine KX.go (hK_3' [(6, Value.bool ((decide ((offL text line col).1 = (offL text line col).1)) && (((offL text line col).2) == ((offL text line col).2))))] _ ?_) ⟨rfl, trivial⟩
  refine wc_ret ?_
  exact hE.ret [] rfl rfl (.inl ⟨_, h, rfl⟩) (ResV.of1 rfl (RV.tmp rfl))

def lback_vc (text : List UInt8) (at0 : Int) (want_0 : Int) (want_1 : Int) (K : Bool → Prop) : Prop :=
  ∃ (J0 : Int → Prop),
    (∀ (at0_1' : Int), J0 at0_1' →
      (text.length ≤ 140737488351232) ∧
      (text.length ≤ 140737488351232 ∧ I64 ((ofL text at0_1').1) ∧ I64 ((ofL text at0_1').2)) ∧
      (if ((!((offL text ((ofL text at0_1').1) ((ofL text at0_1').2)).2)) || (!decide ((offL text ((ofL text at0_1').1) ((ofL text at0_1').2)).1 = at0_1'))) = true then
        K false
      else
        ∃ (J0_1' : Prop),
          (∀ (_ : Unit), J0_1' →
            (text.length ≤ 140737488351232 ∧ I64 want_0 ∧ I64 want_1) ∧
            (if (!((offL text want_0 want_1).2)) = true then
              K (decide ((offL text want_0 want_1).1 = 0))
            else
              (text.length ≤ 140737488351232) ∧
              K ((((decide (0 ≤ (offL text want_0 want_1).1)) && (decide ((offL text want_0 want_1).1 ≤ (text.length : Int)))) && (decide ((ofL text ((offL text want_0 want_1).1)).1 = want_0))) && (decide ((ofL text ((offL text want_0 want_1).1)).2 = want_1))))) ∧
          (if (decide (at0_1' < (text.length : Int))) = true then
            (I64 (at0_1' + 1)) ∧
            (text.length ≤ 140737488351232) ∧
            (0 ≤ at0_1' ∧ at0_1' < text.length) ∧
            ((decide (((text.getD at0_1'.toNat 0).toNat : Int) = 10)) = true → (I64 (((ofL text at0_1').1) + 1))) ∧
            (if ((decide (((text.getD at0_1'.toNat 0).toNat : Int) = 10)) && ((!decide ((ofL text (at0_1' + 1)).1 = ((ofL text at0_1').1) + 1)) || (!decide ((ofL text (at0_1' + 1)).2 = 1)))) = true then
              K false
            else
              (0 ≤ at0_1' ∧ at0_1' < text.length) ∧
              ((!decide (((text.getD at0_1'.toNat 0).toNat : Int) = 10)) = true → ((!decide ((ofL text (at0_1' + 1)).1 = (ofL text at0_1').1)) = false → (I64 (((ofL text at0_1').2) + 1)))) ∧
              (if ((!decide (((text.getD at0_1'.toNat 0).toNat : Int) = 10)) && ((!decide ((ofL text (at0_1' + 1)).1 = (ofL text at0_1').1)) || (!decide ((ofL text (at0_1' + 1)).2 = ((ofL text at0_1').2) + 1)))) = true then
                K false
              else
                J0_1'))
          else
            J0_1'))) ∧
    (if ((decide (at0 < 0)) || (decide ((text.length : Int) < at0))) = true then
      J0 (text.length : Int)
    else
      J0 at0)
set_option maxRecDepth 100000 in
theorem lback_wp (te : TypeId) (fre : Nat × Nat) (text : List UInt8) (at0 : Int) (want_0 : Int) (want_1 : Int) (K : Bool → Prop) (h : lback_vc text at0 want_0 want_1 K) :
    Does Tryd.prog 8 [st text, Value.int .i64 at0, Value.agg [Value.int .i64 want_0, Value.int .i64 want_1].toArray] [(1, .cells [Value.int .u64 1, Value.int .u64 10, Value.int .u64 100, Value.int .u64 1000, Value.int .u64 10000, Value.int .u64 100000, Value.int .u64 1000000, Value.int .u64 10000000, Value.int .u64 100000000, Value.int .u64 1000000000, Value.int .u64 10000000000, Value.int .u64 100000000000, Value.int .u64 1000000000000, Value.int .u64 10000000000000, Value.int .u64 100000000000000, Value.int .u64 1000000000000000, Value.int .u64 10000000000000000, Value.int .u64 100000000000000000, Value.int .u64 1000000000000000000, Value.int .u64 10000000000000000000].toArray te fre)] [] (fun o => (∃ (v : Bool), K v ∧ o = .ret (Value.bool v) []) ∨ (False)) := by
  unfold lback_vc at h
  refine does_of_wc (n := 130) (L0 := [(0, st text), (1, Value.int .i64 at0), (2, Value.agg [Value.int .i64 want_0, Value.int .i64 want_1].toArray)]) Tryd.func8 rfl rfl rfl rfl (fun w0 M Q hE => ?_)
  refine wc_seq (fun K0 hK => ?_)
  refine wc_region ?_
  refine WL.make (MV.box (cs := [Value.int .i64 want_0, Value.int .i64 want_1]) rfl rfl) rfl rfl rfl (fun b => ?_)
  refine WL.val (OV.assign rfl) rfl rfl rfl ?_
  refine WL.nil ?_
  refine KX.go (hK [(0, st text), (1, Value.int .i64 at0), (5, Value.pointer (some ⟨b, 0, none⟩))] _ ?_) ⟨rfl, rfl, rfl, trivial⟩
  refine wc_seq (fun K0_1' hK_1' => ?_)
  refine wc_seq (fun K0_2' hK_2' => ?_)
  refine wc_region ?_
  refine WL.call (A := []) tf_ent_11 rfl (speaks_does te fre) rfl ⟨.inr (List.mem_of_getElem? (i := 0) rfl), trivial⟩ rfl rfl ?_
  refine WL.val (OV.not rfl) rfl rfl rfl ?_
  refine WL.nil ?_
  refine KX.go (hK_2' [(0, st text), (1, Value.int .i64 at0), (5, Value.pointer (some ⟨b, 0, none⟩)), (20, Value.bool false)] _ ?_) ⟨rfl, rfl, rfl, rfl, trivial⟩
  refine wc_condF rfl ?_
  refine wc_skip ?_
  refine KX.go (hK_1' [(0, st text), (1, Value.int .i64 at0), (5, Value.pointer (some ⟨b, 0, none⟩))] _ ?_) ⟨rfl, rfl, rfl, trivial⟩
  refine wc_seq (fun K0_3' hK_3' => ?_)
  refine wc_draw 5 [] tf_mixed (by kernel_rfl) rfl (fun T hT => ?_)
  refine FL.val (fun _ => OV.indexAddr rfl rfl tf_arr_40 (by decide) rfl) rfl (fun _ => rfl) rfl rfl ?_
  refine FL.val (fun _ => OV.load rfl (At.own 0 rfl) rfl tf_scal_3) rfl (fun _ => rfl) rfl rfl ?_
  refine FL.val (fun _ => OV.indexAddr rfl rfl tf_arr_40 (by decide) rfl) rfl (fun _ => rfl) rfl rfl ?_
  refine FL.val (fun _ => OV.load rfl (At.own 0 rfl) rfl tf_scal_3) rfl (fun _ => rfl) rfl rfl ?_
  refine FL.val (fun _ => OV.assign rfl) rfl (fun _ => rfl) rfl rfl ?_
  refine FL.weak (L' := fun γ => [(0, st text), (1, Value.int .i64 at0), (7, Value.int .i64 want_0), (24, Value.int .i64 want_1)]) (fun γ => ⟨rfl, rfl, rfl, rfl, trivial⟩) (FL.nil (hT (fun γ => [(0, st text), (1, Value.int .i64 at0), (7, Value.int .i64 want_0), (24, Value.int .i64 want_1)]) (fun γ => ?_)))
  refine WL.val (OV.assign rfl) rfl rfl rfl ?_
  refine WL.nil ?_
  refine KX.go (hK_3' [(0, st text), (1, Value.int .i64 at0), (7, Value.int .i64 want_0), (8, Value.int .i64 want_1)] _ ?_) ⟨rfl, rfl, rfl, rfl, trivial⟩
  obtain ⟨J0, hJ, h⟩ := h
  refine wc_seqJ (X := Int) (fun σ => J0 σ) (fun σ => [(0, st text), (1, Value.int .i64 σ), (7, Value.int .i64 want_0), (8, Value.int .i64 want_1)]) (fun σ => []) ?_ (fun K0_6' hK_6' => ?_)
  · rintro at0_1' hj
    replace h := hJ at0_1' hj
    show WC _ _ _ _ [(0, st text), (1, Value.int .i64 at0_1'), (7, Value.int .i64 want_0), (8, Value.int .i64 want_1)] []
    refine wc_seq (fun K0_7' hK_7' => ?_)
    refine wc_region ?_
    refine WL.val (OV.move rfl) rfl rfl rfl ?_
    refine WL.val (OV.move rfl) rfl rfl rfl ?_
    obtain ⟨o_1', h⟩ := h
    refine WL.call (A := []) tf_ent_9 rfl (of_does text at0_1' o_1') rfl trivial rfl rfl ?_
    refine WL.val (OV.move rfl) rfl rfl rfl ?_
    refine WL.val (OV.extract 0 rfl rfl) rfl rfl rfl ?_
    refine WL.val (OV.extract 1 rfl rfl) rfl rfl rfl ?_
    refine WL.val (OV.assign rfl) rfl rfl rfl ?_
    refine WL.val (OV.assign rfl) rfl rfl rfl ?_
    refine WL.nil ?_
    refine KX.go (hK_7' [(0, st text), (1, Value.int .i64 at0_1'), (7, Value.int .i64 want_0), (8, Value.int .i64 want_1), (9, Value.int .i64 ((ofL text at0_1').1)), (10, Value.int .i64 ((ofL text at0_1').2))] _ ?_) ⟨rfl, rfl, rfl, rfl, rfl, rfl, trivial⟩
    refine wc_seq (fun K0_8' hK_8' => ?_)
    refine wc_region ?_
    refine WL.val (OV.move rfl) rfl rfl rfl ?_
    refine WL.val (OV.move rfl) rfl rfl rfl ?_
    refine WL.val (OV.move rfl) rfl rfl rfl ?_
    obtain ⟨o_2', h⟩ := h
    refine WL.call (A := []) tf_ent_18 rfl (offset_does text ((ofL text at0_1').1) ((ofL text at0_1').2) o_2') rfl trivial rfl rfl ?_
    refine WL.val (OV.move rfl) rfl rfl rfl ?_
    refine WL.val (OV.extract 0 rfl rfl) rfl rfl rfl ?_
    refine WL.val (OV.extract 1 rfl rfl) rfl rfl rfl ?_
    refine WL.val (OV.assign rfl) rfl rfl rfl ?_
    refine WL.val (OV.assign rfl) rfl rfl rfl ?_
    refine WL.nil ?_
    refine KX.go (hK_8' [(0, st text), (1, Value.int .i64 at0_1'), (7, Value.int .i64 want_0), (8, Value.int .i64 want_1), (9, Value.int .i64 ((ofL text at0_1').1)), (10, Value.int .i64 ((ofL text at0_1').2)), (11, Value.int .i64 ((offL text ((ofL text at0_1').1) ((ofL text at0_1').2)).1)), (12, Value.bool ((offL text ((ofL text at0_1').1) ((ofL text at0_1').2)).2))] _ ?_) ⟨rfl, rfl, rfl, rfl, rfl, rfl, rfl, rfl, trivial⟩
    refine wc_seq (fun K0_9' hK_9' => ?_)
    refine wc_seq (fun K0_10' hK_10' => ?_)
    refine wc_region ?_
    refine WL.val (OV.move rfl) rfl rfl rfl ?_
    refine WL.val (OV.not rfl) rfl rfl rfl ?_
    refine WL.val (OV.move rfl) rfl rfl rfl ?_
    refine WL.cut 4 [(0, st text), (1, Value.int .i64 at0_1'), (7, Value.int .i64 want_0), (8, Value.int .i64 want_1), (9, Value.int .i64 ((ofL text at0_1').1)), (10, Value.int .i64 ((ofL text at0_1').2)), (54, Value.bool ((!((offL text ((ofL text at0_1').1) ((ofL text at0_1').2)).2)) || (!decide ((offL text ((ofL text at0_1').1) ((ofL text at0_1').2)).1 = at0_1'))))] ?_ (fun K0_11' hK_11' => ?_)
    rotate_left
    · refine WL.split (!((offL text ((ofL text at0_1').1) ((ofL text at0_1').2)).2)) (fun hb => ?_) (fun hb => ?_)
      · refine WL.set 50 rfl (congrArg Value.bool hb) ?_
        refine WL.skip rfl rfl rfl ?_
        refine WL.skip rfl rfl rfl ?_
        refine WL.skip rfl rfl rfl ?_
        refine WL.val (OV.pickT rfl rfl) rfl rfl rfl ?_
        refine WL.set 54 rfl (oT (v := !decide ((offL text ((ofL text at0_1').1) ((ofL text at0_1').2)).1 = at0_1')) hb) ?_
        exact WL.end_ (KX.go hK_11' ⟨rfl, rfl, rfl, rfl, rfl, rfl, rfl, trivial⟩)
      · refine WL.set 50 rfl (congrArg Value.bool hb) ?_
        refine WL.val (OV.move rfl) rfl rfl rfl ?_
        refine WL.val (OV.move rfl) rfl rfl rfl ?_
        refine WL.val (OV.neq rfl rfl) rfl rfl rfl ?_
        refine WL.val (OV.pickF rfl rfl) rfl rfl rfl ?_
        refine WL.set 54 rfl (oF (v := !decide ((offL text ((ofL text at0_1').1) ((ofL text at0_1').2)).1 = at0_1')) hb) ?_
        exact WL.end_ (KX.go hK_11' ⟨rfl, rfl, rfl, rfl, rfl, rfl, rfl, trivial⟩)
    refine WL.nil ?_
    refine KX.go (hK_10' [(0, st text), (1, Value.int .i64 at0_1'), (7, Value.int .i64 want_0), (8, Value.int .i64 want_1), (9, Value.int .i64 ((ofL text at0_1').1)), (10, Value.int .i64 ((ofL text at0_1').2)), (54, Value.bool ((!((offL text ((ofL text at0_1').1) ((ofL text at0_1').2)).2)) || (!decide ((offL text ((ofL text at0_1').1) ((ofL text at0_1').2)).1 = at0_1'))))] _ ?_) ⟨rfl, rfl, rfl, rfl, rfl, rfl, rfl, trivial⟩
    refine wc_cond (b := (!((offL text ((ofL text at0_1').1) ((ofL text at0_1').2)).2)) || (!decide ((offL text ((ofL text at0_1').1) ((ofL text at0_1').2)).1 = at0_1'))) rfl (fun hb => ?_) (fun hb => ?_)
    · replace h := if_T h hb
      refine wc_seq (fun K0_12' hK_12' => ?_)
      refine wc_region ?_
      refine WL.val (OV.assign rfl) rfl rfl rfl ?_
      refine WL.nil ?_
      refine KX.go (hK_12' [(6, Value.bool false)] _ ?_) ⟨rfl, trivial⟩
      refine wc_ret ?_
      exact hE.ret [] rfl rfl (.inl ⟨_, h, rfl⟩) (ResV.of1 rfl (RV.tmp rfl))
    · replace h := if_F h hb
      refine wc_skip ?_
      refine KX.go (hK_9' [(0, st text), (1, Value.int .i64 at0_1'), (7, Value.int .i64 want_0), (8, Value.int .i64 want_1), (9, Value.int .i64 ((ofL text at0_1').1)), (10, Value.int .i64 ((ofL text at0_1').2))] _ ?_) ⟨rfl, rfl, rfl, rfl, rfl, rfl, trivial⟩
      obtain ⟨J0_1', hJ_1', h⟩ := h
      refine wc_seqJ (X := Unit) (fun _ => J0_1') (fun _ => [(0, st text), (7, Value.int .i64 want_0), (8, Value.int .i64 want_1)]) (fun _ => []) ?_ (fun K0_24' hK_24' => ?_)
      · rintro _ hj
        replace h := hJ_1' () hj
        show WC _ _ _ _ [(0, st text), (7, Value.int .i64 want_0), (8, Value.int .i64 want_1)] []
        refine wc_seq (fun K0_25' hK_25' => ?_)
        refine wc_region ?_
        refine WL.val (OV.move rfl) rfl rfl rfl ?_
        refine WL.val (OV.move rfl) rfl rfl rfl ?_
        refine WL.val (OV.move rfl) rfl rfl rfl ?_
        obtain ⟨o_14', h⟩ := h
        refine WL.call (A := []) tf_ent_18 rfl (offset_does text want_0 want_1 o_14') rfl trivial rfl rfl ?_
        refine WL.val (OV.move rfl) rfl rfl rfl ?_
        refine WL.val (OV.extract 0 rfl rfl) rfl rfl rfl ?_
        refine WL.val (OV.extract 1 rfl rfl) rfl rfl rfl ?_
        refine WL.val (OV.assign rfl) rfl rfl rfl ?_
        refine WL.val (OV.assign rfl) rfl rfl rfl ?_
        refine WL.nil ?_
        refine KX.go (hK_25' [(0, st text), (7, Value.int .i64 want_0), (8, Value.int .i64 want_1), (15, Value.int .i64 ((offL text want_0 want_1).1)), (16, Value.bool ((offL text want_0 want_1).2))] _ ?_) ⟨rfl, rfl, rfl, rfl, rfl, trivial⟩
        refine wc_seq (fun K0_26' hK_26' => ?_)
        refine wc_seq (fun K0_27' hK_27' => ?_)
        refine wc_region ?_
        refine WL.val (OV.move rfl) rfl rfl rfl ?_
        refine WL.val (OV.not rfl) rfl rfl rfl ?_
        refine WL.nil ?_
        refine KX.go (hK_27' [(0, st text), (7, Value.int .i64 want_0), (8, Value.int .i64 want_1), (15, Value.int .i64 ((offL text want_0 want_1).1)), (103, Value.bool (!((offL text want_0 want_1).2)))] _ ?_) ⟨rfl, rfl, rfl, rfl, rfl, trivial⟩
        refine wc_cond (b := !((offL text want_0 want_1).2)) rfl (fun hb => ?_) (fun hb => ?_)
        · replace h := if_T h hb
          refine wc_seq (fun K0_28' hK_28' => ?_)
          refine wc_region ?_
          refine WL.val (OV.move rfl) rfl rfl rfl ?_
          refine WL.val (OV.eql rfl rfl) rfl rfl rfl ?_
          refine WL.val (OV.assign rfl) rfl rfl rfl ?_
          refine WL.nil ?_
          refine KX.go (hK_28' [(6, Value.bool (decide ((offL text want_0 want_1).1 = 0)))] _ ?_) ⟨rfl, trivial⟩
          refine wc_ret ?_
          exact hE.ret [] rfl rfl (.inl ⟨_, h, rfl⟩) (ResV.of1 rfl (RV.tmp rfl))
        · replace h := if_F h hb
          refine wc_skip ?_
          refine KX.go (hK_26' [(0, st text), (7, Value.int .i64 want_0), (8, Value.int .i64 want_1), (15, Value.int .i64 ((offL text want_0 want_1).1))] _ ?_) ⟨rfl, rfl, rfl, rfl, trivial⟩
          refine wc_seq (fun K0_29' hK_29' => ?_)
          refine wc_region ?_
          refine WL.val (OV.move rfl) rfl rfl rfl ?_
          refine WL.val (OV.move rfl) rfl rfl rfl ?_
          obtain ⟨o_15', h⟩ := h
          refine WL.call (A := []) tf_ent_9 rfl (of_does text ((offL text want_0 want_1).1) o_15') rfl trivial rfl rfl ?_
          refine WL.val (OV.move rfl) rfl rfl rfl ?_
          refine WL.val (OV.extract 0 rfl rfl) rfl rfl rfl ?_
          refine WL.val (OV.extract 1 rfl rfl) rfl rfl rfl ?_
          refine WL.val (OV.assign rfl) rfl rfl rfl ?_
          refine WL.val (OV.assign rfl) rfl rfl rfl ?_
          refine WL.nil ?_
          refine KX.go (hK_29' [(0, st text), (7, Value.int .i64 want_0), (8, Value.int .i64 want_1), (15, Value.int .i64 ((offL text want_0 want_1).1)), (17, Value.int .i64 ((ofL text ((offL text want_0 want_1).1)).1)), (18, Value.int .i64 ((ofL text ((offL text want_0 want_1).1)).2))] _ ?_) ⟨rfl, rfl, rfl, rfl, rfl, rfl, trivial⟩
          refine wc_seq (fun K0_30' hK_30' => ?_)
          refine wc_region ?_
          refine WL.val (OV.move rfl) rfl rfl rfl ?_
          refine WL.val (OV.geq rfl rfl) rfl rfl rfl ?_
          refine WL.val (OV.move rfl) rfl rfl rfl ?_
          refine WL.cut 5 [(7, Value.int .i64 want_0), (8, Value.int .i64 want_1), (17, Value.int .i64 ((ofL text ((offL text want_0 want_1).1)).1)), (18, Value.int .i64 ((ofL text ((offL text want_0 want_1).1)).2)), (119, Value.bool ((decide (0 ≤ (offL text want_0 want_1).1)) && (decide ((offL text want_0 want_1).1 ≤ (text.length : Int)))))] ?_ (fun K0_31' hK_31' => ?_)
          rotate_left
          · refine WL.split (decide (0 ≤ (offL text want_0 want_1).1)) (fun hb => ?_) (fun hb => ?_)
            · refine WL.set 114 rfl (congrArg Value.bool hb) ?_
              refine WL.val (OV.move rfl) rfl rfl rfl ?_
              refine WL.val (OV.move rfl) rfl rfl rfl ?_
              refine WL.val (OV.len rfl tf_str_9) rfl rfl rfl ?_
              refine WL.val (OV.leq rfl rfl) rfl rfl rfl ?_
              refine WL.val (OV.pickT rfl rfl) rfl rfl rfl ?_
              refine WL.set 119 rfl (bT (v := decide ((offL text want_0 want_1).1 ≤ (text.length : Int))) hb) ?_
              exact WL.end_ (KX.go hK_31' ⟨rfl, rfl, rfl, rfl, rfl, trivial⟩)
            · refine WL.set 114 rfl (congrArg Value.bool hb) ?_
              refine WL.skip rfl rfl rfl ?_
              refine WL.skip rfl rfl rfl ?_
              refine WL.skip rfl rfl rfl ?_
              refine WL.skip rfl rfl rfl ?_
              refine WL.val (OV.pickF rfl rfl) rfl rfl rfl ?_
              refine WL.set 119 rfl (bF (v := decide ((offL text want_0 want_1).1 ≤ (text.length : Int))) hb) ?_
              exact WL.end_ (KX.go hK_31' ⟨rfl, rfl, rfl, rfl, rfl, trivial⟩)
          refine WL.val (OV.move rfl) rfl rfl rfl ?_
          refine WL.cut 4 [(8, Value.int .i64 want_1), (18, Value.int .i64 ((ofL text ((offL text want_0 want_1).1)).2)), (124, Value.bool (((decide (0 ≤ (offL text want_0 want_1).1)) && (decide ((offL text want_0 want_1).1 ≤ (text.length : Int)))) && (decide ((ofL text ((offL text want_0 want_1).1)).1 = want_0))))] ?_ (fun K0_32' hK_32' => ?_)
          rotate_left
          · refine WL.split ((decide (0 ≤ (offL text want_0 want_1).1)) && (decide ((offL text want_0 want_1).1 ≤ (text.length : Int)))) (fun hb => ?_) (fun hb => ?_)
            · refine WL.set 120 rfl (congrArg Value.bool hb) ?_
              refine WL.val (OV.move rfl) rfl rfl rfl ?_
              refine WL.val (OV.move rfl) rfl rfl rfl ?_
              refine WL.val (OV.eql rfl rfl) rfl rfl rfl ?_
              refine WL.val (OV.pickT rfl rfl) rfl rfl rfl ?_
              refine WL.set 124 rfl (bT (v := decide ((ofL text ((offL text want_0 want_1).1)).1 = want_0)) hb) ?_
              exact WL.end_ (KX.go hK_32' ⟨rfl, rfl, rfl, trivial⟩)
            · refine WL.set 120 rfl (congrArg Value.bool hb) ?_
              refine WL.skip rfl rfl rfl ?_
              refine WL.skip rfl rfl rfl ?_
              refine WL.skip rfl rfl rfl ?_
              refine WL.val (OV.pickF rfl rfl) rfl rfl rfl ?_
              refine WL.set 124 rfl (bF (v := decide ((ofL text ((offL text want_0 want_1).1)).1 = want_0)) hb) ?_
              exact WL.end_ (KX.go hK_32' ⟨rfl, rfl, rfl, trivial⟩)
          refine WL.val (OV.move rfl) rfl rfl rfl ?_
          refine WL.cut 4 [(129, Value.bool ((((decide (0 ≤ (offL text want_0 want_1).1)) && (decide ((offL text want_0 want_1).1 ≤ (text.length : Int)))) && (decide ((ofL text ((offL text want_0 want_1).1)).1 = want_0))) && (decide ((ofL text ((offL text want_0 want_1).1)).2 = want_1))))] ?_ (fun K0_33' hK_33' => ?_)
          rotate_left
          · refine WL.split (((decide (0 ≤ (offL text want_0 want_1).1)) && (decide ((offL text want_0 want_1).1 ≤ (text.length : Int)))) && (decide ((ofL text ((offL text want_0 want_1).1)).1 = want_0))) (fun hb => ?_) (fun hb => ?_)
            · refine WL.set 125 rfl (congrArg Value.bool hb) ?_
              refine WL.val (OV.move rfl) rfl rfl rfl ?_
              refine WL.val (OV.move rfl) rfl rfl rfl ?_
              refine WL.val (OV.eql rfl rfl) rfl rfl rfl ?_
              refine WL.val (OV.pickT rfl rfl) rfl rfl rfl ?_
              refine WL.set 129 rfl (bT (v := decide ((ofL text ((offL text want_0 want_1).1)).2 = want_1)) hb) ?_
              exact WL.end_ (KX.go hK_33' ⟨rfl, trivial⟩)
            · refine WL.set 125 rfl (congrArg Value.bool hb) ?_
              refine WL.skip rfl rfl rfl ?_
              refine WL.skip rfl rfl rfl ?_
              refine WL.skip rfl rfl rfl ?_
              refine WL.val (OV.pickF rfl rfl) rfl rfl rfl ?_
              refine WL.set 129 rfl (bF (v := decide ((ofL text ((offL text want_0 want_1).1)).2 = want_1)) hb) ?_
              exact WL.end_ (KX.go hK_33' ⟨rfl, trivial⟩)
          refine WL.val (OV.assign rfl) rfl rfl rfl ?_
          refine WL.nil ?_
          refine KX.go (hK_30' [(6, Value.bool ((((decide (0 ≤ (offL text want_0 want_1).1)) && (decide ((offL text want_0 want_1).1 ≤ (text.length : Int)))) && (decide ((ofL text ((offL text want_0 want_1).1)).1 = want_0))) && (decide ((ofL text ((offL text want_0 want_1).1)).2 = want_1))))] _ ?_) ⟨rfl, trivial⟩
          refine wc_ret ?_
          exact hE.ret [] rfl rfl (.inl ⟨_, h, rfl⟩) (ResV.of1 rfl (RV.tmp rfl))
      · skip
        refine wc_seq (fun K0_34' hK_34' => ?_)
        refine wc_region ?_
        refine WL.val (OV.move rfl) rfl rfl rfl ?_
        refine WL.val (OV.move rfl) rfl rfl rfl ?_
        refine WL.val (OV.len rfl tf_str_9) rfl rfl rfl ?_
        refine WL.val (OV.lss rfl rfl) rfl rfl rfl ?_
        refine WL.nil ?_
        refine KX.go (hK_34' [(0, st text), (1, Value.int .i64 at0_1'), (7, Value.int .i64 want_0), (8, Value.int .i64 want_1), (9, Value.int .i64 ((ofL text at0_1').1)), (10, Value.int .i64 ((ofL text at0_1').2)), (58, Value.bool (decide (at0_1' < (text.length : Int))))] _ ?_) ⟨rfl, rfl, rfl, rfl, rfl, rfl, rfl, trivial⟩
        refine wc_cond (b := decide (at0_1' < (text.length : Int))) rfl (fun hb => ?_) (fun hb => ?_)
        · replace h := if_T h hb
          refine wc_seq (fun K0_35' hK_35' => ?_)
          refine wc_region ?_
          refine WL.val (OV.move rfl) rfl rfl rfl ?_
          refine WL.val (OV.move rfl) rfl rfl rfl ?_
          obtain ⟨o_19', h⟩ := h
          refine WL.val (OV.add rfl rfl o_19') rfl rfl rfl ?_
          obtain ⟨o_20', h⟩ := h
          refine WL.call (A := []) tf_ent_9 rfl (of_does text (at0_1' + 1) o_20') rfl trivial rfl rfl ?_
          refine WL.val (OV.move rfl) rfl rfl rfl ?_
          refine WL.val (OV.extract 0 rfl rfl) rfl rfl rfl ?_
          refine WL.val (OV.extract 1 rfl rfl) rfl rfl rfl ?_
          refine WL.val (OV.assign rfl) rfl rfl rfl ?_
          refine WL.val (OV.assign rfl) rfl rfl rfl ?_
          refine WL.nil ?_
          refine KX.go (hK_35' [(0, st text), (1, Value.int .i64 at0_1'), (7, Value.int .i64 want_0), (8, Value.int .i64 want_1), (9, Value.int .i64 ((ofL text at0_1').1)), (10, Value.int .i64 ((ofL text at0_1').2)), (13, Value.int .i64 ((ofL text (at0_1' + 1)).1)), (14, Value.int .i64 ((ofL text (at0_1' + 1)).2))] _ ?_) ⟨rfl, rfl, rfl, rfl, rfl, rfl, rfl, rfl, trivial⟩
          refine wc_seq (fun K0_36' hK_36' => ?_)
          refine wc_seq (fun K0_37' hK_37' => ?_)
          refine wc_region ?_
          refine WL.val (OV.move rfl) rfl rfl rfl ?_
          refine WL.val (OV.move rfl) rfl rfl rfl ?_
          obtain ⟨o_21', h⟩ := h
          refine WL.val (OV.index rfl rfl tf_str_9 o_21') rfl rfl rfl ?_
          refine WL.val (OV.eql rfl rfl) rfl rfl rfl ?_
          refine WL.val (OV.move rfl) rfl rfl rfl ?_
          obtain ⟨o_24', h⟩ := h
          refine WL.cut 9 [(0, st text), (1, Value.int .i64 at0_1'), (7, Value.int .i64 want_0), (8, Value.int .i64 want_1), (9, Value.int .i64 ((ofL text at0_1').1)), (10, Value.int .i64 ((ofL text at0_1').2)), (13, Value.int .i64 ((ofL text (at0_1' + 1)).1)), (14, Value.int .i64 ((ofL text (at0_1' + 1)).2)), (79, Value.bool ((decide (((text.getD at0_1'.toNat 0).toNat : Int) = 10)) && ((!decide ((ofL text (at0_1' + 1)).1 = ((ofL text at0_1').1) + 1)) || (!decide ((ofL text (at0_1' + 1)).2 = 1)))))] ?_ (fun K0_39' hK_39' => ?_)
          rotate_left
          · refine WL.split (decide (((text.getD at0_1'.toNat 0).toNat : Int) = 10)) (fun hb => ?_) (fun hb => ?_)
            · have o_22' := o_24' hb
              refine WL.set 70 rfl (congrArg Value.bool hb) ?_
              refine WL.val (OV.move rfl) rfl rfl rfl ?_
              refine WL.val (OV.move rfl) rfl rfl rfl ?_
              refine WL.val (OV.add rfl rfl o_22') rfl rfl rfl ?_
              refine WL.val (OV.neq rfl rfl) rfl rfl rfl ?_
              refine WL.val (OV.move rfl) rfl rfl rfl ?_
              refine WL.cut 3 [(0, st text), (1, Value.int .i64 at0_1'), (7, Value.int .i64 want_0), (8, Value.int .i64 want_1), (9, Value.int .i64 ((ofL text at0_1').1)), (10, Value.int .i64 ((ofL text at0_1').2)), (13, Value.int .i64 ((ofL text (at0_1' + 1)).1)), (14, Value.int .i64 ((ofL text (at0_1' + 1)).2)), (70, Value.bool true), (78, Value.bool ((!decide ((ofL text (at0_1' + 1)).1 = ((ofL text at0_1').1) + 1)) || (!decide ((ofL text (at0_1' + 1)).2 = 1))))] ?_ (fun K0_38' hK_38' => ?_)
              rotate_left
              · refine WL.split (!decide ((ofL text (at0_1' + 1)).1 = ((ofL text at0_1').1) + 1)) (fun hb => ?_) (fun hb => ?_)
                · refine WL.set 75 rfl (congrArg Value.bool hb) ?_
                  refine WL.skip rfl rfl rfl ?_
                  refine WL.skip rfl rfl rfl ?_
                  refine WL.val (OV.pickT rfl rfl) rfl rfl rfl ?_
                  refine WL.set 78 rfl (oT (v := !decide ((ofL text (at0_1' + 1)).2 = 1)) hb) ?_
                  exact WL.end_ (KX.go hK_38' ⟨rfl, rfl, rfl, rfl, rfl, rfl, rfl, rfl, rfl, rfl, trivial⟩)
                · refine WL.set 75 rfl (congrArg Value.bool hb) ?_
                  refine WL.val (OV.move rfl) rfl rfl rfl ?_
                  refine WL.val (OV.neq rfl rfl) rfl rfl rfl ?_
                  refine WL.val (OV.pickF rfl rfl) rfl rfl rfl ?_
                  refine WL.set 78 rfl (oF (v := !decide ((ofL text (at0_1' + 1)).2 = 1)) hb) ?_
                  exact WL.end_ (KX.go hK_38' ⟨rfl, rfl, rfl, rfl, rfl, rfl, rfl, rfl, rfl, rfl, trivial⟩)
              refine WL.val (OV.pickT rfl rfl) rfl rfl rfl ?_
              refine WL.set 79 rfl (bT (v := (!decide ((ofL text (at0_1' + 1)).1 = ((ofL text at0_1').1) + 1)) || (!decide ((ofL text (at0_1' + 1)).2 = 1))) hb) ?_
              exact WL.end_ (KX.go hK_39' ⟨rfl, rfl, rfl, rfl, rfl, rfl, rfl, rfl, rfl, trivial⟩)
            · refine WL.set 70 rfl (congrArg Value.bool hb) ?_
              refine WL.skip rfl rfl rfl ?_
              refine WL.skip rfl rfl rfl ?_
              refine WL.skip rfl rfl rfl ?_
              refine WL.skip rfl rfl rfl ?_
              refine WL.skip rfl rfl rfl ?_
              refine WL.skip rfl rfl rfl ?_
              refine WL.skip rfl rfl rfl ?_
              refine WL.skip rfl rfl rfl ?_
              refine WL.val (OV.pickF rfl rfl) rfl rfl rfl ?_
              refine WL.set 79 rfl (bF (v := (!decide ((ofL text (at0_1' + 1)).1 = ((ofL text at0_1').1) + 1)) || (!decide ((ofL text (at0_1' + 1)).2 = 1))) hb) ?_
              exact WL.end_ (KX.go hK_39' ⟨rfl, rfl, rfl, rfl, rfl, rfl, rfl, rfl, rfl, trivial⟩)
          refine WL.nil ?_
          refine KX.go (hK_37' [(0, st text), (1, Value.int .i64 at0_1'), (7, Value.int .i64 want_0), (8, Value.int .i64 want_1), (9, Value.int .i64 ((ofL text at0_1').1)), (10, Value.int .i64 ((ofL text at0_1').2)), (13, Value.int .i64 ((ofL text (at0_1' + 1)).1)), (14, Value.int .i64 ((ofL text (at0_1' + 1)).2)), (79, Value.bool ((decide (((text.getD at0_1'.toNat 0).toNat : Int) = 10)) && ((!decide ((ofL text (at0_1' + 1)).1 = ((ofL text at0_1').1) + 1)) || (!decide ((ofL text (at0_1' + 1)).2 = 1)))))] _ ?_) ⟨rfl, rfl, rfl, rfl, rfl, rfl, rfl, rfl, rfl, trivial⟩
          refine wc_cond (b := (decide (((text.getD at0_1'.toNat 0).toNat : Int) = 10)) && ((!decide ((ofL text (at0_1' + 1)).1 = ((ofL text at0_1').1) + 1)) || (!decide ((ofL text (at0_1' + 1)).2 = 1)))) rfl (fun hb => ?_) (fun hb => ?_)
          · replace h := if_T h hb
            refine wc_seq (fun K0_40' hK_40' => ?_)
            refine wc_region ?_
            refine WL.val (OV.assign rfl) rfl rfl rfl ?_
            refine WL.nil ?_
            refine KX.go (hK_40' [(6, Value.bool false)] _ ?_) ⟨rfl, trivial⟩
            refine wc_ret ?_
            exact hE.ret [] rfl rfl (.inl ⟨_, h, rfl⟩) (ResV.of1 rfl (RV.tmp rfl))
          · replace h := if_F h hb
            refine wc_skip ?_
            refine KX.go (hK_36' [(0, st text), (1, Value.int .i64 at0_1'), (7, Value.int .i64 want_0), (8, Value.int .i64 want_1), (9, Value.int .i64 ((ofL text at0_1').1)), (10, Value.int .i64 ((ofL text at0_1').2)), (13, Value.int .i64 ((ofL text (at0_1' + 1)).1)), (14, Value.int .i64 ((ofL text (at0_1' + 1)).2))] _ ?_) ⟨rfl, rfl, rfl, rfl, rfl, rfl, rfl, rfl, trivial⟩
            refine wc_seq (fun K0_41' hK_41' => ?_)
            refine wc_region ?_
            refine WL.val (OV.move rfl) rfl rfl rfl ?_
            refine WL.val (OV.move rfl) rfl rfl rfl ?_
            obtain ⟨o_25', h⟩ := h
            refine WL.val (OV.index rfl rfl tf_str_9 o_25') rfl rfl rfl ?_
            refine WL.val (OV.neq rfl rfl) rfl rfl rfl ?_
            refine WL.val (OV.move rfl) rfl rfl rfl ?_
            obtain ⟨o_28', h⟩ := h
            refine WL.cut 10 [(0, st text), (7, Value.int .i64 want_0), (8, Value.int .i64 want_1), (94, Value.bool ((!decide (((text.getD at0_1'.toNat 0).toNat : Int) = 10)) && ((!decide ((ofL text (at0_1' + 1)).1 = (ofL text at0_1').1)) || (!decide ((ofL text (at0_1' + 1)).2 = ((ofL text at0_1').2) + 1)))))] ?_ (fun K0_43' hK_43' => ?_)
            rotate_left
            · refine WL.split (!decide (((text.getD at0_1'.toNat 0).toNat : Int) = 10)) (fun hb => ?_) (fun hb => ?_)
              · have o_27' := o_28' hb
                refine WL.set 84 rfl (congrArg Value.bool hb) ?_
                refine WL.val (OV.move rfl) rfl rfl rfl ?_
                refine WL.val (OV.move rfl) rfl rfl rfl ?_
                refine WL.val (OV.neq rfl rfl) rfl rfl rfl ?_
                refine WL.val (OV.move rfl) rfl rfl rfl ?_
                refine WL.cut 5 [(0, st text), (7, Value.int .i64 want_0), (8, Value.int .i64 want_1), (84, Value.bool true), (93, Value.bool ((!decide ((ofL text (at0_1' + 1)).1 = (ofL text at0_1').1)) || (!decide ((ofL text (at0_1' + 1)).2 = ((ofL text at0_1').2) + 1))))] ?_ (fun K0_42' hK_42' => ?_)
                rotate_left
                · refine WL.split (!decide ((ofL text (at0_1' + 1)).1 = (ofL text at0_1').1)) (fun hb => ?_) (fun hb => ?_)
                  · refine WL.set 88 rfl (congrArg Value.bool hb) ?_
                    refine WL.skip rfl rfl rfl ?_
                    refine WL.skip rfl rfl rfl ?_
                    refine WL.skip rfl rfl rfl ?_
                    refine WL.skip rfl rfl rfl ?_
                    refine WL.val (OV.pickT rfl rfl) rfl rfl rfl ?_
                    refine WL.set 93 rfl (oT (v := !decide ((ofL text (at0_1' + 1)).2 = ((ofL text at0_1').2) + 1)) hb) ?_
                    exact WL.end_ (KX.go hK_42' ⟨rfl, rfl, rfl, rfl, rfl, trivial⟩)
                  · have o_26' := o_27' hb
                    refine WL.set 88 rfl (congrArg Value.bool hb) ?_
                    refine WL.val (OV.move rfl) rfl rfl rfl ?_
                    refine WL.val (OV.move rfl) rfl rfl rfl ?_
                    refine WL.val (OV.add rfl rfl o_26') rfl rfl rfl ?_
                    refine WL.val (OV.neq rfl rfl) rfl rfl rfl ?_
                    refine WL.val (OV.pickF rfl rfl) rfl rfl rfl ?_
                    refine WL.set 93 rfl (oF (v := !decide ((ofL text (at0_1' + 1)).2 = ((ofL text at0_1').2) + 1)) hb) ?_
                    exact WL.end_ (KX.go hK_42' ⟨rfl, rfl, rfl, rfl, rfl, trivial⟩)
                refine WL.val (OV.pickT rfl rfl) rfl rfl rfl ?_
                refine WL.set 94 rfl (bT (v := (!decide ((ofL text (at0_1' + 1)).1 = (ofL text at0_1').1)) || (!decide ((ofL text (at0_1' + 1)).2 = ((ofL text at0_1').2) + 1))) hb) ?_
                exact WL.end_ (KX.go hK_43' ⟨rfl, rfl, rfl, rfl, trivial⟩)
              · refine WL.set 84 rfl (congrArg Value.bool hb) ?_
                refine WL.skip rfl rfl rfl ?_
                refine WL.skip rfl rfl rfl ?_
                refine WL.skip rfl rfl rfl ?_
                refine WL.skip rfl rfl rfl ?_
                refine WL.skip rfl rfl rfl ?_
                refine WL.skip rfl rfl rfl ?_
                refine WL.skip rfl rfl rfl ?_
                refine WL.skip rfl rfl rfl ?_
                refine WL.skip rfl rfl rfl ?_
                refine WL.val (OV.pickF rfl rfl) rfl rfl rfl ?_
                refine WL.set 94 rfl (bF (v := (!decide ((ofL text (at0_1' + 1)).1 = (ofL text at0_1').1)) || (!decide ((ofL text (at0_1' + 1)).2 = ((ofL text at0_1').2) + 1))) hb) ?_
                exact WL.end_ (KX.go hK_43' ⟨rfl, rfl, rfl, rfl, trivial⟩)
            refine WL.nil ?_
            refine KX.go (hK_41' [(0, st text), (7, Value.int .i64 want_0), (8, Value.int .i64 want_1), (94, Value.bool ((!decide (((text.getD at0_1'.toNat 0).toNat : Int) = 10)) && ((!decide ((ofL text (at0_1' + 1)).1 = (ofL text at0_1').1)) || (!decide ((ofL text (at0_1' + 1)).2 = ((ofL text at0_1').2) + 1)))))] _ ?_) ⟨rfl, rfl, rfl, rfl, trivial⟩
            refine wc_cond (b := (!decide (((text.getD at0_1'.toNat 0).toNat : Int) = 10)) && ((!decide ((ofL text (at0_1' + 1)).1 = (ofL text at0_1').1)) || (!decide ((ofL text (at0_1' + 1)).2 = ((ofL text at0_1').2) + 1)))) rfl (fun hb => ?_) (fun hb => ?_)
            · replace h := if_T h hb
              refine wc_seq (fun K0_44' hK_44' => ?_)
              refine wc_region ?_
              refine WL.val (OV.assign rfl) rfl rfl rfl ?_
              refine WL.nil ?_
              refine KX.go (hK_44' [(6, Value.bool false)] _ ?_) ⟨rfl, trivial⟩
              refine wc_ret ?_
              exact hE.ret [] rfl rfl (.inl ⟨_, h, rfl⟩) (ResV.of1 rfl (RV.tmp rfl))
            · replace h := if_F h hb
              refine wc_skip ?_
              exact KX.goH (hK_24' () h) ⟨rfl, rfl, rfl, trivial⟩ [] rfl rfl
        · replace h := if_F h hb
          refine wc_skip ?_
          exact KX.goH (hK_24' () h) ⟨rfl, rfl, rfl, trivial⟩ [] rfl rfl
  · skip
    refine wc_seq (fun K0_45' hK_45' => ?_)
    refine wc_region ?_
    refine WL.val (OV.move rfl) rfl rfl rfl ?_
    refine WL.val (OV.lss rfl rfl) rfl rfl rfl ?_
    refine WL.val (OV.move rfl) rfl rfl rfl ?_
    refine WL.cut 5 [(0, st text), (1, Value.int .i64 at0), (7, Value.int .i64 want_0), (8, Value.int .i64 want_1), (32, Value.bool ((decide (at0 < 0)) || (decide ((text.length : Int) < at0))))] ?_ (fun K0_46' hK_46' => ?_)
    rotate_left
    · refine WL.split (decide (at0 < 0)) (fun hb => ?_) (fun hb => ?_)
      · refine WL.set 27 rfl (congrArg Value.bool hb) ?_
        refine WL.skip rfl rfl rfl ?_
        refine WL.skip rfl rfl rfl ?_
        refine WL.skip rfl rfl rfl ?_
        refine WL.skip rfl rfl rfl ?_
        refine WL.val (OV.pickT rfl rfl) rfl rfl rfl ?_
        refine WL.set 32 rfl (oT (v := decide ((text.length : Int) < at0)) hb) ?_
        exact WL.end_ (KX.go hK_46' ⟨rfl, rfl, rfl, rfl, rfl, trivial⟩)
      · refine WL.set 27 rfl (congrArg Value.bool hb) ?_
        refine WL.val (OV.move rfl) rfl rfl rfl ?_
        refine WL.val (OV.move rfl) rfl rfl rfl ?_
        refine WL.val (OV.len rfl tf_str_9) rfl rfl rfl ?_
        refine WL.val (OV.gtr rfl rfl) rfl rfl rfl ?_
        refine WL.val (OV.pickF rfl rfl) rfl rfl rfl ?_
        refine WL.set 32 rfl (oF (v := decide ((text.length : Int) < at0)) hb) ?_
        exact WL.end_ (KX.go hK_46' ⟨rfl, rfl, rfl, rfl, rfl, trivial⟩)
    refine WL.nil ?_
    refine KX.go (hK_45' [(0, st text), (1, Value.int .i64 at0), (7, Value.int .i64 want_0), (8, Value.int .i64 want_1), (32, Value.bool ((decide (at0 < 0)) || (decide ((text.length : Int) < at0))))] _ ?_) ⟨rfl, rfl, rfl, rfl, rfl, trivial⟩
    refine wc_cond (b := (decide (at0 < 0)) || (decide ((text.length : Int) < at0))) rfl (fun hb => ?_) (fun hb => ?_)
    · replace h := if_T h hb
      refine wc_region ?_
      refine WL.val (OV.move rfl) rfl rfl rfl ?_
      refine WL.val (OV.len rfl tf_str_9) rfl rfl rfl ?_
      refine WL.val (OV.assign rfl) rfl rfl rfl ?_
      refine WL.nil ?_
      exact KX.goH (hK_6' (text.length : Int) h) ⟨rfl, rfl, rfl, rfl, trivial⟩ [] rfl rfl
    · replace h := if_F h hb
      refine wc_skip ?_
      exact KX.goH (hK_6' at0 h) ⟨rfl, rfl, rfl, rfl, trivial⟩ [] rfl rfl

def lnames_vc (code : Int) (K : Bool → Prop) : Prop :=
  (I64 code) ∧
  (I64 code) ∧
  K (decide (nameL code = nameL code))
set_option maxRecDepth 100000 in
theorem lnames_wp (te : TypeId) (fre : Nat × Nat) (code : Int) (K : Bool → Prop) (h : lnames_vc code K) :
    Does Tryd.prog 5 [Value.int .i64 code] [(1, .cells [Value.int .u64 1, Value.int .u64 10, Value.int .u64 100, Value.int .u64 1000, Value.int .u64 10000, Value.int .u64 100000, Value.int .u64 1000000, Value.int .u64 10000000, Value.int .u64 100000000, Value.int .u64 1000000000, Value.int .u64 10000000000, Value.int .u64 100000000000, Value.int .u64 1000000000000, Value.int .u64 10000000000000, Value.int .u64 100000000000000, Value.int .u64 1000000000000000, Value.int .u64 10000000000000000, Value.int .u64 100000000000000000, Value.int .u64 1000000000000000000, Value.int .u64 10000000000000000000].toArray te fre)] [] (fun o => (∃ (v : Bool), K v ∧ o = .ret (Value.bool v) []) ∨ (False)) := by
  unfold lnames_vc at h
  refine does_of_wc (n := 11) (L0 := [(0, Value.int .i64 code)]) Tryd.func5 rfl rfl rfl rfl (fun w0 M Q hE => ?_)
  refine wc_seq (fun K0 hK => ?_)
  refine wc_region ?_
  refine WL.val (OV.assign rfl) rfl rfl rfl ?_
  refine WL.nil ?_
  refine KX.go (hK [(0, Value.int .i64 code)] _ ?_) ⟨rfl, trivial⟩
  refine wc_seq (fun K0_1' hK_1' => ?_)
  refine wc_region ?_
  refine WL.call (A := []) tf_ent_11 rfl (speaks_does te fre) rfl ⟨.inr (List.mem_of_getElem? (i := 0) rfl), trivial⟩ rfl rfl ?_
  refine WL.val (OV.move rfl) rfl rfl rfl ?_
  refine WL.val (OV.move rfl) rfl rfl rfl ?_
  obtain ⟨o, h⟩ := h
  refine WL.call (A := []) tf_ent_14 rfl (name_does te fre code o) rfl ⟨.inr (List.mem_of_getElem? (i := 0) rfl), trivial⟩ rfl rfl ?_
  refine WL.val (OV.move rfl) rfl rfl rfl ?_
  obtain ⟨o_1', h⟩ := h
  refine WL.call (A := []) tf_ent_15 rfl (rname_does code o_1') rfl trivial rfl rfl ?_
  refine WL.val (OV.eqlS rfl rfl) rfl rfl rfl ?_
  refine WL.val (OV.pickT rfl rfl) rfl rfl rfl ?_
  refine WL.val (OV.assign rfl) rfl rfl rfl ?_
  refine WL.nil ?_
  refine KX.go (hK_1' [(2, Value.bool (decide (nameL code = nameL code)))] _ ?_) ⟨rfl, trivial⟩
  refine wc_ret ?_
  exact hE.ret [] rfl rfl (.inl ⟨_, h, rfl⟩) (ResV.of1 rfl (RV.tmp rfl))

def lquotes_vc (s : List UInt8) (t : List UInt8) (K : Bool → Prop) : Prop :=
  (s.length ≤ 1048576) ∧
  (s.length ≤ 1048576) ∧
  ((!decide (quoteL s = quoteL s)) = false → (t.length ≤ 1048576)) ∧
  (if ((!decide (quoteL s = quoteL s)) || (!((decide (quoteL s = quoteL t)) == (decide (s = t))))) = true then
    K false
  else
    ∃ (Inv : Int → Prop) (mu : Int → Nat),
      Inv 0 ∧ ∀ (i_1' : Int), Inv i_1' →
        (if (decide (i_1' < ((quoteL s).length : Int))) = true then
          (0 ≤ i_1' ∧ i_1' < (quoteL s).length) ∧
          ((decide ((((quoteL s).getD i_1'.toNat 0).toNat : Int) < 32)) = false → (0 ≤ i_1' ∧ i_1' < (quoteL s).length)) ∧
          (if ((decide ((((quoteL s).getD i_1'.toNat 0).toNat : Int) < 32)) || (decide (126 < (((quoteL s).getD i_1'.toNat 0).toNat : Int)))) = true then
            K false
          else
            (I64 (i_1' + 1)) ∧
            Inv (i_1' + 1) ∧ mu (i_1' + 1) < mu i_1')
        else
          K (decide (2 ≤ ((quoteL s).length : Int)))))
set_option maxRecDepth 100000 in
theorem lquotes_wp (te : TypeId) (fre : Nat × Nat) (s : List UInt8) (t : List UInt8) (K : Bool → Prop) (h : lquotes_vc s t K) :
    Does Tryd.prog 4 [st s, st t] [(1, .cells [Value.int .u64 1, Value.int .u64 10, Value.int .u64 100, Value.int .u64 1000, Value.int .u64 10000, Value.int .u64 100000, Value.int .u64 1000000, Value.int .u64 10000000, Value.int .u64 100000000, Value.int .u64 1000000000, Value.int .u64 10000000000, Value.int .u64 100000000000, Value.int .u64 1000000000000, Value.int .u64 10000000000000, Value.int .u64 100000000000000, Value.int .u64 1000000000000000, Value.int .u64 10000000000000000, Value.int .u64 100000000000000000, Value.int .u64 1000000000000000000, Value.int .u64 10000000000000000000].toArray te fre)] [] (fun o => (∃ (v : Bool), K v ∧ o = .ret (Value.bool v) []) ∨ (False)) := by
  unfold lquotes_vc at h
  refine does_of_wc (n := 44) (L0 := [(0, st s), (1, st t)]) Tryd.func4 rfl rfl rfl rfl (fun w0 M Q hE => ?_)
  refine wc_seq (fun K0 hK => ?_)
  refine wc_region ?_
  refine WL.val (OV.assign rfl) rfl rfl rfl ?_
  refine WL.nil ?_
  refine KX.go (hK [(0, st s), (1, st t)] _ ?_) ⟨rfl, rfl, trivial⟩
  refine wc_seq (fun K0_1' hK_1' => ?_)
  refine wc_seq (fun K0_2' hK_2' => ?_)
  refine wc_region ?_
  refine WL.call (A := []) tf_ent_11 rfl (speaks_does te fre) rfl ⟨.inr (List.mem_of_getElem? (i := 0) rfl), trivial⟩ rfl rfl ?_
  refine WL.val (OV.not rfl) rfl rfl rfl ?_
  refine WL.nil ?_
  refine KX.go (hK_2' [(0, st s), (1, st t), (8, Value.bool false)] _ ?_) ⟨rfl, rfl, rfl, trivial⟩
  refine wc_condF rfl ?_
  refine wc_skip ?_
  refine KX.go (hK_1' [(0, st s), (1, st t)] _ ?_) ⟨rfl, rfl, trivial⟩
  refine wc_seq (fun K0_3' hK_3' => ?_)
  refine wc_region ?_
  refine WL.val (OV.move rfl) rfl rfl rfl ?_
  obtain ⟨o, h⟩ := h
  refine WL.call (A := []) tf_ent_12 rfl (quote_does s o) rfl trivial rfl rfl ?_
  refine WL.val (OV.assign rfl) rfl rfl rfl ?_
  refine WL.nil ?_
  refine KX.go (hK_3' [(0, st s), (1, st t), (5, st (quoteL s))] _ ?_) ⟨rfl, rfl, rfl, trivial⟩
  refine wc_seq (fun K0_4' hK_4' => ?_)
  refine wc_seq (fun K0_5' hK_5' => ?_)
  refine wc_region ?_
  refine WL.val (OV.move rfl) rfl rfl rfl ?_
  refine WL.val (OV.move rfl) rfl rfl rfl ?_
  obtain ⟨o_1', h⟩ := h
  refine WL.call (A := []) tf_ent_13 rfl (refquote_does s o_1') rfl trivial rfl rfl ?_
  refine WL.val (OV.neqS rfl rfl) rfl rfl rfl ?_
  refine WL.val (OV.move rfl) rfl rfl rfl ?_
  obtain ⟨o_3', h⟩ := h
  refine WL.cut 9 [(5, st (quoteL s)), (24, Value.bool ((!decide (quoteL s = quoteL s)) || (!((decide (quoteL s = quoteL t)) == (decide (s = t))))))] ?_ (fun K0_6' hK_6' => ?_)
  rotate_left
  · refine WL.split (!decide (quoteL s = quoteL s)) (fun hb => ?_) (fun hb => ?_)
    · refine WL.set 15 rfl (congrArg Value.bool hb) ?_
      refine WL.skip rfl rfl rfl ?_
      refine WL.skip rfl rfl rfl ?_
      refine WL.skip rfl rfl rfl ?_
      refine WL.skip rfl rfl rfl ?_
      refine WL.skip rfl rfl rfl ?_
      refine WL.skip rfl rfl rfl ?_
      refine WL.skip rfl rfl rfl ?_
      refine WL.skip rfl rfl rfl ?_
      refine WL.val (OV.pickT rfl rfl) rfl rfl rfl ?_
      refine WL.set 24 rfl (oT (v := !((decide (quoteL s = quoteL t)) == (decide (s = t)))) hb) ?_
      exact WL.end_ (KX.go hK_6' ⟨rfl, rfl, trivial⟩)
    · have o_2' := o_3' hb
      refine WL.set 15 rfl (congrArg Value.bool hb) ?_
      refine WL.val (OV.move rfl) rfl rfl rfl ?_
      refine WL.val (OV.move rfl) rfl rfl rfl ?_
      refine WL.call (A := []) tf_ent_12 rfl (quote_does t o_2') rfl trivial rfl rfl ?_
      refine WL.val (OV.eqlS rfl rfl) rfl rfl rfl ?_
      refine WL.val (OV.move rfl) rfl rfl rfl ?_
      refine WL.val (OV.move rfl) rfl rfl rfl ?_
      refine WL.val (OV.eqlS rfl rfl) rfl rfl rfl ?_
      refine WL.val (OV.neqB rfl rfl Tryd.underlying4) rfl rfl rfl ?_
      refine WL.val (OV.pickF rfl rfl) rfl rfl rfl ?_
      refine WL.set 24 rfl (oF (v := !((decide (quoteL s = quoteL t)) == (decide (s = t)))) hb) ?_
      exact WL.end_ (KX.go hK_6' ⟨rfl, rfl, trivial⟩)
  refine WL.nil ?_
  refine KX.go (hK_5' [(5, st (quoteL s)), (24, Value.bool ((!decide (quoteL s = quoteL s)) || (!((decide (quoteL s = quoteL t)) == (decide (s = t))))))] _ ?_) ⟨rfl, rfl, trivial⟩
  refine wc_cond (b := (!decide (quoteL s = quoteL s)) || (!((decide (quoteL s = quoteL t)) == (decide (s = t))))) rfl (fun hb => ?_) (fun hb => ?_)
  · replace h := if_T h hb
    refine wc_seq (fun K0_7' hK_7' => ?_)
    refine wc_region ?_
    refine WL.val (OV.assign rfl) rfl rfl rfl ?_
    refine WL.nil ?_
    refine KX.go (hK_7' [(4, Value.bool false)] _ ?_) ⟨rfl, trivial⟩
    refine wc_ret ?_
    exact hE.ret [] rfl rfl (.inl ⟨_, h, rfl⟩) (ResV.of1 rfl (RV.tmp rfl))
  · replace h := if_F h hb
    refine wc_skip ?_
    refine KX.go (hK_4' [(5, st (quoteL s))] _ ?_) ⟨rfl, trivial⟩
    refine wc_seq (fun K0_8' hK_8' => ?_)
    refine wc_seq (fun K0_9' hK_9' => ?_)
    refine wc_region ?_
    refine WL.val (OV.assign rfl) rfl rfl rfl ?_
    refine WL.nil ?_
    refine KX.go (hK_9' [(5, st (quoteL s)), (6, Value.int .i64 0)] _ ?_) ⟨rfl, rfl, trivial⟩
    refine wc_block ?_
    obtain ⟨Inv, mu, h0, hr⟩ := h
    refine wc_loop (S := Int) (fun σ => Inv σ) (fun σ => mu σ) (fun σ => [(5, st (quoteL s)), (6, Value.int .i64 σ)]) (fun σ => []) 0 h0 ⟨rfl, rfl, trivial⟩ rfl ?_
    rintro i_1' hi K0_22' hK_22'
    have h := hr i_1' hi
    show WC _ _ _ _ [(5, st (quoteL s)), (6, Value.int .i64 i_1')] []
    refine wc_seq (fun K0_23' hK_23' => ?_)
    refine wc_seq (fun K0_24' hK_24' => ?_)
    refine wc_region ?_
    refine WL.val (OV.move rfl) rfl rfl rfl ?_
    refine WL.val (OV.move rfl) rfl rfl rfl ?_
    refine WL.val (OV.len rfl tf_str_9) rfl rfl rfl ?_
    refine WL.val (OV.lss rfl rfl) rfl rfl rfl ?_
    refine WL.nil ?_
    refine KX.go (hK_24' [(5, st (quoteL s)), (6, Value.int .i64 i_1'), (28, Value.bool (decide (i_1' < ((quoteL s).length : Int))))] _ ?_) ⟨rfl, rfl, rfl, trivial⟩
    refine wc_cond (b := decide (i_1' < ((quoteL s).length : Int))) rfl (fun hb => ?_) (fun hb => ?_)
    · replace h := if_T h hb
      refine wc_skip ?_
      refine KX.go (hK_23' [(5, st (quoteL s)), (6, Value.int .i64 i_1')] _ ?_) ⟨rfl, rfl, trivial⟩
      refine wc_seq (fun K0_25' hK_25' => ?_)
      refine wc_block ?_
      refine wc_seq (fun K0_26' hK_26' => ?_)
      refine wc_region ?_
      refine WL.val (OV.move rfl) rfl rfl rfl ?_
      refine WL.val (OV.move rfl) rfl rfl rfl ?_
      obtain ⟨o_11', h⟩ := h
      refine WL.val (OV.index rfl rfl tf_str_9 o_11') rfl rfl rfl ?_
      refine WL.val (OV.lss rfl rfl) rfl rfl rfl ?_
      refine WL.val (OV.move rfl) rfl rfl rfl ?_
      obtain ⟨o_13', h⟩ := h
      refine WL.cut 5 [(5, st (quoteL s)), (6, Value.int .i64 i_1'), (40, Value.bool ((decide ((((quoteL s).getD i_1'.toNat 0).toNat : Int) < 32)) || (decide (126 < (((quoteL s).getD i_1'.toNat 0).toNat : Int)))))] ?_ (fun K0_27' hK_27' => ?_)
      rotate_left
      · refine WL.split (decide ((((quoteL s).getD i_1'.toNat 0).toNat : Int) < 32)) (fun hb => ?_) (fun hb => ?_)
        · refine WL.set 35 rfl (congrArg Value.bool hb) ?_
          refine WL.skip rfl rfl rfl ?_
          refine WL.skip rfl rfl rfl ?_
          refine WL.skip rfl rfl rfl ?_
          refine WL.skip rfl rfl rfl ?_
          refine WL.val (OV.pickT rfl rfl) rfl rfl rfl ?_
          refine WL.set 40 rfl (oT (v := decide (126 < (((quoteL s).getD i_1'.toNat 0).toNat : Int))) hb) ?_
          exact WL.end_ (KX.go hK_27' ⟨rfl, rfl, rfl, trivial⟩)
        · have o_12' := o_13' hb
          refine WL.set 35 rfl (congrArg Value.bool hb) ?_
          refine WL.val (OV.move rfl) rfl rfl rfl ?_
          refine WL.val (OV.move rfl) rfl rfl rfl ?_
          refine WL.val (OV.index rfl rfl tf_str_9 o_12') rfl rfl rfl ?_
          refine WL.val (OV.gtr rfl rfl) rfl rfl rfl ?_
          refine WL.val (OV.pickF rfl rfl) rfl rfl rfl ?_
          refine WL.set 40 rfl (oF (v := decide (126 < (((quoteL s).getD i_1'.toNat 0).toNat : Int))) hb) ?_
          exact WL.end_ (KX.go hK_27' ⟨rfl, rfl, rfl, trivial⟩)
      refine WL.nil ?_
      refine KX.go (hK_26' [(5, st (quoteL s)), (6, Value.int .i64 i_1'), (40, Value.bool ((decide ((((quoteL s).getD i_1'.toNat 0).toNat : Int) < 32)) || (decide (126 < (((quoteL s).getD i_1'.toNat 0).toNat : Int)))))] _ ?_) ⟨rfl, rfl, rfl, trivial⟩
      refine wc_cond (b := (decide ((((quoteL s).getD i_1'.toNat 0).toNat : Int) < 32)) || (decide (126 < (((quoteL s).getD i_1'.toNat 0).toNat : Int)))) rfl (fun hb => ?_) (fun hb => ?_)
      · replace h := if_T h hb
        refine wc_seq (fun K0_28' hK_28' => ?_)
        refine wc_region ?_
        refine WL.val (OV.assign rfl) rfl rfl rfl ?_
        refine WL.nil ?_
        refine KX.go (hK_28' [(4, Value.bool false)] _ ?_) ⟨rfl, trivial⟩
        refine wc_ret ?_
        exact hE.ret [] rfl rfl (.inl ⟨_, h, rfl⟩) (ResV.of1 rfl (RV.tmp rfl))
      · replace h := if_F h hb
        refine wc_skip ?_
        refine KX.go (hK_25' [(5, st (quoteL s)), (6, Value.int .i64 i_1')] _ ?_) ⟨rfl, rfl, trivial⟩
        refine wc_region ?_
        refine WL.val (OV.move rfl) rfl rfl rfl ?_
        obtain ⟨o_14', h⟩ := h
        refine WL.val (OV.add rfl rfl o_14') rfl rfl rfl ?_
        refine WL.val (OV.assign rfl) rfl rfl rfl ?_
        refine WL.nil ?_
        exact KX.goH (hK_22' (i_1' + 1) h.1 h.2) ⟨rfl, rfl, trivial⟩ [] rfl rfl
    · replace h := if_F h hb
      refine wc_exit ?_
      refine KX.go (hK_8' [(5, st (quoteL s))] _ ?_) ⟨rfl, trivial⟩
      refine wc_seq (fun K0_29' hK_29' => ?_)
      refine wc_region ?_
      refine WL.val (OV.move rfl) rfl rfl rfl ?_
      refine WL.val (OV.len rfl tf_str_9) rfl rfl rfl ?_
      refine WL.val (OV.geq rfl rfl) rfl rfl rfl ?_
      refine WL.val (OV.assign rfl) rfl rfl rfl ?_
      refine WL.nil ?_
      refine KX.go (hK_29' [(4, Value.bool (decide (2 ≤ ((quoteL s).length : Int))))] _ ?_) ⟨rfl, trivial⟩
      refine wc_ret ?_
      exact hE.ret [] rfl rfl (.inl ⟨_, h, rfl⟩) (ResV.of1 rfl (RV.tmp rfl))

def lsays_vc (text : List UInt8) (code : Int) (_ : Int) (f_1 : Int) (f_2 : List UInt8) (K : Bool → Prop) : Prop :=
  (text.length ≤ 140737488351232 ∧ I64 code ∧ I64 f_1 ∧ f_2.length ≤ 1048576) ∧
  (text.length ≤ 140737488351232 ∧ I64 code ∧ I64 f_1 ∧ f_2.length ≤ 1048576) ∧
  K (decide (sayL text code f_1 f_2 = sayL text code f_1 f_2))
set_option maxRecDepth 100000 in
theorem lsays_wp (te : TypeId) (fre : Nat × Nat) (text : List UInt8) (code : Int) (f_0 : Int) (f_1 : Int) (f_2 : List UInt8) (K : Bool → Prop) (h : lsays_vc text code f_0 f_1 f_2 K) :
    Does Tryd.prog 6 [st text, Value.int .i64 code, Value.agg [Value.int .i64 f_0, Value.int .i64 f_1, st f_2].toArray] [(1, .cells [Value.int .u64 1, Value.int .u64 10, Value.int .u64 100, Value.int .u64 1000, Value.int .u64 10000, Value.int .u64 100000, Value.int .u64 1000000, Value.int .u64 10000000, Value.int .u64 100000000, Value.int .u64 1000000000, Value.int .u64 10000000000, Value.int .u64 100000000000, Value.int .u64 1000000000000, Value.int .u64 10000000000000, Value.int .u64 100000000000000, Value.int .u64 1000000000000000, Value.int .u64 10000000000000000, Value.int .u64 100000000000000000, Value.int .u64 1000000000000000000, Value.int .u64 10000000000000000000].toArray te fre)] [] (fun o => (∃ (v : Bool), K v ∧ o = .ret (Value.bool v) []) ∨ (False)) := by
  unfold lsays_vc at h
  refine does_of_wc (n := 23) (L0 := [(0, st text), (1, Value.int .i64 code), (2, Value.agg [Value.int .i64 f_0, Value.int .i64 f_1, st f_2].toArray)]) Tryd.func6 rfl rfl rfl rfl (fun w0 M Q hE => ?_)
  refine wc_seq (fun K0 hK => ?_)
  refine wc_region ?_
  refine WL.make (MV.box (cs := [Value.int .i64 f_0, Value.int .i64 f_1, st f_2]) rfl rfl) rfl rfl rfl (fun b => ?_)
  refine WL.val (OV.assign rfl) rfl rfl rfl ?_
  refine WL.nil ?_
  refine KX.go (hK [(0, st text), (1, Value.int .i64 code), (5, Value.pointer (some ⟨b, 0, none⟩))] _ ?_) ⟨rfl, rfl, rfl, trivial⟩
  refine wc_seq (fun K0_1' hK_1' => ?_)
  refine wc_region ?_
  refine WL.val (OV.move rfl) rfl rfl rfl ?_
  refine WL.val (OV.fieldAddr0 rfl tf_field_33_0) rfl rfl rfl ?_
  refine WL.store (vs := [Value.int .i64 code]) (cs' := [Value.int .i64 code, Value.int .i64 f_1, st f_2]) 0 rfl rfl rfl rfl tf_size_29 (Nat.le_of_ble_eq_true rfl) rfl rfl rfl ?_
  refine WL.nil ?_
  refine KX.go (hK_1' [(0, st text), (1, Value.int .i64 code), (5, Value.pointer (some ⟨b, 0, none⟩))] _ ?_) ⟨rfl, rfl, rfl, trivial⟩
  refine wc_seq (fun K0_2' hK_2' => ?_)
  refine wc_draw_all [] tf_mixed (by kernel_rfl) rfl (fun T hT => ?_)
  refine FL.call tf_ent_11 (fun _ => rfl) (speaks_does te fre) ⟨.inr (List.mem_of_getElem? (i := 0) rfl), trivial⟩ rfl (fun _ => rfl) rfl ?_
  refine FL.val (fun _ => OV.move rfl) rfl (fun _ => rfl) rfl rfl ?_
  refine FL.val (fun _ => OV.move rfl) rfl (fun _ => rfl) rfl rfl ?_
  refine FL.val (fun _ => OV.loadR rfl (At.own 0 rfl) tf_row_33) rfl (fun _ => rfl) rfl rfl ?_
  obtain ⟨o, h⟩ := h
  refine FL.call tf_ent_16 (fun _ => rfl) (say_does te fre text code f_1 f_2 o) ⟨.inr (List.mem_of_getElem? (i := 0) rfl), trivial⟩ rfl (fun _ => rfl) rfl ?_
  refine FL.val (fun _ => OV.move rfl) rfl (fun _ => rfl) rfl rfl ?_
  refine FL.val (fun _ => OV.move rfl) rfl (fun _ => rfl) rfl rfl ?_
  refine FL.val (fun _ => OV.fieldAddr0 rfl tf_field_33_1) rfl (fun _ => rfl) rfl rfl ?_
  refine FL.val (fun _ => OV.load rfl (At.own 0 rfl) rfl tf_scal_3) rfl (fun _ => rfl) rfl rfl ?_
  refine FL.val (fun _ => OV.fieldAddr0 rfl tf_field_33_2) rfl (fun _ => rfl) rfl rfl ?_
  refine FL.val (fun _ => OV.load rfl (At.own 0 rfl) rfl tf_scal_9) rfl (fun _ => rfl) rfl rfl ?_
  obtain ⟨o_1', h⟩ := h
  refine FL.call tf_ent_17 (fun _ => rfl) (rsay_does text code f_1 f_2 o_1') trivial rfl (fun _ => rfl) rfl ?_
  refine FL.val (fun _ => OV.eqlS rfl rfl) rfl (fun _ => rfl) rfl rfl ?_
  refine FL.val (fun _ => OV.pickT rfl rfl) rfl (fun _ => rfl) rfl rfl ?_
  refine FL.val (fun _ => OV.assign rfl) rfl (fun _ => rfl) rfl rfl ?_
  refine FL.weak (L' := fun _ => [(6, Value.bool (decide (sayL text code f_1 f_2 = sayL text code f_1 f_2)))]) (fun _ => ⟨rfl, trivial⟩) (FL.nil (hT (fun _ => [(6, Value.bool (decide (sayL text code f_1 f_2 = sayL text code f_1 f_2)))]) (fun _ => ?_)))
  refine KX.go (hK_2' [(6, Value.bool (decide (sayL text code f_1 f_2 = sayL text code f_1 f_2)))] _ ?_) ⟨rfl, trivial⟩
  refine wc_ret ?_
  exact hE.ret [] rfl rfl (.inl ⟨_, h, rfl⟩) (ResV.of1 rfl (RV.tmp rfl))

theorem ofs_does (te : TypeId) (fre : Nat × Nat) (t : List UInt8) (a : Int) (h : t.length ≤ 140737488351232) : Does Tryd.prog 3 [st t, .int .i64 a] [(1, .cells powCells.toArray te fre)] [] (Ret (.bool true) []) :=
  (lofs_wp te fre t a (fun r => r = true) ⟨h, h, by simp⟩).weak (by rintro o (⟨v, rfl, rfl⟩ | h) <;> first | rfl | exact h.elim)
theorem offsets_does (te : TypeId) (fre : Nat × Nat) (t : List UInt8) (l c : Int) (h : t.length ≤ 140737488351232 ∧ I64 l ∧ I64 c) : Does Tryd.prog 7 [st t, .int .i64 l, .int .i64 c] [(1, .cells powCells.toArray te fre)] [] (Ret (.bool true) []) :=
  (loffsets_wp te fre t l c (fun r => r = true) ⟨h, h, by simp⟩).weak (by rintro o (⟨v, rfl, rfl⟩ | h) <;> first | rfl | exact h.elim)
theorem names_does (te : TypeId) (fre : Nat × Nat) (c : Int) (h : I64 c) : Does Tryd.prog 5 [.int .i64 c] [(1, .cells powCells.toArray te fre)] [] (Ret (.bool true) []) :=
  (lnames_wp te fre c (fun r => r = true) ⟨h, h, by simp⟩).weak (by rintro o (⟨v, rfl, rfl⟩ | h) <;> first | rfl | exact h.elim)
theorem says_does (te : TypeId) (fre : Nat × Nat) (t : List UInt8) (code x a : Int) (w : List UInt8) (h : t.length ≤ 140737488351232 ∧ I64 code ∧ I64 a ∧ w.length ≤ 1048576) : Does Tryd.prog 6 [st t, .int .i64 code, .agg [Value.int .i64 x, Value.int .i64 a, st w].toArray] [(1, .cells powCells.toArray te fre)] [] (Ret (.bool true) []) :=
  (lsays_wp te fre t code x a w (fun r => r = true) ⟨h, h, by simp⟩).weak (by rintro o (⟨v, rfl, rfl⟩ | h) <;> first | rfl | exact h.elim)
theorem pos_lex {t : List UInt8} {j : Nat} : ∀ {m : Nat}, j + (m + 1) ≤ t.length → (posF t j).1 < (posF t (j + (m + 1))).1 ∨ (posF t j).1 = (posF t (j + (m + 1))).1 ∧ (posF t j).2 < (posF t (j + (m + 1))).2
  | 0, h => by
    rw [Nat.zero_add, posF_succ (by omega)]
    unfold stepP
    by_cases hc : t.getD j 0 = 10
    · rw [if_pos hc]
      exact .inl (by show _ < _ + 1; omega)
    · rw [if_neg hc]
      exact .inr ⟨rfl, by show _ < _ + 1; omega⟩
  | m + 1, h => by
    have ih := pos_lex (t := t) (j := j) (m := m) (by omega)
    rw [show j + (m + 1 + 1) = j + (m + 1) + 1 by omega, posF_succ (by omega)]
    unfold stepP
    by_cases hc : t.getD (j + (m + 1)) 0 = 10
    · rw [if_pos hc]
      exact .inl (by show _ < _ + 1; omega)
    · rw [if_neg hc]
      rcases ih with ih | ih
      · exact .inl ih
      · exact .inr ⟨ih.1, by show _ < _ + 1; omega⟩
theorem off_back {t : List UInt8} {i : Nat} (h : i ≤ t.length) : offL t (posF t i).1 (posF t i).2 = ((i : Int), true) :=
  off_some h rfl fun j hj e => by
    have := pos_lex (t := t) (j := j) (m := i - j - 1) (by omega)
    rw [show j + (i - j - 1 + 1) = i by omega, e] at this
    simp only at this; omega
theorem ofL_at {t : List UInt8} {a : Int} (h : 0 ≤ a ∧ a ≤ t.length) : ofL t a = posF t a.toNat := by
  unfold ofL clampI
  rw [show (min (max a 0) (t.length : Int)).toNat = a.toNat by omega]
theorem off_inv {t : List UInt8} {l c : Int} : offL t l c = (0, false) ∨ ∃ i : Nat, i ≤ t.length ∧ offL t l c = ((i : Int), true) ∧ posF t i = (l, c) := by
  unfold offL
  split
  · rename_i i hi
    have h1 := List.mem_of_find?_eq_some hi
    have h2 := List.find?_some hi
    have h3 := List.mem_range.1 h1
    exact .inr ⟨i, by omega, rfl, by simpa using h2⟩
  · exact .inl rfl
theorem back_does (te : TypeId) (fre : Nat × Nat) (t : List UInt8) (a x y : Int) (h : t.length ≤ 140737488351232 ∧ I64 x ∧ I64 y) : Does Tryd.prog 8 [st t, .int .i64 a, .agg [Value.int .i64 x, Value.int .i64 y].toArray] [(1, .cells powCells.toArray te fre)] [] (Ret (.bool true) []) := by
  refine (lback_wp te fre t a x y (fun r => r = true) ?_).weak (by rintro o (⟨v, rfl, rfl⟩ | h) <;> first | rfl | exact h.elim)
  obtain ⟨ht, hx, hy⟩ := h
  unfold lback_vc
  refine ⟨fun b => 0 ≤ b ∧ b ≤ t.length, fun b ⟨b0, b1⟩ => ?_, ?_⟩
  · have hb := posF_bd t b.toNat (by omega)
    have ho := off_back (t := t) (i := b.toNat) (by omega)
    rw [ofL_at ⟨b0, b1⟩, ho]
    refine ⟨ht, ⟨ht, ⟨by omega, by omega⟩, ⟨by omega, by omega⟩⟩, ?_⟩
    rw [if_neg (by simp; omega)]
    refine ⟨True, fun _ _ => ⟨⟨ht, hx, hy⟩, ?_⟩, ?_⟩
    · rcases off_inv (t := t) (l := x) (c := y) with e | ⟨i, hi, e, hp⟩
      · rw [e]; simp
      · rw [e, if_neg (by simp)]
        refine ⟨ht, ?_⟩
        rw [ofL_at ⟨by simp only; omega, by simp only; omega⟩]
        simp only [Int.toNat_natCast, hp]
        simp; omega
    · by_cases hlt : b < (t.length : Int)
      · rw [if_pos (by simpa using hlt)]
        have hs := posF_succ (t := t) (i := b.toNat) (by omega)
        have hn : ofL t (b + 1) = stepP (posF t b.toNat) (t.getD b.toNat 0) := by
          rw [ofL_at ⟨by omega, by omega⟩, show (b + 1).toNat = b.toNat + 1 by omega, hs]
        have h4 : (((t.getD b.toNat 0).toNat : Int) = 10) ↔ t.getD b.toNat 0 = 10 := ⟨fun h => UInt8.toNat_inj.1 (by show (t.getD b.toNat 0).toNat = 10; omega), fun h => by rw [h]; rfl⟩
        rw [hn]
        unfold stepP
        refine ⟨⟨by omega, by omega⟩, ht, ⟨b0, hlt⟩, fun _ => ⟨by omega, by omega⟩, ?_⟩
        by_cases hc : t.getD b.toNat 0 = 10
        · rw [if_pos hc, decide_eq_true (h4.2 hc), if_neg (by simp)]
          refine ⟨⟨b0, hlt⟩, fun hx => by simp at hx, ?_⟩
          rw [if_neg (by simp)]; trivial
        · rw [if_neg hc, decide_eq_false (fun e => hc (h4.1 e)), if_neg (by simp)]
          refine ⟨⟨b0, hlt⟩, fun _ _ => ⟨by omega, by omega⟩, ?_⟩
          rw [if_neg (by simp)]; trivial
      · rw [if_neg (by simpa using hlt)]; trivial
  · by_cases hc : a < 0 ∨ (t.length : Int) < a
    · rw [if_pos (by simpa using hc)]
      exact ⟨by omega, by omega⟩
    · rw [if_neg (by simpa using hc)]
      exact ⟨by omega, by omega⟩

/-! ### one quote a text -/
theorem qb_pre0 : ∀ n, n < 256 → ∀ m, m < 256 → (qb (UInt8.ofNat n)).isPrefixOf (qb (UInt8.ofNat m)) = true → n = m := by decide +kernel
theorem qb_fine0 : ∀ n, n < 256 → (qb (UInt8.ofNat n)).all (fun b => decide (32 ≤ b.toNat) && decide (b.toNat ≤ 126)) = true ∧ (qb (UInt8.ofNat n)).head? ≠ some 34 ∧ qb (UInt8.ofNat n) ≠ [] := by decide +kernel
theorem of_self (c : UInt8) : UInt8.ofNat c.toNat = c := by simp
theorem qb_pre {c d : UInt8} (h : (qb c).isPrefixOf (qb d) = true) : c = d := by
  have := qb_pre0 c.toNat c.toNat_lt d.toNat d.toNat_lt
  rw [of_self, of_self] at this
  exact UInt8.toNat_inj.1 (this h)
theorem qb_fine (c : UInt8) : (qb c).all (fun b => decide (32 ≤ b.toNat) && decide (b.toNat ≤ 126)) = true ∧ (qb c).head? ≠ some 34 ∧ qb c ≠ [] := by
  have := qb_fine0 c.toNat c.toNat_lt
  rwa [of_self] at this
theorem qb_inj {c d : UInt8} {x y : List UInt8} (h : qb c ++ x = qb d ++ y) : c = d ∧ x = y := by
  have hcd : c = d := by
    by_cases hl : (qb c).length ≤ (qb d).length
    · refine qb_pre ?_
      rw [List.isPrefixOf_iff_prefix]
      exact List.prefix_of_prefix_length_le (List.prefix_append (qb c) x) (by rw [h]; exact List.prefix_append (qb d) y) hl
    · refine (qb_pre ?_).symm
      rw [List.isPrefixOf_iff_prefix]
      exact List.prefix_of_prefix_length_le (List.prefix_append (qb d) y) (by rw [← h]; exact List.prefix_append (qb c) x) (by omega)
  subst hcd
  exact ⟨rfl, List.append_cancel_left h⟩
theorem qbs_inj : ∀ {s t : List UInt8}, s.flatMap qb ++ [34] = t.flatMap qb ++ [34] → s = t
  | [], [], _ => rfl
  | [], d :: t, h => by
    rw [List.flatMap_cons, List.append_assoc] at h
    have := qb_fine d
    cases hq : qb d with
    | nil => exact absurd hq this.2.2
    | cons e r =>
      rw [hq] at h this
      simp only [List.flatMap_nil, List.nil_append, List.cons_append, List.cons.injEq] at h
      exact absurd (by rw [h.1]; rfl) this.2.1
  | c :: s, [], h => by
    rw [List.flatMap_cons, List.append_assoc] at h
    have := qb_fine c
    cases hq : qb c with
    | nil => exact absurd hq this.2.2
    | cons e r =>
      rw [hq] at h this
      simp only [List.flatMap_nil, List.nil_append, List.cons_append, List.cons.injEq] at h
      exact absurd (by rw [h.1]; rfl) this.2.1
  | c :: s, d :: t, h => by
    rw [List.flatMap_cons, List.flatMap_cons, List.append_assoc, List.append_assoc] at h
    obtain ⟨rfl, h2⟩ := qb_inj h
    rw [qbs_inj h2]
theorem quoteL_inj {s t : List UInt8} (h : quoteL s = quoteL t) : s = t := by
  unfold quoteL at h
  rw [List.append_assoc, List.append_assoc] at h
  exact qbs_inj (List.append_cancel_left h)
theorem quoteL_fine (s : List UInt8) : ∀ b ∈ quoteL s, 32 ≤ b.toNat ∧ b.toNat ≤ 126 := by
  intro b hb
  unfold quoteL at hb
  simp only [List.mem_append, List.mem_singleton, List.mem_flatMap] at hb
  rcases hb with (rfl | ⟨c, _, hc⟩) | rfl
  · decide
  · have := List.all_eq_true.1 (qb_fine c).1 b hc
    simpa using this
  · decide
theorem quotes_does (te : TypeId) (fre : Nat × Nat) (s t : List UInt8) (h : s.length ≤ 1048576 ∧ t.length ≤ 1048576) : Does Tryd.prog 4 [st s, st t] [(1, .cells powCells.toArray te fre)] [] (Ret (.bool true) []) := by
  refine (lquotes_wp te fre s t (fun r => r = true) ?_).weak (by rintro o (⟨v, rfl, rfl⟩ | h) <;> first | rfl | exact h.elim)
  have hl := quoteL_len s
  unfold lquotes_vc
  refine ⟨h.1, h.1, fun _ => h.2, ?_⟩
  rw [if_neg (by
    by_cases hst : s = t
    · simp [hst]
    · have : ¬ quoteL s = quoteL t := fun e => hst (quoteL_inj e)
      simp [hst, this])]
  refine ⟨fun i => 0 ≤ i, fun i => ((quoteL s).length - i).toNat, Int.le_refl _, fun i h0 => ?_⟩
  by_cases hi : i < ((quoteL s).length : Int)
  · rw [if_pos (by simpa using hi)]
    have hm : (quoteL s).getD i.toNat 0 ∈ quoteL s := by
      rw [List.getD_eq_getElem?_getD, List.getElem?_eq_getElem (by omega)]; exact List.getElem_mem _
    have := quoteL_fine s _ hm
    refine ⟨⟨h0, hi⟩, fun _ => ⟨h0, hi⟩, ?_⟩
    generalize (quoteL s).getD i.toNat 0 = b at this ⊢
    rw [if_neg (by simp; omega)]
    exact ⟨⟨by omega, by omega⟩, by omega, by show ((quoteL s).length - (i + 1)).toNat < ((quoteL s).length - i).toNat; omega⟩
  · rw [if_neg (by simpa using hi)]
    have : 2 ≤ (quoteL s).length := by unfold quoteL; simp
    exact decide_eq_true (by omega)

end Go.Proofs.YtiaafdjdppganaaDoor
