/-
  ClassReads, ClassReadsBack, ClassOneText: conditions and walks.
-/
import Derived.Test.YtkjnhjhkaaampaaDoorWds
import Derived.Test.YtkjnhjhkaaampaaDoorShows
import Derived.Test.YtkjnhjhkaaampaaDoorRback
namespace Go.Proofs.YtkjnhjhkaaampaaDoor
open Go Go.RowKit

theorem tf_ent_7 : entB Tryd.prog 7 = true := by kernel_rfl
theorem tf_ent_11 : entB Tryd.prog 11 = true := by kernel_rfl
theorem tf_ent_12 : entB Tryd.prog 12 = true := by kernel_rfl
theorem tf_scal_32 : scalB Tryd.prog 32 = true := by kernel_rfl
theorem tf_stood_34 : Program.stoodInHeld Tryd.prog 34 = false := by kernel_rfl
theorem tf_eqg_34 : Program.eqGuardType Tryd.prog Tryd.prog.depth 34 = false := by kernel_rfl
theorem tf_ent_13 : entB Tryd.prog 13 = true := by kernel_rfl
theorem tf_eqg_23 : Program.eqGuardType Tryd.prog Tryd.prog.depth 23 = false := by kernel_rfl
theorem tf_ent_8 : entB Tryd.prog 8 = true := by kernel_rfl
theorem tf_eqg_26 : Program.eqGuardType Tryd.prog Tryd.prog.depth 26 = false := by kernel_rfl

theorem eqlCS {T : TypeId} (hu : Tryd.prog.underlying T = some (.array 4 22)) (s t : CS) : ∀ w, (Op.equalIn 10000 T (.agg (wl s).toArray) (.agg (wl t).toArray)).run Tryd.prog w = .ok (decide (s = t)) w := fun w => by
  rw [wl_words, wl_words, eql_words hu s t w]; rfl
theorem Does.ofPureE {f : FuncId} {vs : List Value} {v : Value} (te : TypeId) (fre : Nat × Nat) (h : PureE f vs.toArray v) : Does Tryd.prog f vs (escTab te fre) [] (Ret v []) := fun w M hO hn _ hr => by
  have : M = [] := hO
  subst this
  refine (h w ⟨te, fre, (hr (0, .cells escCells te fre) (List.mem_singleton.2 rfl)).1⟩).mono ?_
  rintro en w' ⟨rfl, hb⟩
  exact ⟨[], .inl ⟨v, rfl, rfl⟩, (Hp.start 0 [] w (H := []) rfl hn (fun k hk => by cases hk) hr).below hb⟩

def lreads_vc (text : List UInt8) (at0 : Int) (K : Bool → Prop) : Prop :=
  (text.length ≤ 9223372036854775807) ∧
  (text.length ≤ 9223372036854775807) ∧
  (∀ (s : Nat → Bool), (∀ j, j < 256 → s j = (readM text at0).1.getLsbD j) →
    (if ((!andAll [decide ((readM text at0).2.2.1 = (readM text at0).2.2.1), decide ((readM text at0).2.2.2 = (readM text at0).2.2.2), decide (([] : List UInt8) = [])]) || (!decide ((readM text at0).2.1 = (readM text at0).2.1))) = true then
      K false
    else
      K (decide ((readM text at0).1 = mkS s))))
set_option maxRecDepth 100000 in
theorem lreads_wp (te : TypeId) (fre : Nat × Nat) (text : List UInt8) (at0 : Int) (K : Bool → Prop) (h : lreads_vc text at0 K) :
    Does Tryd.prog 4 [st text, Value.int .i64 at0] [(0, .cells [Value.int .u8 110, Value.int .u8 10, Value.int .u8 114, Value.int .u8 13, Value.int .u8 116, Value.int .u8 9].toArray te fre)] [] (fun o => (∃ (v : Bool), K v ∧ o = .ret (Value.bool v) []) ∨ (False)) := by
  unfold lreads_vc at h
  refine does_of_wc (n := 43) (L0 := [(0, st text), (1, Value.int .i64 at0)]) Tryd.func4 rfl rfl rfl rfl (fun w0 M Q hE => ?_)
  refine wc_seq (fun K0 hK => ?_)
  refine wc_region ?_
  refine WL.val (OV.assign rfl) rfl rfl rfl ?_
  refine WL.nil ?_
  refine KX.go (hK [(0, st text), (1, Value.int .i64 at0)] _ ?_) ⟨rfl, rfl, trivial⟩
  refine wc_seq (fun K0_1' hK_1' => ?_)
  refine wc_seq (fun K0_2' hK_2' => ?_)
  refine wc_region ?_
  refine WL.call (A := []) tf_ent_7 rfl (Does.ofPureE te fre (speaks_pure)) rfl ⟨.inr (List.mem_of_getElem? (i := 0) rfl), trivial⟩ rfl rfl ?_
  refine WL.val (OV.not rfl) rfl rfl rfl ?_
  refine WL.nil ?_
  refine KX.go (hK_2' [(0, st text), (1, Value.int .i64 at0), (13, Value.bool false)] _ ?_) ⟨rfl, rfl, rfl, trivial⟩
  refine wc_condF rfl ?_
  refine wc_skip ?_
  refine KX.go (hK_1' [(0, st text), (1, Value.int .i64 at0)] _ ?_) ⟨rfl, rfl, trivial⟩
  refine wc_seq (fun K0_3' hK_3' => ?_)
  refine wc_region ?_
  refine WL.val (OV.move rfl) rfl rfl rfl ?_
  refine WL.val (OV.move rfl) rfl rfl rfl ?_
  obtain ⟨o, h⟩ := h
  refine WL.call (A := []) tf_ent_11 rfl (read_does te fre text at0 o) rfl ⟨.inr (List.mem_of_getElem? (i := 0) rfl), trivial⟩ rfl rfl ?_
  refine WL.val (OV.move rfl) rfl rfl rfl ?_
  refine WL.val (OV.extract 0 rfl rfl) rfl rfl rfl ?_
  refine WL.val (OV.extract 1 rfl rfl) rfl rfl rfl ?_
  refine WL.val (OV.extract 2 rfl rfl) rfl rfl rfl ?_
  refine WL.make (MV.alloc tf_zero_26) rfl rfl rfl (fun b => ?_)
  refine WL.make (MV.alloc tf_zero_34) rfl rfl rfl (fun b_1' => ?_)
  refine WL.storeW (vs := wl ((readM text at0).1)) 1 rfl rfl rfl rfl rfl tf_size_26 rfl rfl rfl ?_
  refine WL.val (OV.assign rfl) rfl rfl rfl ?_
  refine WL.storeW (vs := [Value.int .i64 ((readM text at0).2.2.1), Value.int .i64 ((readM text at0).2.2.2), st []]) 0 rfl rfl rfl rfl rfl tf_size_34 rfl rfl rfl ?_
  refine WL.nil ?_
  refine KX.go (hK_3' [(0, st text), (1, Value.int .i64 at0), (5, Value.pointer (some ⟨b, 0, none⟩)), (6, Value.int .i64 ((readM text at0).2.1)), (7, Value.pointer (some ⟨b_1', 0, none⟩))] _ ?_) ⟨rfl, rfl, rfl, rfl, rfl, trivial⟩
  refine wc_seq (fun K0_4' hK_4' => ?_)
  refine wc_region ?_
  refine WL.val (OV.move rfl) rfl rfl rfl ?_
  refine WL.val (OV.move rfl) rfl rfl rfl ?_
  obtain ⟨o_1', h⟩ := h
  refine WL.callS tf_ent_12 rfl (rread_does text at0 o_1') rfl trivial rfl rfl (fun r H' hS => ?_) (fun c H' hS => ?_)
  · obtain ⟨s, hc, ho⟩ := hS
    cases ho
    replace h := h s hc
    refine WL.val (OV.move rfl) rfl rfl rfl ?_
    refine WL.val (OV.extract 0 rfl rfl) rfl rfl rfl ?_
    refine WL.val (OV.extract 1 rfl rfl) rfl rfl rfl ?_
    refine WL.val (OV.extract 2 rfl rfl) rfl rfl rfl ?_
    refine WL.val (OV.extract 3 rfl rfl) rfl rfl rfl ?_
    refine WL.make (MV.alloc tf_zero_29) rfl rfl rfl (fun b_2' => ?_)
    refine WL.storeW (vs := arr 256 (fun j => Value.bool (s j))) 0 rfl rfl rfl rfl (arr_length _ _) tf_size_29 ((arr_length _ _).trans (arr_length _ _).symm) (arr_one _ _ (fun _ => rfl)) rfl ?_
    refine WL.val (OV.assign rfl) rfl rfl rfl ?_
    refine WL.val (OV.assign rfl) rfl rfl rfl ?_
    refine WL.val (OV.assign rfl) rfl rfl rfl ?_
    refine WL.nil ?_
    refine KX.go (hK_4' [(5, Value.pointer (some ⟨b, 0, none⟩)), (6, Value.int .i64 ((readM text at0).2.1)), (7, Value.pointer (some ⟨b_1', 0, none⟩)), (8, Value.pointer (some ⟨b_2', 0, none⟩)), (9, Value.int .i64 ((readM text at0).2.1)), (10, Value.int .i64 ((readM text at0).2.2.1)), (11, Value.int .i64 ((readM text at0).2.2.2))] _ ?_) ⟨rfl, rfl, rfl, rfl, rfl, rfl, rfl, trivial⟩
    refine wc_seq (fun K0_5' hK_5' => ?_)
    refine wc_seq (fun K0_6' hK_6' => ?_)
    refine wc_region ?_
    refine WL.val (OV.loadR rfl (At.own 1 rfl) tf_row_34) rfl rfl rfl ?_
    refine WL.val (OV.move rfl) rfl rfl rfl ?_
    refine WL.val (OV.move rfl) rfl rfl rfl ?_
    refine WL.val (OV.build rfl (cs := [Value.int .i64 ((readM text at0).2.2.1), Value.int .i64 ((readM text at0).2.2.2), st []]) rfl) rfl rfl rfl ?_
    refine WL.val (OV.neqF (rs := [decide ((readM text at0).2.2.1 = (readM text at0).2.2.1), decide ((readM text at0).2.2.2 = (readM text at0).2.2.2), decide (([] : List UInt8) = [])]) rfl rfl Tryd.underlying34 tf_stood_34 tf_eqg_34 ⟨rfl, tf_scal_32, ⟨_, _, rfl, rfl, ScalEq.int Tryd.underlying32⟩, ⟨rfl, tf_scal_3, ⟨_, _, rfl, rfl, ScalEq.int Tryd.underlying3⟩, ⟨rfl, tf_scal_9, ⟨_, _, rfl, rfl, ScalEq.str Tryd.underlying9⟩, trivial⟩⟩⟩) rfl rfl rfl ?_
    refine WL.val (OV.move rfl) rfl rfl rfl ?_
    refine WL.cut 4 [(5, Value.pointer (some ⟨b, 0, none⟩)), (8, Value.pointer (some ⟨b_2', 0, none⟩)), (38, Value.bool ((!andAll [decide ((readM text at0).2.2.1 = (readM text at0).2.2.1), decide ((readM text at0).2.2.2 = (readM text at0).2.2.2), decide (([] : List UInt8) = [])]) || (!decide ((readM text at0).2.1 = (readM text at0).2.1))))] ?_ (fun K0_7' hK_7' => ?_)
    rotate_left
    · refine WL.split (!andAll [decide ((readM text at0).2.2.1 = (readM text at0).2.2.1), decide ((readM text at0).2.2.2 = (readM text at0).2.2.2), decide (([] : List UInt8) = [])]) (fun hb => ?_) (fun hb => ?_)
      · refine WL.set 34 rfl (congrArg Value.bool hb) ?_
        refine WL.skip rfl rfl rfl ?_
        refine WL.skip rfl rfl rfl ?_
        refine WL.skip rfl rfl rfl ?_
        refine WL.val (OV.pickT rfl rfl) rfl rfl rfl ?_
        refine WL.set 38 rfl (oT (v := !decide ((readM text at0).2.1 = (readM text at0).2.1)) hb) ?_
        exact WL.end_ (KX.go hK_7' ⟨rfl, rfl, rfl, trivial⟩)
      · refine WL.set 34 rfl (congrArg Value.bool hb) ?_
        refine WL.val (OV.move rfl) rfl rfl rfl ?_
        refine WL.val (OV.move rfl) rfl rfl rfl ?_
        refine WL.val (OV.neq rfl rfl) rfl rfl rfl ?_
        refine WL.val (OV.pickF rfl rfl) rfl rfl rfl ?_
        refine WL.set 38 rfl (oF (v := !decide ((readM text at0).2.1 = (readM text at0).2.1)) hb) ?_
        exact WL.end_ (KX.go hK_7' ⟨rfl, rfl, rfl, trivial⟩)
    refine WL.nil ?_
    refine KX.go (hK_6' [(5, Value.pointer (some ⟨b, 0, none⟩)), (8, Value.pointer (some ⟨b_2', 0, none⟩)), (38, Value.bool ((!andAll [decide ((readM text at0).2.2.1 = (readM text at0).2.2.1), decide ((readM text at0).2.2.2 = (readM text at0).2.2.2), decide (([] : List UInt8) = [])]) || (!decide ((readM text at0).2.1 = (readM text at0).2.1))))] _ ?_) ⟨rfl, rfl, rfl, trivial⟩
    refine wc_cond (b := (!andAll [decide ((readM text at0).2.2.1 = (readM text at0).2.2.1), decide ((readM text at0).2.2.2 = (readM text at0).2.2.2), decide (([] : List UInt8) = [])]) || (!decide ((readM text at0).2.1 = (readM text at0).2.1))) rfl (fun hb => ?_) (fun hb => ?_)
    · replace h := if_T h hb
      refine wc_seq (fun K0_8' hK_8' => ?_)
      refine wc_region ?_
      refine WL.val (OV.assign rfl) rfl rfl rfl ?_
      refine WL.nil ?_
      refine KX.go (hK_8' [(4, Value.bool false)] _ ?_) ⟨rfl, trivial⟩
      refine wc_ret ?_
      exact hE.ret [] rfl rfl (.inl ⟨_, h, rfl⟩) (ResV.of1 rfl (RV.tmp rfl))
    · replace h := if_F h hb
      refine wc_skip ?_
      refine KX.go (hK_5' [(5, Value.pointer (some ⟨b, 0, none⟩)), (8, Value.pointer (some ⟨b_2', 0, none⟩))] _ ?_) ⟨rfl, rfl, trivial⟩
      refine wc_seq (fun K0_9' hK_9' => ?_)
      refine wc_draw 3 [] tf_mixed (by kernel_rfl) rfl (fun T hT => ?_)
      refine FL.val (fun _ => OV.loadR rfl (At.own 2 rfl) tf_row_26) rfl (fun _ => rfl) rfl rfl ?_
      refine FL.val (fun _ => OV.loadR rfl (At.own 0 rfl) (by rw [arr_length]; exact tf_row_29)) rfl (fun _ => rfl) rfl rfl ?_
      refine FL.call tf_ent_13 (fun _ => rfl) (words_does s) trivial rfl (fun _ => rfl) rfl ?_
      refine FL.weak (L' := fun γ => [(39, Value.agg (wl ((readM text at0).1)).toArray), (41, Value.agg (wl (mkS s)).toArray)]) (fun γ => ⟨rfl, rfl, trivial⟩) (FL.nil (hT (fun γ => [(39, Value.agg (wl ((readM text at0).1)).toArray), (41, Value.agg (wl (mkS s)).toArray)]) (fun γ => ?_)))
      refine WL.val (OV.eqlA (xs := wl ((readM text at0).1)) (ys := wl (mkS s)) rfl rfl tf_eqg_23 (eqlCS Tryd.underlying23 ((readM text at0).1) (mkS s))) rfl rfl rfl ?_
      refine WL.val (OV.assign rfl) rfl rfl rfl ?_
      refine WL.nil ?_
      refine KX.go (hK_9' [(4, Value.bool (decide ((readM text at0).1 = mkS s)))] _ ?_) ⟨rfl, trivial⟩
      refine wc_ret ?_
      exact hE.ret [] rfl rfl (.inl ⟨_, h, rfl⟩) (ResV.of1 rfl (RV.tmp rfl))
  · obtain ⟨s, hc, ho⟩ := hS
    cases ho

def lback_vc (x : CS) (head : List UInt8) (rest : List UInt8) (K : Bool → Prop) : Prop :=
  (if (decide (showL x = [])) = true then
    K false
  else
    (head.length + (showL x).length ≤ 9223372036854775807) ∧
    ((head ++ (showL x)).length + rest.length ≤ 9223372036854775807) ∧
    (((head ++ (showL x)) ++ rest).length ≤ 9223372036854775807) ∧
    (((andAll [decide ((readM ((head ++ (showL x)) ++ rest) (head.length : Int)).2.2.1 = 0), decide ((readM ((head ++ (showL x)) ++ rest) (head.length : Int)).2.2.2 = 0), decide (([] : List UInt8) = [])]) && (decide ((readM ((head ++ (showL x)) ++ rest) (head.length : Int)).1 = x))) = true → (I64 ((head.length : Int) + ((showL x).length : Int)))) ∧
    K (((andAll [decide ((readM ((head ++ (showL x)) ++ rest) (head.length : Int)).2.2.1 = 0), decide ((readM ((head ++ (showL x)) ++ rest) (head.length : Int)).2.2.2 = 0), decide (([] : List UInt8) = [])]) && (decide ((readM ((head ++ (showL x)) ++ rest) (head.length : Int)).1 = x))) && (decide ((readM ((head ++ (showL x)) ++ rest) (head.length : Int)).2.1 = (head.length : Int) + ((showL x).length : Int)))))
set_option maxRecDepth 100000 in
theorem lback_wp (te : TypeId) (fre : Nat × Nat) (x : CS) (head : List UInt8) (rest : List UInt8) (K : Bool → Prop) (h : lback_vc x head rest K) :
    Does Tryd.prog 5 [Value.agg (wl x).toArray, st head, st rest] [(0, .cells [Value.int .u8 110, Value.int .u8 10, Value.int .u8 114, Value.int .u8 13, Value.int .u8 116, Value.int .u8 9].toArray te fre)] [] (fun o => (∃ (v : Bool), K v ∧ o = .ret (Value.bool v) []) ∨ (False)) := by
  unfold lback_vc at h
  refine does_of_wc (n := 46) (L0 := [(0, Value.agg (wl x).toArray), (1, st head), (2, st rest)]) Tryd.func5 rfl rfl rfl rfl (fun w0 M Q hE => ?_)
  refine wc_seq (fun K0 hK => ?_)
  refine wc_region ?_
  refine WL.make (MV.box (cs := wl x) rfl rfl) rfl rfl rfl (fun b => ?_)
  refine WL.val (OV.assign rfl) rfl rfl rfl ?_
  refine WL.nil ?_
  refine KX.go (hK [(1, st head), (2, st rest), (3, Value.pointer (some ⟨b, 0, none⟩))] _ ?_) ⟨rfl, rfl, rfl, trivial⟩
  refine wc_seq (fun K0_1' hK_1' => ?_)
  refine wc_region ?_
  refine WL.val (OV.loadR rfl (At.own 0 rfl) tf_row_23) rfl rfl rfl ?_
  refine WL.make (MV.alloc tf_zero_26) rfl rfl rfl (fun b_1' => ?_)
  refine WL.storeW (vs := wl x) 0 rfl rfl rfl rfl rfl tf_size_26 rfl rfl rfl ?_
  refine WL.nil ?_
  refine KX.go (hK_1' [(1, st head), (2, st rest), (7, Value.pointer (some ⟨b_1', 0, none⟩))] _ ?_) ⟨rfl, rfl, rfl, trivial⟩
  refine wc_seq (fun K0_2' hK_2' => ?_)
  refine wc_region ?_
  refine WL.val (OV.loadR rfl (At.own 0 rfl) tf_row_26) rfl rfl rfl ?_
  refine WL.call (A := []) tf_ent_8 rfl (Does.ofPureE te fre (show_pure x)) rfl ⟨.inr (List.mem_of_getElem? (i := 0) rfl), trivial⟩ rfl rfl ?_
  refine WL.val (OV.assign rfl) rfl rfl rfl ?_
  refine WL.nil ?_
  refine KX.go (hK_2' [(1, st head), (2, st rest), (7, Value.pointer (some ⟨b_1', 0, none⟩)), (8, st (showL x))] _ ?_) ⟨rfl, rfl, rfl, rfl, trivial⟩
  refine wc_seq (fun K0_3' hK_3' => ?_)
  refine wc_seq (fun K0_4' hK_4' => ?_)
  refine wc_region ?_
  refine WL.val (OV.move rfl) rfl rfl rfl ?_
  refine WL.val (OV.eqlS rfl rfl) rfl rfl rfl ?_
  refine WL.nil ?_
  refine KX.go (hK_4' [(1, st head), (2, st rest), (7, Value.pointer (some ⟨b_1', 0, none⟩)), (8, st (showL x)), (16, Value.bool (decide (showL x = [])))] _ ?_) ⟨rfl, rfl, rfl, rfl, rfl, trivial⟩
  refine wc_cond (b := decide (showL x = [])) rfl (fun hb => ?_) (fun hb => ?_)
  · replace h := if_T h hb
    refine wc_seq (fun K0_5' hK_5' => ?_)
    refine wc_region ?_
    refine WL.val (OV.assign rfl) rfl rfl rfl ?_
    refine WL.nil ?_
    refine KX.go (hK_5' [(6, Value.bool false)] _ ?_) ⟨rfl, trivial⟩
    refine wc_ret ?_
    exact hE.ret [] rfl rfl (.inl ⟨_, h, rfl⟩) (ResV.of1 rfl (RV.tmp rfl))
  · replace h := if_F h hb
    refine wc_skip ?_
    refine KX.go (hK_3' [(1, st head), (2, st rest), (7, Value.pointer (some ⟨b_1', 0, none⟩)), (8, st (showL x))] _ ?_) ⟨rfl, rfl, rfl, rfl, trivial⟩
    refine wc_seq (fun K0_6' hK_6' => ?_)
    refine wc_region ?_
    refine WL.val (OV.move rfl) rfl rfl rfl ?_
    refine WL.val (OV.move rfl) rfl rfl rfl ?_
    obtain ⟨o, h⟩ := h
    refine WL.val (OV.cat rfl rfl o) rfl rfl rfl ?_
    refine WL.val (OV.move rfl) rfl rfl rfl ?_
    obtain ⟨o_1', h⟩ := h
    refine WL.val (OV.cat rfl rfl o_1') rfl rfl rfl ?_
    refine WL.val (OV.move rfl) rfl rfl rfl ?_
    refine WL.val (OV.len rfl tf_str_9) rfl rfl rfl ?_
    obtain ⟨o_2', h⟩ := h
    refine WL.call (A := []) tf_ent_11 rfl (read_does te fre ((head ++ (showL x)) ++ rest) (head.length : Int) o_2') rfl ⟨.inr (List.mem_of_getElem? (i := 0) rfl), trivial⟩ rfl rfl ?_
    refine WL.val (OV.move rfl) rfl rfl rfl ?_
    refine WL.val (OV.extract 0 rfl rfl) rfl rfl rfl ?_
    refine WL.val (OV.extract 1 rfl rfl) rfl rfl rfl ?_
    refine WL.val (OV.extract 2 rfl rfl) rfl rfl rfl ?_
    refine WL.make (MV.alloc tf_zero_26) rfl rfl rfl (fun b_2' => ?_)
    refine WL.make (MV.alloc tf_zero_34) rfl rfl rfl (fun b_3' => ?_)
    refine WL.storeW (vs := wl ((readM ((head ++ (showL x)) ++ rest) (head.length : Int)).1)) 1 rfl rfl rfl rfl rfl tf_size_26 rfl rfl rfl ?_
    refine WL.val (OV.assign rfl) rfl rfl rfl ?_
    refine WL.storeW (vs := [Value.int .i64 ((readM ((head ++ (showL x)) ++ rest) (head.length : Int)).2.2.1), Value.int .i64 ((readM ((head ++ (showL x)) ++ rest) (head.length : Int)).2.2.2), st []]) 0 rfl rfl rfl rfl rfl tf_size_34 rfl rfl rfl ?_
    refine WL.nil ?_
    refine KX.go (hK_6' [(1, st head), (7, Value.pointer (some ⟨b_1', 0, none⟩)), (8, st (showL x)), (9, Value.pointer (some ⟨b_2', 0, none⟩)), (10, Value.int .i64 ((readM ((head ++ (showL x)) ++ rest) (head.length : Int)).2.1)), (11, Value.pointer (some ⟨b_3', 0, none⟩))] _ ?_) ⟨rfl, rfl, rfl, rfl, rfl, rfl, trivial⟩
    refine wc_seq (fun K0_7' hK_7' => ?_)
    refine wc_region ?_
    refine WL.val (OV.loadR rfl (At.own 0 rfl) tf_row_34) rfl rfl rfl ?_
    refine WL.val (OV.build rfl (cs := [Value.int .i64 0, Value.int .i64 0, st []]) rfl) rfl rfl rfl ?_
    refine WL.val (OV.eqlF (rs := [decide ((readM ((head ++ (showL x)) ++ rest) (head.length : Int)).2.2.1 = 0), decide ((readM ((head ++ (showL x)) ++ rest) (head.length : Int)).2.2.2 = 0), decide (([] : List UInt8) = [])]) rfl rfl Tryd.underlying34 tf_stood_34 tf_eqg_34 ⟨rfl, tf_scal_32, ⟨_, _, rfl, rfl, ScalEq.int Tryd.underlying32⟩, ⟨rfl, tf_scal_3, ⟨_, _, rfl, rfl, ScalEq.int Tryd.underlying3⟩, ⟨rfl, tf_scal_9, ⟨_, _, rfl, rfl, ScalEq.str Tryd.underlying9⟩, trivial⟩⟩⟩) rfl rfl rfl ?_
    refine WL.val (OV.move rfl) rfl rfl rfl ?_
    refine WL.cut 4 [(1, st head), (8, st (showL x)), (10, Value.int .i64 ((readM ((head ++ (showL x)) ++ rest) (head.length : Int)).2.1)), (36, Value.bool ((andAll [decide ((readM ((head ++ (showL x)) ++ rest) (head.length : Int)).2.2.1 = 0), decide ((readM ((head ++ (showL x)) ++ rest) (head.length : Int)).2.2.2 = 0), decide (([] : List UInt8) = [])]) && (decide ((readM ((head ++ (showL x)) ++ rest) (head.length : Int)).1 = x))))] ?_ (fun K0_8' hK_8' => ?_)
    rotate_left
    · refine WL.split (andAll [decide ((readM ((head ++ (showL x)) ++ rest) (head.length : Int)).2.2.1 = 0), decide ((readM ((head ++ (showL x)) ++ rest) (head.length : Int)).2.2.2 = 0), decide (([] : List UInt8) = [])]) (fun hb => ?_) (fun hb => ?_)
      · refine WL.set 32 rfl (congrArg Value.bool hb) ?_
        refine WL.val (OV.loadR rfl (At.own 1 rfl) tf_row_26) rfl rfl rfl ?_
        refine WL.val (OV.loadR rfl (At.own 2 rfl) tf_row_26) rfl rfl rfl ?_
        refine WL.val (OV.eqlA (xs := wl ((readM ((head ++ (showL x)) ++ rest) (head.length : Int)).1)) (ys := wl x) rfl rfl tf_eqg_26 (eqlCS Tryd.underlying26 ((readM ((head ++ (showL x)) ++ rest) (head.length : Int)).1) x)) rfl rfl rfl ?_
        refine WL.val (OV.pickT rfl rfl) rfl rfl rfl ?_
        refine WL.set 36 rfl (bT (v := decide ((readM ((head ++ (showL x)) ++ rest) (head.length : Int)).1 = x)) hb) ?_
        exact WL.end_ (KX.go hK_8' ⟨rfl, rfl, rfl, rfl, trivial⟩)
      · refine WL.set 32 rfl (congrArg Value.bool hb) ?_
        refine WL.skip rfl rfl rfl ?_
        refine WL.skip rfl rfl rfl ?_
        refine WL.skip rfl rfl rfl ?_
        refine WL.val (OV.pickF rfl rfl) rfl rfl rfl ?_
        refine WL.set 36 rfl (bF (v := decide ((readM ((head ++ (showL x)) ++ rest) (head.length : Int)).1 = x)) hb) ?_
        exact WL.end_ (KX.go hK_8' ⟨rfl, rfl, rfl, rfl, trivial⟩)
    refine WL.val (OV.move rfl) rfl rfl rfl ?_
    obtain ⟨o_5', h⟩ := h
    refine WL.cut 8 [(45, Value.bool (((andAll [decide ((readM ((head ++ (showL x)) ++ rest) (head.length : Int)).2.2.1 = 0), decide ((readM ((head ++ (showL x)) ++ rest) (head.length : Int)).2.2.2 = 0), decide (([] : List UInt8) = [])]) && (decide ((readM ((head ++ (showL x)) ++ rest) (head.length : Int)).1 = x))) && (decide ((readM ((head ++ (showL x)) ++ rest) (head.length : Int)).2.1 = (head.length : Int) + ((showL x).length : Int)))))] ?_ (fun K0_9' hK_9' => ?_)
    rotate_left
    · refine WL.split ((andAll [decide ((readM ((head ++ (showL x)) ++ rest) (head.length : Int)).2.2.1 = 0), decide ((readM ((head ++ (showL x)) ++ rest) (head.length : Int)).2.2.2 = 0), decide (([] : List UInt8) = [])]) && (decide ((readM ((head ++ (showL x)) ++ rest) (head.length : Int)).1 = x))) (fun hb => ?_) (fun hb => ?_)
      · have o_4' := o_5' hb
        refine WL.set 37 rfl (congrArg Value.bool hb) ?_
        refine WL.val (OV.move rfl) rfl rfl rfl ?_
        refine WL.val (OV.move rfl) rfl rfl rfl ?_
        refine WL.val (OV.len rfl tf_str_9) rfl rfl rfl ?_
        refine WL.val (OV.move rfl) rfl rfl rfl ?_
        refine WL.val (OV.len rfl tf_str_9) rfl rfl rfl ?_
        refine WL.val (OV.add rfl rfl o_4') rfl rfl rfl ?_
        refine WL.val (OV.eql rfl rfl) rfl rfl rfl ?_
        refine WL.val (OV.pickT rfl rfl) rfl rfl rfl ?_
        refine WL.set 45 rfl (bT (v := decide ((readM ((head ++ (showL x)) ++ rest) (head.length : Int)).2.1 = (head.length : Int) + ((showL x).length : Int))) hb) ?_
        exact WL.end_ (KX.go hK_9' ⟨rfl, trivial⟩)
      · refine WL.set 37 rfl (congrArg Value.bool hb) ?_
        refine WL.skip rfl rfl rfl ?_
        refine WL.skip rfl rfl rfl ?_
        refine WL.skip rfl rfl rfl ?_
        refine WL.skip rfl rfl rfl ?_
        refine WL.skip rfl rfl rfl ?_
        refine WL.skip rfl rfl rfl ?_
        refine WL.skip rfl rfl rfl ?_
        refine WL.val (OV.pickF rfl rfl) rfl rfl rfl ?_
        refine WL.set 45 rfl (bF (v := decide ((readM ((head ++ (showL x)) ++ rest) (head.length : Int)).2.1 = (head.length : Int) + ((showL x).length : Int))) hb) ?_
        exact WL.end_ (KX.go hK_9' ⟨rfl, trivial⟩)
    refine WL.val (OV.assign rfl) rfl rfl rfl ?_
    refine WL.nil ?_
    refine KX.go (hK_7' [(6, Value.bool (((andAll [decide ((readM ((head ++ (showL x)) ++ rest) (head.length : Int)).2.2.1 = 0), decide ((readM ((head ++ (showL x)) ++ rest) (head.length : Int)).2.2.2 = 0), decide (([] : List UInt8) = [])]) && (decide ((readM ((head ++ (showL x)) ++ rest) (head.length : Int)).1 = x))) && (decide ((readM ((head ++ (showL x)) ++ rest) (head.length : Int)).2.1 = (head.length : Int) + ((showL x).length : Int)))))] _ ?_) ⟨rfl, trivial⟩
    refine wc_ret ?_
    exact hE.ret [] rfl rfl (.inl ⟨_, h, rfl⟩) (ResV.of1 rfl (RV.tmp rfl))

def lone_vc (text : List UInt8) (x : CS) (y : CS) (K : Bool → Prop) : Prop :=
  (text.length ≤ 9223372036854775807) ∧
  ∃ (J0 : Prop),
    (∀ (_ : Unit), J0 →
      K ((decide (showL x = showL y)) == (decide (x = y)))) ∧
    (if (andAll [decide ((readM text 0).2.2.1 = 0), decide ((readM text 0).2.2.2 = 0), decide (([] : List UInt8) = [])]) = true then
      ((showL ((readM text 0).1)).length ≤ 9223372036854775807) ∧
      (if (((!andAll [decide ((readM (showL ((readM text 0).1)) 0).2.2.1 = 0), decide ((readM (showL ((readM text 0).1)) 0).2.2.2 = 0), decide (([] : List UInt8) = [])]) || (!decide ((readM (showL ((readM text 0).1)) 0).1 = (readM text 0).1))) || (!decide ((readM (showL ((readM text 0).1)) 0).2.1 = ((showL ((readM text 0).1)).length : Int)))) = true then
        K false
      else
        J0)
    else
      J0)
set_option maxRecDepth 100000 in
theorem lone_wp (te : TypeId) (fre : Nat × Nat) (text : List UInt8) (x : CS) (y : CS) (K : Bool → Prop) (h : lone_vc text x y K) :
    Does Tryd.prog 6 [st text, Value.agg (wl x).toArray, Value.agg (wl y).toArray] [(0, .cells [Value.int .u8 110, Value.int .u8 10, Value.int .u8 114, Value.int .u8 13, Value.int .u8 116, Value.int .u8 9].toArray te fre)] [] (fun o => (∃ (v : Bool), K v ∧ o = .ret (Value.bool v) []) ∨ (False)) := by
  unfold lone_vc at h
  refine does_of_wc (n := 56) (L0 := [(0, st text), (1, Value.agg (wl x).toArray), (2, Value.agg (wl y).toArray)]) Tryd.func6 rfl rfl rfl rfl (fun w0 M Q hE => ?_)
  refine wc_seq (fun K0 hK => ?_)
  refine wc_region ?_
  refine WL.make (MV.box (cs := wl x) rfl rfl) rfl rfl rfl (fun b => ?_)
  refine WL.make (MV.box (cs := wl y) rfl rfl) rfl rfl rfl (fun b_1' => ?_)
  refine WL.val (OV.assign rfl) rfl rfl rfl ?_
  refine WL.nil ?_
  refine KX.go (hK [(0, st text), (4, Value.pointer (some ⟨b, 0, none⟩)), (5, Value.pointer (some ⟨b_1', 0, none⟩))] _ ?_) ⟨rfl, rfl, rfl, trivial⟩
  refine wc_seq (fun K0_1' hK_1' => ?_)
  refine wc_seq (fun K0_2' hK_2' => ?_)
  refine wc_region ?_
  refine WL.call (A := []) tf_ent_7 rfl (Does.ofPureE te fre (speaks_pure)) rfl ⟨.inr (List.mem_of_getElem? (i := 0) rfl), trivial⟩ rfl rfl ?_
  refine WL.val (OV.not rfl) rfl rfl rfl ?_
  refine WL.nil ?_
  refine KX.go (hK_2' [(0, st text), (4, Value.pointer (some ⟨b, 0, none⟩)), (5, Value.pointer (some ⟨b_1', 0, none⟩)), (15, Value.bool false)] _ ?_) ⟨rfl, rfl, rfl, rfl, trivial⟩
  refine wc_condF rfl ?_
  refine wc_skip ?_
  refine KX.go (hK_1' [(0, st text), (4, Value.pointer (some ⟨b, 0, none⟩)), (5, Value.pointer (some ⟨b_1', 0, none⟩))] _ ?_) ⟨rfl, rfl, rfl, trivial⟩
  refine wc_seq (fun K0_3' hK_3' => ?_)
  refine wc_region ?_
  refine WL.val (OV.move rfl) rfl rfl rfl ?_
  obtain ⟨o, h⟩ := h
  refine WL.call (A := []) tf_ent_11 rfl (read_does te fre text 0 o) rfl ⟨.inr (List.mem_of_getElem? (i := 0) rfl), trivial⟩ rfl rfl ?_
  refine WL.val (OV.move rfl) rfl rfl rfl ?_
  refine WL.val (OV.extract 0 rfl rfl) rfl rfl rfl ?_
  refine WL.val (OV.extract 1 rfl rfl) rfl rfl rfl ?_
  refine WL.val (OV.extract 2 rfl rfl) rfl rfl rfl ?_
  refine WL.make (MV.alloc tf_zero_26) rfl rfl rfl (fun b_2' => ?_)
  refine WL.make (MV.alloc tf_zero_34) rfl rfl rfl (fun b_3' => ?_)
  refine WL.storeW (vs := wl ((readM text 0).1)) 1 rfl rfl rfl rfl rfl tf_size_26 rfl rfl rfl ?_
  refine WL.val (OV.assign rfl) rfl rfl rfl ?_
  refine WL.storeW (vs := [Value.int .i64 ((readM text 0).2.2.1), Value.int .i64 ((readM text 0).2.2.2), st []]) 0 rfl rfl rfl rfl rfl tf_size_34 rfl rfl rfl ?_
  refine WL.nil ?_
  refine KX.go (hK_3' [(4, Value.pointer (some ⟨b, 0, none⟩)), (5, Value.pointer (some ⟨b_1', 0, none⟩)), (7, Value.pointer (some ⟨b_2', 0, none⟩)), (9, Value.pointer (some ⟨b_3', 0, none⟩))] _ ?_) ⟨rfl, rfl, rfl, rfl, trivial⟩
  obtain ⟨J0, hJ, h⟩ := h
  refine wc_seqJ (X := Unit) (fun _ => J0) (fun _ => [(4, Value.pointer (some ⟨b, 0, none⟩)), (5, Value.pointer (some ⟨b_1', 0, none⟩))]) (fun _ => [HA.blk b_3' (.cells [Value.int .i64 ((readM text 0).2.2.1), Value.int .i64 ((readM text 0).2.2.2), st []].toArray 34 (0, 0)), HA.blk b_2' (.cells (wl ((readM text 0).1)).toArray 26 (0, 0)), HA.blk b_1' (.cells (wl y).toArray 23 (0, 0)), HA.blk b (.cells (wl x).toArray 23 (0, 0))]) ?_ (fun K0_11' hK_11' => ?_)
  · rintro _ hj
    replace h := hJ () hj
    show WC _ _ _ _ [(4, Value.pointer (some ⟨b, 0, none⟩)), (5, Value.pointer (some ⟨b_1', 0, none⟩))] [HA.blk b_3' (.cells [Value.int .i64 ((readM text 0).2.2.1), Value.int .i64 ((readM text 0).2.2.2), st []].toArray 34 (0, 0)), HA.blk b_2' (.cells (wl ((readM text 0).1)).toArray 26 (0, 0)), HA.blk b_1' (.cells (wl y).toArray 23 (0, 0)), HA.blk b (.cells (wl x).toArray 23 (0, 0))]
    refine wc_seq (fun K0_12' hK_12' => ?_)
    refine wc_draw 8 [] tf_mixed (by kernel_rfl) rfl (fun T hT => ?_)
    refine FL.val (fun _ => OV.loadR rfl (At.own 3 rfl) tf_row_23) rfl (fun _ => rfl) rfl rfl ?_
    refine FL.call tf_ent_8 (fun _ => rfl) (Does.ofPureE te fre (show_pure x)) ⟨.inr (List.mem_of_getElem? (i := 0) rfl), trivial⟩ rfl (fun _ => rfl) rfl ?_
    refine FL.val (fun _ => OV.loadR rfl (At.own 2 rfl) tf_row_23) rfl (fun _ => rfl) rfl rfl ?_
    refine FL.call tf_ent_8 (fun _ => rfl) (Does.ofPureE te fre (show_pure y)) ⟨.inr (List.mem_of_getElem? (i := 0) rfl), trivial⟩ rfl (fun _ => rfl) rfl ?_
    refine FL.val (fun _ => OV.eqlS rfl rfl) rfl (fun _ => rfl) rfl rfl ?_
    refine FL.val (fun _ => OV.loadR rfl (At.own 3 rfl) tf_row_23) rfl (fun _ => rfl) rfl rfl ?_
    refine FL.val (fun _ => OV.loadR rfl (At.own 2 rfl) tf_row_23) rfl (fun _ => rfl) rfl rfl ?_
    refine FL.val (fun _ => OV.eqlA (xs := wl x) (ys := wl y) rfl rfl tf_eqg_23 (eqlCS Tryd.underlying23 x y)) rfl (fun _ => rfl) rfl rfl ?_
    refine FL.weak (L' := fun γ => [(51, Value.bool (decide (showL x = showL y))), (54, Value.bool (decide (x = y)))]) (fun γ => ⟨rfl, rfl, trivial⟩) (FL.nil (hT (fun γ => [(51, Value.bool (decide (showL x = showL y))), (54, Value.bool (decide (x = y)))]) (fun γ => ?_)))
    refine WL.val (OV.eqlB rfl rfl Tryd.underlying4) rfl rfl rfl ?_
    refine WL.val (OV.assign rfl) rfl rfl rfl ?_
    refine WL.nil ?_
    refine KX.go (hK_12' [(6, Value.bool ((decide (showL x = showL y)) == (decide (x = y))))] _ ?_) ⟨rfl, trivial⟩
    refine wc_ret ?_
    exact hE.ret [] rfl rfl (.inl ⟨_, h, rfl⟩) (ResV.of1 rfl (RV.tmp rfl))
  · skip
    refine wc_seq (fun K0_13' hK_13' => ?_)
    refine wc_region ?_
    refine WL.val (OV.loadR rfl (At.own 0 rfl) tf_row_34) rfl rfl rfl ?_
    refine WL.val (OV.build rfl (cs := [Value.int .i64 0, Value.int .i64 0, st []]) rfl) rfl rfl rfl ?_
    refine WL.val (OV.eqlF (rs := [decide ((readM text 0).2.2.1 = 0), decide ((readM text 0).2.2.2 = 0), decide (([] : List UInt8) = [])]) rfl rfl Tryd.underlying34 tf_stood_34 tf_eqg_34 ⟨rfl, tf_scal_32, ⟨_, _, rfl, rfl, ScalEq.int Tryd.underlying32⟩, ⟨rfl, tf_scal_3, ⟨_, _, rfl, rfl, ScalEq.int Tryd.underlying3⟩, ⟨rfl, tf_scal_9, ⟨_, _, rfl, rfl, ScalEq.str Tryd.underlying9⟩, trivial⟩⟩⟩) rfl rfl rfl ?_
    refine WL.nil ?_
    refine KX.go (hK_13' [(4, Value.pointer (some ⟨b, 0, none⟩)), (5, Value.pointer (some ⟨b_1', 0, none⟩)), (7, Value.pointer (some ⟨b_2', 0, none⟩)), (24, Value.bool (andAll [decide ((readM text 0).2.2.1 = 0), decide ((readM text 0).2.2.2 = 0), decide (([] : List UInt8) = [])]))] _ ?_) ⟨rfl, rfl, rfl, rfl, trivial⟩
    refine wc_cond (b := andAll [decide ((readM text 0).2.2.1 = 0), decide ((readM text 0).2.2.2 = 0), decide (([] : List UInt8) = [])]) rfl (fun hb => ?_) (fun hb => ?_)
    · replace h := if_T h hb
      refine wc_seq (fun K0_14' hK_14' => ?_)
      refine wc_region ?_
      refine WL.val (OV.loadR rfl (At.own 1 rfl) tf_row_26) rfl rfl rfl ?_
      refine WL.call (A := []) tf_ent_8 rfl (Does.ofPureE te fre (show_pure ((readM text 0).1))) rfl ⟨.inr (List.mem_of_getElem? (i := 0) rfl), trivial⟩ rfl rfl ?_
      refine WL.val (OV.assign rfl) rfl rfl rfl ?_
      refine WL.nil ?_
      refine KX.go (hK_14' [(4, Value.pointer (some ⟨b, 0, none⟩)), (5, Value.pointer (some ⟨b_1', 0, none⟩)), (7, Value.pointer (some ⟨b_2', 0, none⟩)), (10, st (showL ((readM text 0).1)))] _ ?_) ⟨rfl, rfl, rfl, rfl, trivial⟩
      refine wc_seq (fun K0_15' hK_15' => ?_)
      refine wc_region ?_
      refine WL.val (OV.move rfl) rfl rfl rfl ?_
      obtain ⟨o_4', h⟩ := h
      refine WL.call (A := []) tf_ent_11 rfl (read_does te fre (showL ((readM text 0).1)) 0 o_4') rfl ⟨.inr (List.mem_of_getElem? (i := 0) rfl), trivial⟩ rfl rfl ?_
      refine WL.val (OV.move rfl) rfl rfl rfl ?_
      refine WL.val (OV.extract 0 rfl rfl) rfl rfl rfl ?_
      refine WL.val (OV.extract 1 rfl rfl) rfl rfl rfl ?_
      refine WL.val (OV.extract 2 rfl rfl) rfl rfl rfl ?_
      refine WL.make (MV.alloc tf_zero_26) rfl rfl rfl (fun b_6' => ?_)
      refine WL.make (MV.alloc tf_zero_34) rfl rfl rfl (fun b_7' => ?_)
      refine WL.storeW (vs := wl ((readM (showL ((readM text 0).1)) 0).1)) 1 rfl rfl rfl rfl rfl tf_size_26 rfl rfl rfl ?_
      refine WL.val (OV.assign rfl) rfl rfl rfl ?_
      refine WL.storeW (vs := [Value.int .i64 ((readM (showL ((readM text 0).1)) 0).2.2.1), Value.int .i64 ((readM (showL ((readM text 0).1)) 0).2.2.2), st []]) 0 rfl rfl rfl rfl rfl tf_size_34 rfl rfl rfl ?_
      refine WL.nil ?_
      refine KX.go (hK_15' [(4, Value.pointer (some ⟨b, 0, none⟩)), (5, Value.pointer (some ⟨b_1', 0, none⟩)), (7, Value.pointer (some ⟨b_2', 0, none⟩)), (10, st (showL ((readM text 0).1))), (11, Value.pointer (some ⟨b_6', 0, none⟩)), (12, Value.int .i64 ((readM (showL ((readM text 0).1)) 0).2.1)), (13, Value.pointer (some ⟨b_7', 0, none⟩))] _ ?_) ⟨rfl, rfl, rfl, rfl, rfl, rfl, rfl, trivial⟩
      refine wc_seq (fun K0_16' hK_16' => ?_)
      refine wc_region ?_
      refine WL.val (OV.loadR rfl (At.own 0 rfl) tf_row_34) rfl rfl rfl ?_
      refine WL.val (OV.build rfl (cs := [Value.int .i64 0, Value.int .i64 0, st []]) rfl) rfl rfl rfl ?_
      refine WL.val (OV.neqF (rs := [decide ((readM (showL ((readM text 0).1)) 0).2.2.1 = 0), decide ((readM (showL ((readM text 0).1)) 0).2.2.2 = 0), decide (([] : List UInt8) = [])]) rfl rfl Tryd.underlying34 tf_stood_34 tf_eqg_34 ⟨rfl, tf_scal_32, ⟨_, _, rfl, rfl, ScalEq.int Tryd.underlying32⟩, ⟨rfl, tf_scal_3, ⟨_, _, rfl, rfl, ScalEq.int Tryd.underlying3⟩, ⟨rfl, tf_scal_9, ⟨_, _, rfl, rfl, ScalEq.str Tryd.underlying9⟩, trivial⟩⟩⟩) rfl rfl rfl ?_
      refine WL.val (OV.move rfl) rfl rfl rfl ?_
      refine WL.cut 4 [(4, Value.pointer (some ⟨b, 0, none⟩)), (5, Value.pointer (some ⟨b_1', 0, none⟩)), (10, st (showL ((readM text 0).1))), (12, Value.int .i64 ((readM (showL ((readM text 0).1)) 0).2.1)), (40, Value.bool ((!andAll [decide ((readM (showL ((readM text 0).1)) 0).2.2.1 = 0), decide ((readM (showL ((readM text 0).1)) 0).2.2.2 = 0), decide (([] : List UInt8) = [])]) || (!decide ((readM (showL ((readM text 0).1)) 0).1 = (readM text 0).1))))] ?_ (fun K0_17' hK_17' => ?_)
      rotate_left
      · refine WL.split (!andAll [decide ((readM (showL ((readM text 0).1)) 0).2.2.1 = 0), decide ((readM (showL ((readM text 0).1)) 0).2.2.2 = 0), decide (([] : List UInt8) = [])]) (fun hb => ?_) (fun hb => ?_)
        · refine WL.set 36 rfl (congrArg Value.bool hb) ?_
          refine WL.skip rfl rfl rfl ?_
          refine WL.skip rfl rfl rfl ?_
          refine WL.skip rfl rfl rfl ?_
          refine WL.val (OV.pickT rfl rfl) rfl rfl rfl ?_
          refine WL.set 40 rfl (oT (v := !decide ((readM (showL ((readM text 0).1)) 0).1 = (readM text 0).1)) hb) ?_
          exact WL.end_ (KX.go hK_17' ⟨rfl, rfl, rfl, rfl, rfl, trivial⟩)
        · refine WL.set 36 rfl (congrArg Value.bool hb) ?_
          refine WL.val (OV.loadR rfl (At.own 1 rfl) tf_row_26) rfl rfl rfl ?_
          refine WL.val (OV.loadR rfl (At.own 3 rfl) tf_row_26) rfl rfl rfl ?_
          refine WL.val (OV.neqA (xs := wl ((readM (showL ((readM text 0).1)) 0).1)) (ys := wl ((readM text 0).1)) rfl rfl tf_eqg_26 (eqlCS Tryd.underlying26 ((readM (showL ((readM text 0).1)) 0).1) ((readM text 0).1))) rfl rfl rfl ?_
          refine WL.val (OV.pickF rfl rfl) rfl rfl rfl ?_
          refine WL.set 40 rfl (oF (v := !decide ((readM (showL ((readM text 0).1)) 0).1 = (readM text 0).1)) hb) ?_
          exact WL.end_ (KX.go hK_17' ⟨rfl, rfl, rfl, rfl, rfl, trivial⟩)
      refine WL.val (OV.move rfl) rfl rfl rfl ?_
      refine WL.cut 5 [(4, Value.pointer (some ⟨b, 0, none⟩)), (5, Value.pointer (some ⟨b_1', 0, none⟩)), (46, Value.bool (((!andAll [decide ((readM (showL ((readM text 0).1)) 0).2.2.1 = 0), decide ((readM (showL ((readM text 0).1)) 0).2.2.2 = 0), decide (([] : List UInt8) = [])]) || (!decide ((readM (showL ((readM text 0).1)) 0).1 = (readM text 0).1))) || (!decide ((readM (showL ((readM text 0).1)) 0).2.1 = ((showL ((readM text 0).1)).length : Int)))))] ?_ (fun K0_18' hK_18' => ?_)
      rotate_left
      · refine WL.split ((!andAll [decide ((readM (showL ((readM text 0).1)) 0).2.2.1 = 0), decide ((readM (showL ((readM text 0).1)) 0).2.2.2 = 0), decide (([] : List UInt8) = [])]) || (!decide ((readM (showL ((readM text 0).1)) 0).1 = (readM text 0).1))) (fun hb => ?_) (fun hb => ?_)
        · refine WL.set 41 rfl (congrArg Value.bool hb) ?_
          refine WL.skip rfl rfl rfl ?_
          refine WL.skip rfl rfl rfl ?_
          refine WL.skip rfl rfl rfl ?_
          refine WL.skip rfl rfl rfl ?_
          refine WL.val (OV.pickT rfl rfl) rfl rfl rfl ?_
          refine WL.set 46 rfl (oT (v := !decide ((readM (showL ((readM text 0).1)) 0).2.1 = ((showL ((readM text 0).1)).length : Int))) hb) ?_
          exact WL.end_ (KX.go hK_18' ⟨rfl, rfl, rfl, trivial⟩)
        · refine WL.set 41 rfl (congrArg Value.bool hb) ?_
          refine WL.val (OV.move rfl) rfl rfl rfl ?_
          refine WL.val (OV.move rfl) rfl rfl rfl ?_
          refine WL.val (OV.len rfl tf_str_9) rfl rfl rfl ?_
          refine WL.val (OV.neq rfl rfl) rfl rfl rfl ?_
          refine WL.val (OV.pickF rfl rfl) rfl rfl rfl ?_
          refine WL.set 46 rfl (oF (v := !decide ((readM (showL ((readM text 0).1)) 0).2.1 = ((showL ((readM text 0).1)).length : Int))) hb) ?_
          exact WL.end_ (KX.go hK_18' ⟨rfl, rfl, rfl, trivial⟩)
      refine WL.nil ?_
      refine KX.go (hK_16' [(4, Value.pointer (some ⟨b, 0, none⟩)), (5, Value.pointer (some ⟨b_1', 0, none⟩)), (46, Value.bool (((!andAll [decide ((readM (showL ((readM text 0).1)) 0).2.2.1 = 0), decide ((readM (showL ((readM text 0).1)) 0).2.2.2 = 0), decide (([] : List UInt8) = [])]) || (!decide ((readM (showL ((readM text 0).1)) 0).1 = (readM text 0).1))) || (!decide ((readM (showL ((readM text 0).1)) 0).2.1 = ((showL ((readM text 0).1)).length : Int)))))] _ ?_) ⟨rfl, rfl, rfl, trivial⟩
      refine wc_cond (b := ((!andAll [decide ((readM (showL ((readM text 0).1)) 0).2.2.1 = 0), decide ((readM (showL ((readM text 0).1)) 0).2.2.2 = 0), decide (([] : List UInt8) = [])]) || (!decide ((readM (showL ((readM text 0).1)) 0).1 = (readM text 0).1))) || (!decide ((readM (showL ((readM text 0).1)) 0).2.1 = ((showL ((readM text 0).1)).length : Int)))) rfl (fun hb => ?_) (fun hb => ?_)
      · replace h := if_T h hb
        refine wc_seq (fun K0_19' hK_19' => ?_)
        refine wc_region ?_
        refine WL.val (OV.assign rfl) rfl rfl rfl ?_
        refine WL.nil ?_
        refine KX.go (hK_19' [(6, Value.bool false)] _ ?_) ⟨rfl, trivial⟩
        refine wc_ret ?_
        exact hE.ret [] rfl rfl (.inl ⟨_, h, rfl⟩) (ResV.of1 rfl (RV.tmp rfl))
      · replace h := if_F h hb
        refine wc_skip ?_
        exact KX.goH (hK_11' () h) ⟨rfl, rfl, trivial⟩ [2, 3, 4, 5] rfl rfl
    · replace h := if_F h hb
      refine wc_skip ?_
      exact KX.goH (hK_11' () h) ⟨rfl, rfl, trivial⟩ [0, 1, 2, 3] rfl rfl

theorem reads_does (te : TypeId) (fre : Nat × Nat) (t : List UInt8) (a : Int) (h : t.length ≤ 9223372036854775807) : Does Tryd.prog 4 [st t, .int .i64 a] (escTab te fre) [] (Ret (.bool true) []) := by
  refine (lreads_wp te fre t a (fun r => r = true) ?_).weak ?_
  · unfold lreads_vc
    refine ⟨by omega, h, fun s hs => ?_⟩
    rw [if_neg (by simp [andAll])]
    have : mkS s = (readM t a).1 := set_ext fun j hj => by rw [mkS_bit _ _ hj, hs j hj]
    rw [this]; simp
  · rintro o (⟨v, rfl, rfl⟩ | h)
    · rfl
    · exact h.elim
theorem back_does (te : TypeId) (fre : Nat × Nat) (x : CS) (hd rs : List UInt8) (h : hd.length ≤ 140737488355328) (h2 : rs.length ≤ 140737488355328) : Does Tryd.prog 5 [.agg (wl x).toArray, st hd, st rs] (escTab te fre) [] (Ret (.bool true) []) := by
  refine (lback_wp te fre x hd rs (fun r => r = true) ?_).weak ?_
  · unfold lback_vc
    have h3 := showL_len x
    have hr : readM ((hd ++ showL x) ++ rs) (hd.length : Int) = (x, ((hd.length + (showL x).length : Nat) : Int), 0, 0) := read_at x (v := rs) (by unfold At0; simp)
    rw [if_neg (by simpa using showL_ne x), hr]
    refine ⟨by omega, by simp only [List.length_append]; omega, by simp only [List.length_append]; omega, ?_, ?_⟩
    · intro _; first | exact ⟨by omega, by omega⟩ | (refine ⟨?_, ?_⟩ <;> omega) | omega
    · simp [andAll]
  · rintro o (⟨v, rfl, rfl⟩ | h)
    · rfl
    · exact h.elim
theorem lone_does (te : TypeId) (fre : Nat × Nat) (t : List UInt8) (x y : CS) (h : t.length ≤ 9223372036854775807) : Does Tryd.prog 6 [st t, .agg (wl x).toArray, .agg (wl y).toArray] (escTab te fre) [] (Ret (.bool true) []) := by
  refine (lone_wp te fre t x y (fun r => r = true) ?_).weak ?_
  · unfold lone_vc
    have hJ : ((decide (showL x = showL y)) == (decide (x = y))) = true := by
      rw [beq_iff_eq, decide_eq_decide]; exact showL_inj
    refine ⟨by omega, True, fun _ _ => hJ, ?_⟩
    obtain ⟨a, ha⟩ : ∃ a, a = (readM t 0).1 := ⟨_, rfl⟩
    have hr : readM (showL a) 0 = (a, ((0 + (showL a).length : Nat) : Int), 0, 0) := read_at a (v := []) (p := 0) (by unfold At0; simp)
    rw [← ha]
    by_cases hf : andAll [decide ((readM t 0).2.2.1 = 0), decide ((readM t 0).2.2.2 = 0), decide (([] : List UInt8) = [])] = true
    · rw [if_pos hf, hr]
      have := showL_len a
      refine ⟨by omega, ?_⟩
      rw [if_neg (by simp [andAll])]; trivial
    · rw [if_neg hf]; trivial
  · rintro o (⟨v, rfl, rfl⟩ | h)
    · rfl
    · exact h.elim

end Go.Proofs.YtkjnhjhkaaampaaDoor
