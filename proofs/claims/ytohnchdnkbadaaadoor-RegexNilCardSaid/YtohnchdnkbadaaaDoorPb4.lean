/-
  Merged: RxV.
-/
import Derived.Test.YtohnchdnkbadaaaDoorPb3
namespace Go.Proofs.YtohnchdnkbadaaaDoor
open Go Go.RowKit

theorem tf_conc_87 : Program.concrete Tryd.prog 87 = true := by kernel_rfl
theorem tf_field_51_0 : fieldOff Tryd.prog 51 0 = some 0 := by kernel_rfl
theorem tf_scal_23 : scalB Tryd.prog 23 = true := by kernel_rfl
theorem tf_ent_56 : entB Tryd.prog 56 = true := by kernel_rfl
theorem tf_field_51_1 : fieldOff Tryd.prog 51 1 = some 1 := by kernel_rfl
theorem tf_field_165_0 : fieldOff Tryd.prog 165 0 = some 0 := by kernel_rfl
theorem tf_field_165_1 : fieldOff Tryd.prog 165 1 = some 1 := by kernel_rfl
theorem tf_field_167_0 : fieldOff Tryd.prog 167 0 = some 0 := by kernel_rfl
theorem tf_field_163_0 : fieldOff Tryd.prog 163 0 = some 0 := by kernel_rfl
theorem tf_field_163_1 : fieldOff Tryd.prog 163 1 = some 1 := by kernel_rfl
theorem tf_field_164_0 : fieldOff Tryd.prog 164 0 = some 0 := by kernel_rfl
theorem tf_field_164_1 : fieldOff Tryd.prog 164 1 = some 1 := by kernel_rfl
theorem tf_cc_163 : concB Tryd.prog 163 = true := by kernel_rfl
theorem tf_zv_163 : zeroV Tryd.prog 163 = some (Value.agg [Tr.val Tr.none, Tr.val Tr.none].toArray) := by kernel_rfl
theorem tf_cc_164 : concB Tryd.prog 164 = true := by kernel_rfl
theorem tf_zv_164 : zeroV Tryd.prog 164 = some (Value.agg [Tr.val Tr.none, Tr.val Tr.none].toArray) := by kernel_rfl
theorem tf_cc_51 : concB Tryd.prog 51 = true := by kernel_rfl
theorem tf_zv_51 : zeroV Tryd.prog 51 = some (Value.agg [Tr.val Tr.none, Tr.val Tr.none].toArray) := by kernel_rfl
theorem tf_cc_165 : concB Tryd.prog 165 = true := by kernel_rfl
theorem tf_zv_165 : zeroV Tryd.prog 165 = some (Value.agg [Tr.val Tr.none, Tr.val Tr.none].toArray) := by kernel_rfl
theorem tf_cc_167 : concB Tryd.prog 167 = true := by kernel_rfl
theorem tf_zv_167 : zeroV Tryd.prog 167 = some (Value.agg [Tr.val Tr.none].toArray) := by kernel_rfl
theorem tf_zero_51 : zeroB Tryd.prog 51 = some [Tr.val Tr.none, Tr.val Tr.none] := by kernel_rfl
theorem tf_size_51 : sizeB Tryd.prog 51 2 = true := by kernel_rfl
theorem tf_ent_40 : entB Tryd.prog 40 = true := by kernel_rfl
theorem tf_zero_165 : zeroB Tryd.prog 165 = some [Tr.val Tr.none, Tr.val Tr.none] := by kernel_rfl
theorem tf_size_165 : sizeB Tryd.prog 165 2 = true := by kernel_rfl
theorem tf_zero_167 : zeroB Tryd.prog 167 = some [Tr.val Tr.none] := by kernel_rfl
theorem tf_size_167 : sizeB Tryd.prog 167 1 = true := by kernel_rfl
theorem tf_ent_55 : entB Tryd.prog 55 = true := by kernel_rfl
theorem tf_conc_51 : Program.concrete Tryd.prog 51 = true := by kernel_rfl
theorem tf_conc_165 : Program.concrete Tryd.prog 165 = true := by kernel_rfl
theorem tf_conc_167 : Program.concrete Tryd.prog 167 = true := by kernel_rfl
theorem tf_zero_163 : zeroB Tryd.prog 163 = some [Tr.val Tr.none, Tr.val Tr.none] := by kernel_rfl
theorem tf_size_163 : sizeB Tryd.prog 163 2 = true := by kernel_rfl
theorem tf_conc_163 : Program.concrete Tryd.prog 163 = true := by kernel_rfl
theorem tf_zero_164 : zeroB Tryd.prog 164 = some [Tr.val Tr.none, Tr.val Tr.none] := by kernel_rfl
theorem tf_size_164 : sizeB Tryd.prog 164 2 = true := by kernel_rfl
theorem tf_conc_164 : Program.concrete Tryd.prog 164 = true := by kernel_rfl
theorem tf_cc_49 : concB Tryd.prog 49 = true := by kernel_rfl
theorem tf_zv_49 : zeroV Tryd.prog 49 = some (Value.agg [].toArray) := by kernel_rfl
theorem tf_cc_87 : concB Tryd.prog 87 = true := by kernel_rfl
theorem tf_zv_87 : zeroV Tryd.prog 87 = some (Value.agg (wl cs0).toArray) := by kernel_rfl
theorem tf_zero_49 : zeroB Tryd.prog 49 = some [] := by kernel_rfl
theorem tf_size_49 : sizeB Tryd.prog 49 0 = true := by kernel_rfl
theorem tf_zero_87 : zeroB Tryd.prog 87 = some (wl cs0) := by kernel_rfl
theorem tf_size_87 : sizeB Tryd.prog 87 4 = true := by kernel_rfl
theorem tf_field_87_0 : fieldOff Tryd.prog 87 0 = some 0 := by kernel_rfl
theorem tf_ent_86 : entB Tryd.prog 86 = true := by kernel_rfl
theorem tf_ent_51 : entB Tryd.prog 51 = true := by kernel_rfl

theorem Does.ofPureE {f : FuncId} {vs : List Value} {v : Value} (te : TypeId) (fre : Nat × Nat) (h : PureE f vs.toArray v) : Does Tryd.prog f vs (escTab te fre) [] (Ret v []) := fun w M hO hn _ hr => by
 have : M = [] := hO
 subst this
 refine (h w ⟨te, fre, (hr (1, .cells escCells te fre) (List.mem_singleton.2 rfl)).1⟩).mono ?_
 rintro en w' ⟨rfl, hb⟩
 exact ⟨[], .inl ⟨v, rfl, rfl⟩, (Hp.start 0 [] w (H := []) rfl hn (fun k hk => by cases hk) hr).below hb⟩

def sure_vc (n : Tr) (K : Tr → Prop) : Prop :=
 (if n.isNone = true then
  K (.cls cs0)
 else
  K n)
set_option maxRecDepth 100000 in
theorem sure_wp  (n : Tr) (K : Tr → Prop) (h : sure_vc n K) :
  Does Tryd.prog 56 [Tr.val n] [] [] (fun o => (∃ (v : Tr), K v ∧ o = .ret (Tr.val v) []) ∨ (False)) := by
 unfold sure_vc at h
 refine does_of_wc (n := 8) (L0 := [(0, Tr.val n)]) Tryd.func56 rfl rfl rfl rfl (fun w0 M Q hE => ?_)
 refine wc_seq (fun K0 hK => ?_)
 refine wc_region ?_
 refine wv (OV.assign rfl) ?_
 refine WL.nil ?_
 refine KX.go (hK [(0, Tr.val n)] _ ?_) ⟨rfl, trivial⟩
 refine wc_seq (fun K0_1' hK_1' => ?_)
 refine wc_seq (fun K0_2' hK_2' => ?_)
 refine wc_region ?_
 refine wv (OV.move rfl) ?_
 refine wv (OV.eqlTr rfl Tryd.underlying23) ?_
 refine WL.nil ?_
 refine KX.go (hK_2' [(0, Tr.val n), (4, zB n.isNone)] _ ?_) ⟨rfl, rfl, trivial⟩
 refine wc_cond (b := n.isNone) rfl (fun hb => ?_) (fun hb => ?_)
 ·replace h := if_T h hb
  refine wc_seq (fun K0_3' hK_3' => ?_)
  refine wc_region ?_
  refine wv (OV.build rfl (cs := wl cs0) rfl) ?_
  refine wv (OV.cast (OV.iface rfl tf_conc_87) (v' := Tr.val (.cls cs0)) rfl) ?_
  refine wv (OV.assign rfl) ?_
  refine WL.nil ?_
  refine KX.go (hK_3' [(2, Tr.val (.cls cs0))] _ ?_) ⟨rfl, trivial⟩
  refine wc_ret ?_
  exact hE.ret [] rfl rfl (.inl ⟨_, h, rfl⟩) (ResV.of1 rfl (RV.tmp rfl))
 ·replace h := if_F h hb
  refine wc_skip ?_
  refine KX.go (hK_1' [(0, Tr.val n)] _ ?_) ⟨rfl, trivial⟩
  refine wc_seq (fun K0_4' hK_4' => ?_)
  refine wc_region ?_
  refine wv (OV.move rfl) ?_
  refine wv (OV.assign rfl) ?_
  refine WL.nil ?_
  refine KX.go (hK_4' [(2, Tr.val n)] _ ?_) ⟨rfl, trivial⟩
  refine wc_ret ?_
  exact hE.ret [] rfl rfl (.inl ⟨_, h, rfl⟩) (ResV.of1 rfl (RV.tmp rfl))

theorem Tr.val_one (x : Tr) : x.val.oneCell' = true := by cases x <;> rfl
theorem Tr.val_cells (x : Tr) : x.val.cells = [x.val].toArray := cells_one x.val_one
theorem sure_does (x : Tr) : Does Tryd.prog 56 [x.val] [] [] (Ret x.sure.val []) :=
 Does.one (sure_wp x (fun v => v = x.sure) (by unfold sure_vc; cases x <;> simp [Tr.isNone, Tr.sure]))
def rankT : Tr → Int
 | .alt _ _ => 0
 | .and _ _ | .minus _ _ => 1
 | .cat _ _ => 2
 | .star _ => 3
 | _ => 4
/-- In parentheses, where a higher rank is asked for. -/
def parT (x : Tr) (n : Int) (s : List UInt8) : List UInt8 := if rankT x < n then [40] ++ s ++ [41] else s
def showO : Tr → List UInt8
 | .none => [91, 93]
 | .eps => [40, 41]
 | .cls s => showL s
 | .alt a b => (parT a 0 (showO a) ++ [124]) ++ parT b 1 (showO b)
 | .and a b => (parT a 1 (showO a) ++ [38]) ++ parT b 2 (showO b)
 | .minus a b => (parT a 1 (showO a) ++ [45]) ++ parT b 2 (showO b)
 | .cat a b => parT a 2 (showO a) ++ parT b 3 (showO b)
 | .star a => parT a 3 (showO a) ++ [42]
def showT (x : Tr) (n : Int) : List UInt8 := parT x n (showO x)
theorem parT_len (x : Tr) (n : Int) (s : List UInt8) : (parT x n s).length ≤ s.length + 2 := by
 unfold parT; split <;> simp

def sizeEps_vc  (K : Int → Prop) : Prop :=
 K 1
set_option maxRecDepth 100000 in
theorem sizeEps_wp   (K : Int → Prop) (h : sizeEps_vc  K) :
  Does Tryd.prog 200 [Value.agg [].toArray] [] [] (fun o => (∃ (v : Int), K v ∧ o = .ret (zI v) []) ∨ (False)) := by
 unfold sizeEps_vc at h
 refine does_of_wc (n := 3) (L0 := [(0, Value.agg [].toArray)]) Tryd.func200 rfl rfl rfl rfl (fun w0 M Q hE => ?_)
 refine wc_seq (fun K0 hK => ?_)
 refine wc_region ?_
 refine WL.make (MV.box (cs := []) rfl rfl) rfl rfl rfl (fun b => ?_)
 refine wv (OV.assign rfl) ?_
 refine WL.nil ?_
 refine KX.go (hK [] _ ?_) trivial
 refine wc_seq (fun K0_1' hK_1' => ?_)
 refine wc_region ?_
 refine wv (OV.assign rfl) ?_
 refine WL.nil ?_
 refine KX.go (hK_1' [(2, zI 1)] _ ?_) ⟨rfl, trivial⟩
 refine wc_ret ?_
 exact hE.ret [] rfl rfl (.inl ⟨_, h, rfl⟩) (ResV.of1 rfl (RV.tmp rfl))

def sizeCls_vc (_ : CS) (K : Int → Prop) : Prop :=
 K 1
set_option maxRecDepth 100000 in
theorem sizeCls_wp  (a0 : CS) (K : Int → Prop) (h : sizeCls_vc a0 K) :
  Does Tryd.prog 202 [Value.agg (wl a0).toArray] [] [] (fun o => (∃ (v : Int), K v ∧ o = .ret (zI v) []) ∨ (False)) := by
 unfold sizeCls_vc at h
 refine does_of_wc (n := 3) (L0 := [(0, Value.agg (wl a0).toArray)]) Tryd.func202 rfl rfl rfl rfl (fun w0 M Q hE => ?_)
 refine wc_seq (fun K0 hK => ?_)
 refine wc_region ?_
 refine WL.make (MV.box (cs := wl a0) rfl rfl) rfl rfl rfl (fun b => ?_)
 refine wv (OV.assign rfl) ?_
 refine WL.nil ?_
 refine KX.go (hK [] _ ?_) trivial
 refine wc_seq (fun K0_1' hK_1' => ?_)
 refine wc_region ?_
 refine wv (OV.assign rfl) ?_
 refine WL.nil ?_
 refine KX.go (hK_1' [(2, zI 1)] _ ?_) ⟨rfl, trivial⟩
 refine wc_ret ?_
 exact hE.ret [] rfl rfl (.inl ⟨_, h, rfl⟩) (ResV.of1 rfl (RV.tmp rfl))

def sizeCat_vc (n_0 : Tr) (n_1 : Tr) (K : Int → Prop) : Prop :=
 (DoesM Tryd.prog (Tr.val n_0.sure) "Size" [] (zI ((n_0.sure.size : Nat) : Int))) ∧
 (I64 (1 + ((n_0.sure.size : Nat) : Int))) ∧
 (DoesM Tryd.prog (Tr.val n_1.sure) "Size" [] (zI ((n_1.sure.size : Nat) : Int))) ∧
 (I64 ((1 + ((n_0.sure.size : Nat) : Int)) + ((n_1.sure.size : Nat) : Int))) ∧
 K ((1 + ((n_0.sure.size : Nat) : Int)) + ((n_1.sure.size : Nat) : Int))
set_option maxRecDepth 100000 in
theorem sizeCat_wp  (n_0 : Tr) (n_1 : Tr) (K : Int → Prop) (h : sizeCat_vc n_0 n_1 K) :
  Does Tryd.prog 27 [Value.agg [Tr.val n_0, Tr.val n_1].toArray] [] [] (fun o => (∃ (v : Int), K v ∧ o = .ret (zI v) []) ∨ (False)) := by
 unfold sizeCat_vc at h
 refine does_of_wc (n := 13) (L0 := [(0, Value.agg [Tr.val n_0, Tr.val n_1].toArray)]) Tryd.func27 rfl rfl rfl rfl (fun w0 M Q hE => ?_)
 refine wc_seq (fun K0 hK => ?_)
 refine wc_region ?_
 refine WL.make (MV.box (cs := [Tr.val n_0, Tr.val n_1]) rfl rfl) rfl rfl rfl (fun b => ?_)
 refine wv (OV.assign rfl) ?_
 refine WL.nil ?_
 refine KX.go (hK [(1, zP b)] _ ?_) ⟨rfl, trivial⟩
 refine wc_seq (fun K0_1' hK_1' => ?_)
 refine wc_draw 9 [] tf_mixed (by kernel_rfl) rfl (fun T hT => ?_)
 refine FL.val (fun _ => OV.fieldAddr0 rfl tf_field_51_0) rfl (fun _ => rfl) rfl rfl ?_
 refine FL.val (fun _ => OV.load rfl (At.own 0 rfl) rfl tf_scal_23) rfl (fun _ => rfl) rfl rfl ?_
 refine FL.call tf_ent_56 (fun _ => rfl) (sure_does n_0) trivial rfl (fun _ => rfl) rfl ?_
 obtain ⟨o, h⟩ := h
 refine FL.cv (fun _ => CV.meth rfl o rfl) rfl rfl (fun _ => rfl) rfl ?_
 obtain ⟨o_1', h⟩ := h
 refine FL.val (fun _ => OV.add rfl rfl o_1') rfl (fun _ => rfl) rfl rfl ?_
 refine FL.val (fun _ => OV.fieldAddr0 rfl tf_field_51_1) rfl (fun _ => rfl) rfl rfl ?_
 refine FL.val (fun _ => OV.load rfl (At.own 0 rfl) rfl tf_scal_23) rfl (fun _ => rfl) rfl rfl ?_
 refine FL.call tf_ent_56 (fun _ => rfl) (sure_does n_1) trivial rfl (fun _ => rfl) rfl ?_
 obtain ⟨o_2', h⟩ := h
 refine FL.cv (fun _ => CV.meth rfl o_2' rfl) rfl rfl (fun _ => rfl) rfl ?_
 refine FL.weak (L' := fun γ => [(7, zI (1 + ((n_0.sure.size : Nat) : Int))), (11, zI ((n_1.sure.size : Nat) : Int))]) (fun γ => ⟨rfl, rfl, trivial⟩) (FL.nil (hT (fun γ => [(7, zI (1 + ((n_0.sure.size : Nat) : Int))), (11, zI ((n_1.sure.size : Nat) : Int))]) (fun γ => ?_)))
 obtain ⟨o_3', h⟩ := h
 refine wv (OV.add rfl rfl o_3') ?_
 refine wv (OV.assign rfl) ?_
 refine WL.nil ?_
 refine KX.go (hK_1' [(2, zI ((1 + ((n_0.sure.size : Nat) : Int)) + ((n_1.sure.size : Nat) : Int)))] _ ?_) ⟨rfl, trivial⟩
 refine wc_ret ?_
 exact hE.ret [] rfl rfl (.inl ⟨_, h, rfl⟩) (ResV.of1 rfl (RV.tmp rfl))

def sizeAlt_vc (n_0 : Tr) (n_1 : Tr) (K : Int → Prop) : Prop :=
 (DoesM Tryd.prog (Tr.val n_0.sure) "Size" [] (zI ((n_0.sure.size : Nat) : Int))) ∧
 (I64 (1 + ((n_0.sure.size : Nat) : Int))) ∧
 (DoesM Tryd.prog (Tr.val n_1.sure) "Size" [] (zI ((n_1.sure.size : Nat) : Int))) ∧
 (I64 ((1 + ((n_0.sure.size : Nat) : Int)) + ((n_1.sure.size : Nat) : Int))) ∧
 K ((1 + ((n_0.sure.size : Nat) : Int)) + ((n_1.sure.size : Nat) : Int))
set_option maxRecDepth 100000 in
theorem sizeAlt_wp  (n_0 : Tr) (n_1 : Tr) (K : Int → Prop) (h : sizeAlt_vc n_0 n_1 K) :
  Does Tryd.prog 209 [Value.agg [Tr.val n_0, Tr.val n_1].toArray] [] [] (fun o => (∃ (v : Int), K v ∧ o = .ret (zI v) []) ∨ (False)) := by
 unfold sizeAlt_vc at h
 refine does_of_wc (n := 13) (L0 := [(0, Value.agg [Tr.val n_0, Tr.val n_1].toArray)]) Tryd.func209 rfl rfl rfl rfl (fun w0 M Q hE => ?_)
 refine wc_seq (fun K0 hK => ?_)
 refine wc_region ?_
 refine WL.make (MV.box (cs := [Tr.val n_0, Tr.val n_1]) rfl rfl) rfl rfl rfl (fun b => ?_)
 refine wv (OV.assign rfl) ?_
 refine WL.nil ?_
 refine KX.go (hK [(1, zP b)] _ ?_) ⟨rfl, trivial⟩
 refine wc_seq (fun K0_1' hK_1' => ?_)
 refine wc_draw 9 [] tf_mixed (by kernel_rfl) rfl (fun T hT => ?_)
 refine FL.val (fun _ => OV.fieldAddr0 rfl tf_field_165_0) rfl (fun _ => rfl) rfl rfl ?_
 refine FL.val (fun _ => OV.load rfl (At.own 0 rfl) rfl tf_scal_23) rfl (fun _ => rfl) rfl rfl ?_
 refine FL.call tf_ent_56 (fun _ => rfl) (sure_does n_0) trivial rfl (fun _ => rfl) rfl ?_
 obtain ⟨o, h⟩ := h
 refine FL.cv (fun _ => CV.meth rfl o rfl) rfl rfl (fun _ => rfl) rfl ?_
 obtain ⟨o_1', h⟩ := h
 refine FL.val (fun _ => OV.add rfl rfl o_1') rfl (fun _ => rfl) rfl rfl ?_
 refine FL.val (fun _ => OV.fieldAddr0 rfl tf_field_165_1) rfl (fun _ => rfl) rfl rfl ?_
 refine FL.val (fun _ => OV.load rfl (At.own 0 rfl) rfl tf_scal_23) rfl (fun _ => rfl) rfl rfl ?_
 refine FL.call tf_ent_56 (fun _ => rfl) (sure_does n_1) trivial rfl (fun _ => rfl) rfl ?_
 obtain ⟨o_2', h⟩ := h
 refine FL.cv (fun _ => CV.meth rfl o_2' rfl) rfl rfl (fun _ => rfl) rfl ?_
 refine FL.weak (L' := fun γ => [(7, zI (1 + ((n_0.sure.size : Nat) : Int))), (11, zI ((n_1.sure.size : Nat) : Int))]) (fun γ => ⟨rfl, rfl, trivial⟩) (FL.nil (hT (fun γ => [(7, zI (1 + ((n_0.sure.size : Nat) : Int))), (11, zI ((n_1.sure.size : Nat) : Int))]) (fun γ => ?_)))
 obtain ⟨o_3', h⟩ := h
 refine wv (OV.add rfl rfl o_3') ?_
 refine wv (OV.assign rfl) ?_
 refine WL.nil ?_
 refine KX.go (hK_1' [(2, zI ((1 + ((n_0.sure.size : Nat) : Int)) + ((n_1.sure.size : Nat) : Int)))] _ ?_) ⟨rfl, trivial⟩
 refine wc_ret ?_
 exact hE.ret [] rfl rfl (.inl ⟨_, h, rfl⟩) (ResV.of1 rfl (RV.tmp rfl))

def sizeStar_vc (n_0 : Tr) (K : Int → Prop) : Prop :=
 (DoesM Tryd.prog (Tr.val n_0.sure) "Size" [] (zI ((n_0.sure.size : Nat) : Int))) ∧
 (I64 (1 + ((n_0.sure.size : Nat) : Int))) ∧
 K (1 + ((n_0.sure.size : Nat) : Int))
set_option maxRecDepth 100000 in
theorem sizeStar_wp  (n_0 : Tr) (K : Int → Prop) (h : sizeStar_vc n_0 K) :
  Does Tryd.prog 211 [Value.agg [Tr.val n_0].toArray] [] [] (fun o => (∃ (v : Int), K v ∧ o = .ret (zI v) []) ∨ (False)) := by
 unfold sizeStar_vc at h
 refine does_of_wc (n := 8) (L0 := [(0, Value.agg [Tr.val n_0].toArray)]) Tryd.func211 rfl rfl rfl rfl (fun w0 M Q hE => ?_)
 refine wc_seq (fun K0 hK => ?_)
 refine wc_region ?_
 refine WL.make (MV.box (cs := [Tr.val n_0]) rfl rfl) rfl rfl rfl (fun b => ?_)
 refine wv (OV.assign rfl) ?_
 refine WL.nil ?_
 refine KX.go (hK [(1, zP b)] _ ?_) ⟨rfl, trivial⟩
 refine wc_seq (fun K0_1' hK_1' => ?_)
 refine wc_region ?_
 refine wv (OV.fieldAddr0 rfl tf_field_167_0) ?_
 refine wv (OV.load rfl (At.own 0 rfl) rfl tf_scal_23) ?_
 refine WL.call (A := []) tf_ent_56 rfl (sure_does n_0) rfl trivial rfl rfl ?_
 obtain ⟨o, h⟩ := h
 refine WL.cv (CV.meth rfl o rfl) rfl rfl rfl ?_
 obtain ⟨o_1', h⟩ := h
 refine wv (OV.add rfl rfl o_1') ?_
 refine wv (OV.assign rfl) ?_
 refine WL.nil ?_
 refine KX.go (hK_1' [(2, zI (1 + ((n_0.sure.size : Nat) : Int)))] _ ?_) ⟨rfl, trivial⟩
 refine wc_ret ?_
 exact hE.ret [] rfl rfl (.inl ⟨_, h, rfl⟩) (ResV.of1 rfl (RV.tmp rfl))

def sizeAnd_vc (n_0 : Tr) (n_1 : Tr) (K : Int → Prop) : Prop :=
 (DoesM Tryd.prog (Tr.val n_0.sure) "Size" [] (zI ((n_0.sure.size : Nat) : Int))) ∧
 (I64 (1 + ((n_0.sure.size : Nat) : Int))) ∧
 (DoesM Tryd.prog (Tr.val n_1.sure) "Size" [] (zI ((n_1.sure.size : Nat) : Int))) ∧
 (I64 ((1 + ((n_0.sure.size : Nat) : Int)) + ((n_1.sure.size : Nat) : Int))) ∧
 K ((1 + ((n_0.sure.size : Nat) : Int)) + ((n_1.sure.size : Nat) : Int))
set_option maxRecDepth 100000 in
theorem sizeAnd_wp  (n_0 : Tr) (n_1 : Tr) (K : Int → Prop) (h : sizeAnd_vc n_0 n_1 K) :
  Does Tryd.prog 205 [Value.agg [Tr.val n_0, Tr.val n_1].toArray] [] [] (fun o => (∃ (v : Int), K v ∧ o = .ret (zI v) []) ∨ (False)) := by
 unfold sizeAnd_vc at h
 refine does_of_wc (n := 13) (L0 := [(0, Value.agg [Tr.val n_0, Tr.val n_1].toArray)]) Tryd.func205 rfl rfl rfl rfl (fun w0 M Q hE => ?_)
 refine wc_seq (fun K0 hK => ?_)
 refine wc_region ?_
 refine WL.make (MV.box (cs := [Tr.val n_0, Tr.val n_1]) rfl rfl) rfl rfl rfl (fun b => ?_)
 refine wv (OV.assign rfl) ?_
 refine WL.nil ?_
 refine KX.go (hK [(1, zP b)] _ ?_) ⟨rfl, trivial⟩
 refine wc_seq (fun K0_1' hK_1' => ?_)
 refine wc_draw 9 [] tf_mixed (by kernel_rfl) rfl (fun T hT => ?_)
 refine FL.val (fun _ => OV.fieldAddr0 rfl tf_field_163_0) rfl (fun _ => rfl) rfl rfl ?_
 refine FL.val (fun _ => OV.load rfl (At.own 0 rfl) rfl tf_scal_23) rfl (fun _ => rfl) rfl rfl ?_
 refine FL.call tf_ent_56 (fun _ => rfl) (sure_does n_0) trivial rfl (fun _ => rfl) rfl ?_
 obtain ⟨o, h⟩ := h
 refine FL.cv (fun _ => CV.meth rfl o rfl) rfl rfl (fun _ => rfl) rfl ?_
 obtain ⟨o_1', h⟩ := h
 refine FL.val (fun _ => OV.add rfl rfl o_1') rfl (fun _ => rfl) rfl rfl ?_
 refine FL.val (fun _ => OV.fieldAddr0 rfl tf_field_163_1) rfl (fun _ => rfl) rfl rfl ?_
 refine FL.val (fun _ => OV.load rfl (At.own 0 rfl) rfl tf_scal_23) rfl (fun _ => rfl) rfl rfl ?_
 refine FL.call tf_ent_56 (fun _ => rfl) (sure_does n_1) trivial rfl (fun _ => rfl) rfl ?_
 obtain ⟨o_2', h⟩ := h
 refine FL.cv (fun _ => CV.meth rfl o_2' rfl) rfl rfl (fun _ => rfl) rfl ?_
 refine FL.weak (L' := fun γ => [(7, zI (1 + ((n_0.sure.size : Nat) : Int))), (11, zI ((n_1.sure.size : Nat) : Int))]) (fun γ => ⟨rfl, rfl, trivial⟩) (FL.nil (hT (fun γ => [(7, zI (1 + ((n_0.sure.size : Nat) : Int))), (11, zI ((n_1.sure.size : Nat) : Int))]) (fun γ => ?_)))
 obtain ⟨o_3', h⟩ := h
 refine wv (OV.add rfl rfl o_3') ?_
 refine wv (OV.assign rfl) ?_
 refine WL.nil ?_
 refine KX.go (hK_1' [(2, zI ((1 + ((n_0.sure.size : Nat) : Int)) + ((n_1.sure.size : Nat) : Int)))] _ ?_) ⟨rfl, trivial⟩
 refine wc_ret ?_
 exact hE.ret [] rfl rfl (.inl ⟨_, h, rfl⟩) (ResV.of1 rfl (RV.tmp rfl))

def sizeMinus_vc (n_0 : Tr) (n_1 : Tr) (K : Int → Prop) : Prop :=
 (DoesM Tryd.prog (Tr.val n_0.sure) "Size" [] (zI ((n_0.sure.size : Nat) : Int))) ∧
 (I64 (1 + ((n_0.sure.size : Nat) : Int))) ∧
 (DoesM Tryd.prog (Tr.val n_1.sure) "Size" [] (zI ((n_1.sure.size : Nat) : Int))) ∧
 (I64 ((1 + ((n_0.sure.size : Nat) : Int)) + ((n_1.sure.size : Nat) : Int))) ∧
 K ((1 + ((n_0.sure.size : Nat) : Int)) + ((n_1.sure.size : Nat) : Int))
set_option maxRecDepth 100000 in
theorem sizeMinus_wp  (n_0 : Tr) (n_1 : Tr) (K : Int → Prop) (h : sizeMinus_vc n_0 n_1 K) :
  Does Tryd.prog 207 [Value.agg [Tr.val n_0, Tr.val n_1].toArray] [] [] (fun o => (∃ (v : Int), K v ∧ o = .ret (zI v) []) ∨ (False)) := by
 unfold sizeMinus_vc at h
 refine does_of_wc (n := 13) (L0 := [(0, Value.agg [Tr.val n_0, Tr.val n_1].toArray)]) Tryd.func207 rfl rfl rfl rfl (fun w0 M Q hE => ?_)
 refine wc_seq (fun K0 hK => ?_)
 refine wc_region ?_
 refine WL.make (MV.box (cs := [Tr.val n_0, Tr.val n_1]) rfl rfl) rfl rfl rfl (fun b => ?_)
 refine wv (OV.assign rfl) ?_
 refine WL.nil ?_
 refine KX.go (hK [(1, zP b)] _ ?_) ⟨rfl, trivial⟩
 refine wc_seq (fun K0_1' hK_1' => ?_)
 refine wc_draw 9 [] tf_mixed (by kernel_rfl) rfl (fun T hT => ?_)
 refine FL.val (fun _ => OV.fieldAddr0 rfl tf_field_164_0) rfl (fun _ => rfl) rfl rfl ?_
 refine FL.val (fun _ => OV.load rfl (At.own 0 rfl) rfl tf_scal_23) rfl (fun _ => rfl) rfl rfl ?_
 refine FL.call tf_ent_56 (fun _ => rfl) (sure_does n_0) trivial rfl (fun _ => rfl) rfl ?_
 obtain ⟨o, h⟩ := h
 refine FL.cv (fun _ => CV.meth rfl o rfl) rfl rfl (fun _ => rfl) rfl ?_
 obtain ⟨o_1', h⟩ := h
 refine FL.val (fun _ => OV.add rfl rfl o_1') rfl (fun _ => rfl) rfl rfl ?_
 refine FL.val (fun _ => OV.fieldAddr0 rfl tf_field_164_1) rfl (fun _ => rfl) rfl rfl ?_
 refine FL.val (fun _ => OV.load rfl (At.own 0 rfl) rfl tf_scal_23) rfl (fun _ => rfl) rfl rfl ?_
 refine FL.call tf_ent_56 (fun _ => rfl) (sure_does n_1) trivial rfl (fun _ => rfl) rfl ?_
 obtain ⟨o_2', h⟩ := h
 refine FL.cv (fun _ => CV.meth rfl o_2' rfl) rfl rfl (fun _ => rfl) rfl ?_
 refine FL.weak (L' := fun γ => [(7, zI (1 + ((n_0.sure.size : Nat) : Int))), (11, zI ((n_1.sure.size : Nat) : Int))]) (fun γ => ⟨rfl, rfl, trivial⟩) (FL.nil (hT (fun γ => [(7, zI (1 + ((n_0.sure.size : Nat) : Int))), (11, zI ((n_1.sure.size : Nat) : Int))]) (fun γ => ?_)))
 obtain ⟨o_3', h⟩ := h
 refine wv (OV.add rfl rfl o_3') ?_
 refine wv (OV.assign rfl) ?_
 refine WL.nil ?_
 refine KX.go (hK_1' [(2, zI ((1 + ((n_0.sure.size : Nat) : Int)) + ((n_1.sure.size : Nat) : Int)))] _ ?_) ⟨rfl, trivial⟩
 refine wc_ret ?_
 exact hE.ret [] rfl rfl (.inl ⟨_, h, rfl⟩) (ResV.of1 rfl (RV.tmp rfl))

def nullEps_vc  (K : Bool → Prop) : Prop :=
 K true
set_option maxRecDepth 100000 in
theorem nullEps_wp   (K : Bool → Prop) (h : nullEps_vc  K) :
  Does Tryd.prog 199 [Value.agg [].toArray] [] [] (fun o => (∃ (v : Bool), K v ∧ o = .ret (zB v) []) ∨ (False)) := by
 unfold nullEps_vc at h
 refine does_of_wc (n := 3) (L0 := [(0, Value.agg [].toArray)]) Tryd.func199 rfl rfl rfl rfl (fun w0 M Q hE => ?_)
 refine wc_seq (fun K0 hK => ?_)
 refine wc_region ?_
 refine WL.make (MV.box (cs := []) rfl rfl) rfl rfl rfl (fun b => ?_)
 refine wv (OV.assign rfl) ?_
 refine WL.nil ?_
 refine KX.go (hK [] _ ?_) trivial
 refine wc_seq (fun K0_1' hK_1' => ?_)
 refine wc_region ?_
 refine wv (OV.assign rfl) ?_
 refine WL.nil ?_
 refine KX.go (hK_1' [(2, zB true)] _ ?_) ⟨rfl, trivial⟩
 refine wc_ret ?_
 exact hE.ret [] rfl rfl (.inl ⟨_, h, rfl⟩) (ResV.of1 rfl (RV.tmp rfl))

def nullCls_vc (_ : CS) (K : Bool → Prop) : Prop :=
 K false
set_option maxRecDepth 100000 in
theorem nullCls_wp  (a0 : CS) (K : Bool → Prop) (h : nullCls_vc a0 K) :
  Does Tryd.prog 201 [Value.agg (wl a0).toArray] [] [] (fun o => (∃ (v : Bool), K v ∧ o = .ret (zB v) []) ∨ (False)) := by
 unfold nullCls_vc at h
 refine does_of_wc (n := 3) (L0 := [(0, Value.agg (wl a0).toArray)]) Tryd.func201 rfl rfl rfl rfl (fun w0 M Q hE => ?_)
 refine wc_seq (fun K0 hK => ?_)
 refine wc_region ?_
 refine WL.make (MV.box (cs := wl a0) rfl rfl) rfl rfl rfl (fun b => ?_)
 refine wv (OV.assign rfl) ?_
 refine WL.nil ?_
 refine KX.go (hK [] _ ?_) trivial
 refine wc_seq (fun K0_1' hK_1' => ?_)
 refine wc_region ?_
 refine wv (OV.assign rfl) ?_
 refine WL.nil ?_
 refine KX.go (hK_1' [(2, zB false)] _ ?_) ⟨rfl, trivial⟩
 refine wc_ret ?_
 exact hE.ret [] rfl rfl (.inl ⟨_, h, rfl⟩) (ResV.of1 rfl (RV.tmp rfl))

def nullCat_vc (n_0 : Tr) (n_1 : Tr) (K : Bool → Prop) : Prop :=
 (DoesM Tryd.prog (Tr.val n_0.sure) "Nullable" [] (zB n_0.sure.null)) ∧
 (n_0.sure.null = true → (DoesM Tryd.prog (Tr.val n_1.sure) "Nullable" [] (zB n_1.sure.null))) ∧
 K (n_0.sure.null && n_1.sure.null)
set_option maxRecDepth 100000 in
theorem nullCat_wp  (n_0 : Tr) (n_1 : Tr) (K : Bool → Prop) (h : nullCat_vc n_0 n_1 K) :
  Does Tryd.prog 28 [Value.agg [Tr.val n_0, Tr.val n_1].toArray] [] [] (fun o => (∃ (v : Bool), K v ∧ o = .ret (zB v) []) ∨ (False)) := by
 unfold nullCat_vc at h
 refine does_of_wc (n := 13) (L0 := [(0, Value.agg [Tr.val n_0, Tr.val n_1].toArray)]) Tryd.func28 rfl rfl rfl rfl (fun w0 M Q hE => ?_)
 refine wc_seq (fun K0 hK => ?_)
 refine wc_region ?_
 refine WL.make (MV.box (cs := [Tr.val n_0, Tr.val n_1]) rfl rfl) rfl rfl rfl (fun b => ?_)
 refine wv (OV.assign rfl) ?_
 refine WL.nil ?_
 refine KX.go (hK [(1, zP b)] _ ?_) ⟨rfl, trivial⟩
 refine wc_seq (fun K0_1' hK_1' => ?_)
 refine wc_region ?_
 refine wv (OV.fieldAddr0 rfl tf_field_51_0) ?_
 refine wv (OV.load rfl (At.own 0 rfl) rfl tf_scal_23) ?_
 refine WL.call (A := []) tf_ent_56 rfl (sure_does n_0) rfl trivial rfl rfl ?_
 obtain ⟨o, h⟩ := h
 refine WL.cv (CV.meth rfl o rfl) rfl rfl rfl ?_
 refine wv (OV.move rfl) ?_
 obtain ⟨o_2', h⟩ := h
 refine WL.cut 5 [(12, zB (n_0.sure.null && n_1.sure.null))] ?_ (fun K0_2' hK_2' => ?_)
 rotate_left
 ·refine WL.split (n_0.sure.null) (fun hb => ?_) (fun hb => ?_)
  ·have o_1' := o_2' hb
   refine WL.set 7 rfl (congrArg zB hb) ?_
   refine wv (OV.fieldAddr0 rfl tf_field_51_1) ?_
   refine wv (OV.load rfl (At.own 0 rfl) rfl tf_scal_23) ?_
   refine WL.call (A := []) tf_ent_56 rfl (sure_does n_1) rfl trivial rfl rfl ?_
   refine WL.cv (CV.meth rfl o_1' rfl) rfl rfl rfl ?_
   refine wv (OV.pickT rfl rfl) ?_
   refine WL.set 12 rfl (bT (v := n_1.sure.null) hb) ?_
   exact WL.end_ (KX.go hK_2' ⟨rfl, trivial⟩)
  ·refine WL.set 7 rfl (congrArg zB hb) ?_
   refine WL.skip rfl rfl rfl ?_
   refine WL.skip rfl rfl rfl ?_
   refine WL.skip rfl rfl rfl ?_
   refine WL.skip rfl rfl rfl ?_
   refine wv (OV.pickF rfl rfl) ?_
   refine WL.set 12 rfl (bF (v := n_1.sure.null) hb) ?_
   exact WL.end_ (KX.go hK_2' ⟨rfl, trivial⟩)
 refine wv (OV.assign rfl) ?_
 refine WL.nil ?_
 refine KX.go (hK_1' [(2, zB (n_0.sure.null && n_1.sure.null))] _ ?_) ⟨rfl, trivial⟩
 refine wc_ret ?_
 exact hE.ret [] rfl rfl (.inl ⟨_, h, rfl⟩) (ResV.of1 rfl (RV.tmp rfl))

def nullAlt_vc (n_0 : Tr) (n_1 : Tr) (K : Bool → Prop) : Prop :=
 (DoesM Tryd.prog (Tr.val n_0.sure) "Nullable" [] (zB n_0.sure.null)) ∧
 (n_0.sure.null = false → (DoesM Tryd.prog (Tr.val n_1.sure) "Nullable" [] (zB n_1.sure.null))) ∧
 K (n_0.sure.null || n_1.sure.null)
set_option maxRecDepth 100000 in
theorem nullAlt_wp  (n_0 : Tr) (n_1 : Tr) (K : Bool → Prop) (h : nullAlt_vc n_0 n_1 K) :
  Does Tryd.prog 208 [Value.agg [Tr.val n_0, Tr.val n_1].toArray] [] [] (fun o => (∃ (v : Bool), K v ∧ o = .ret (zB v) []) ∨ (False)) := by
 unfold nullAlt_vc at h
 refine does_of_wc (n := 13) (L0 := [(0, Value.agg [Tr.val n_0, Tr.val n_1].toArray)]) Tryd.func208 rfl rfl rfl rfl (fun w0 M Q hE => ?_)
 refine wc_seq (fun K0 hK => ?_)
 refine wc_region ?_
 refine WL.make (MV.box (cs := [Tr.val n_0, Tr.val n_1]) rfl rfl) rfl rfl rfl (fun b => ?_)
 refine wv (OV.assign rfl) ?_
 refine WL.nil ?_
 refine KX.go (hK [(1, zP b)] _ ?_) ⟨rfl, trivial⟩
 refine wc_seq (fun K0_1' hK_1' => ?_)
 refine wc_region ?_
 refine wv (OV.fieldAddr0 rfl tf_field_165_0) ?_
 refine wv (OV.load rfl (At.own 0 rfl) rfl tf_scal_23) ?_
 refine WL.call (A := []) tf_ent_56 rfl (sure_does n_0) rfl trivial rfl rfl ?_
 obtain ⟨o, h⟩ := h
 refine WL.cv (CV.meth rfl o rfl) rfl rfl rfl ?_
 refine wv (OV.move rfl) ?_
 obtain ⟨o_2', h⟩ := h
 refine WL.cut 5 [(12, zB (n_0.sure.null || n_1.sure.null))] ?_ (fun K0_2' hK_2' => ?_)
 rotate_left
 ·refine WL.split (n_0.sure.null) (fun hb => ?_) (fun hb => ?_)
  ·refine WL.set 7 rfl (congrArg zB hb) ?_
   refine WL.skip rfl rfl rfl ?_
   refine WL.skip rfl rfl rfl ?_
   refine WL.skip rfl rfl rfl ?_
   refine WL.skip rfl rfl rfl ?_
   refine wv (OV.pickT rfl rfl) ?_
   refine WL.set 12 rfl (oT (v := n_1.sure.null) hb) ?_
   exact WL.end_ (KX.go hK_2' ⟨rfl, trivial⟩)
  ·have o_1' := o_2' hb
   refine WL.set 7 rfl (congrArg zB hb) ?_
   refine wv (OV.fieldAddr0 rfl tf_field_165_1) ?_
   refine wv (OV.load rfl (At.own 0 rfl) rfl tf_scal_23) ?_
   refine WL.call (A := []) tf_ent_56 rfl (sure_does n_1) rfl trivial rfl rfl ?_
   refine WL.cv (CV.meth rfl o_1' rfl) rfl rfl rfl ?_
   refine wv (OV.pickF rfl rfl) ?_
   refine WL.set 12 rfl (oF (v := n_1.sure.null) hb) ?_
   exact WL.end_ (KX.go hK_2' ⟨rfl, trivial⟩)
 refine wv (OV.assign rfl) ?_
 refine WL.nil ?_
 refine KX.go (hK_1' [(2, zB (n_0.sure.null || n_1.sure.null))] _ ?_) ⟨rfl, trivial⟩
 refine wc_ret ?_
 exact hE.ret [] rfl rfl (.inl ⟨_, h, rfl⟩) (ResV.of1 rfl (RV.tmp rfl))

def nullStar_vc (_ : Tr) (K : Bool → Prop) : Prop :=
 K true
set_option maxRecDepth 100000 in
theorem nullStar_wp  (a0_0 : Tr) (K : Bool → Prop) (h : nullStar_vc a0_0 K) :
  Does Tryd.prog 210 [Value.agg [Tr.val a0_0].toArray] [] [] (fun o => (∃ (v : Bool), K v ∧ o = .ret (zB v) []) ∨ (False)) := by
 unfold nullStar_vc at h
 refine does_of_wc (n := 3) (L0 := [(0, Value.agg [Tr.val a0_0].toArray)]) Tryd.func210 rfl rfl rfl rfl (fun w0 M Q hE => ?_)
 refine wc_seq (fun K0 hK => ?_)
 refine wc_region ?_
 refine WL.make (MV.box (cs := [Tr.val a0_0]) rfl rfl) rfl rfl rfl (fun b => ?_)
 refine wv (OV.assign rfl) ?_
 refine WL.nil ?_
 refine KX.go (hK [] _ ?_) trivial
 refine wc_seq (fun K0_1' hK_1' => ?_)
 refine wc_region ?_
 refine wv (OV.assign rfl) ?_
 refine WL.nil ?_
 refine KX.go (hK_1' [(2, zB true)] _ ?_) ⟨rfl, trivial⟩
 refine wc_ret ?_
 exact hE.ret [] rfl rfl (.inl ⟨_, h, rfl⟩) (ResV.of1 rfl (RV.tmp rfl))

def nullAnd_vc (n_0 : Tr) (n_1 : Tr) (K : Bool → Prop) : Prop :=
 (DoesM Tryd.prog (Tr.val n_0.sure) "Nullable" [] (zB n_0.sure.null)) ∧
 (n_0.sure.null = true → (DoesM Tryd.prog (Tr.val n_1.sure) "Nullable" [] (zB n_1.sure.null))) ∧
 K (n_0.sure.null && n_1.sure.null)
set_option maxRecDepth 100000 in
theorem nullAnd_wp  (n_0 : Tr) (n_1 : Tr) (K : Bool → Prop) (h : nullAnd_vc n_0 n_1 K) :
  Does Tryd.prog 204 [Value.agg [Tr.val n_0, Tr.val n_1].toArray] [] [] (fun o => (∃ (v : Bool), K v ∧ o = .ret (zB v) []) ∨ (False)) := by
 unfold nullAnd_vc at h
 refine does_of_wc (n := 13) (L0 := [(0, Value.agg [Tr.val n_0, Tr.val n_1].toArray)]) Tryd.func204 rfl rfl rfl rfl (fun w0 M Q hE => ?_)
 refine wc_seq (fun K0 hK => ?_)
 refine wc_region ?_
 refine WL.make (MV.box (cs := [Tr.val n_0, Tr.val n_1]) rfl rfl) rfl rfl rfl (fun b => ?_)
 refine wv (OV.assign rfl) ?_
 refine WL.nil ?_
 refine KX.go (hK [(1, zP b)] _ ?_) ⟨rfl, trivial⟩
 refine wc_seq (fun K0_1' hK_1' => ?_)
 refine wc_region ?_
 refine wv (OV.fieldAddr0 rfl tf_field_163_0) ?_
 refine wv (OV.load rfl (At.own 0 rfl) rfl tf_scal_23) ?_
 refine WL.call (A := []) tf_ent_56 rfl (sure_does n_0) rfl trivial rfl rfl ?_
 obtain ⟨o, h⟩ := h
 refine WL.cv (CV.meth rfl o rfl) rfl rfl rfl ?_
 refine wv (OV.move rfl) ?_
 obtain ⟨o_2', h⟩ := h
 refine WL.cut 5 [(12, zB (n_0.sure.null && n_1.sure.null))] ?_ (fun K0_2' hK_2' => ?_)
 rotate_left
 ·refine WL.split (n_0.sure.null) (fun hb => ?_) (fun hb => ?_)
  ·have o_1' := o_2' hb
   refine WL.set 7 rfl (congrArg zB hb) ?_
   refine wv (OV.fieldAddr0 rfl tf_field_163_1) ?_
   refine wv (OV.load rfl (At.own 0 rfl) rfl tf_scal_23) ?_
   refine WL.call (A := []) tf_ent_56 rfl (sure_does n_1) rfl trivial rfl rfl ?_
   refine WL.cv (CV.meth rfl o_1' rfl) rfl rfl rfl ?_
   refine wv (OV.pickT rfl rfl) ?_
   refine WL.set 12 rfl (bT (v := n_1.sure.null) hb) ?_
   exact WL.end_ (KX.go hK_2' ⟨rfl, trivial⟩)
  ·refine WL.set 7 rfl (congrArg zB hb) ?_
   refine WL.skip rfl rfl rfl ?_
   refine WL.skip rfl rfl rfl ?_
   refine WL.skip rfl rfl rfl ?_
   refine WL.skip rfl rfl rfl ?_
   refine wv (OV.pickF rfl rfl) ?_
   refine WL.set 12 rfl (bF (v := n_1.sure.null) hb) ?_
   exact WL.end_ (KX.go hK_2' ⟨rfl, trivial⟩)
 refine wv (OV.assign rfl) ?_
 refine WL.nil ?_
 refine KX.go (hK_1' [(2, zB (n_0.sure.null && n_1.sure.null))] _ ?_) ⟨rfl, trivial⟩
 refine wc_ret ?_
 exact hE.ret [] rfl rfl (.inl ⟨_, h, rfl⟩) (ResV.of1 rfl (RV.tmp rfl))

def nullMinus_vc (n_0 : Tr) (n_1 : Tr) (K : Bool → Prop) : Prop :=
 (DoesM Tryd.prog (Tr.val n_0.sure) "Nullable" [] (zB n_0.sure.null)) ∧
 (n_0.sure.null = true → (DoesM Tryd.prog (Tr.val n_1.sure) "Nullable" [] (zB n_1.sure.null))) ∧
 K (n_0.sure.null && (!n_1.sure.null))
set_option maxRecDepth 100000 in
theorem nullMinus_wp  (n_0 : Tr) (n_1 : Tr) (K : Bool → Prop) (h : nullMinus_vc n_0 n_1 K) :
  Does Tryd.prog 206 [Value.agg [Tr.val n_0, Tr.val n_1].toArray] [] [] (fun o => (∃ (v : Bool), K v ∧ o = .ret (zB v) []) ∨ (False)) := by
 unfold nullMinus_vc at h
 refine does_of_wc (n := 14) (L0 := [(0, Value.agg [Tr.val n_0, Tr.val n_1].toArray)]) Tryd.func206 rfl rfl rfl rfl (fun w0 M Q hE => ?_)
 refine wc_seq (fun K0 hK => ?_)
 refine wc_region ?_
 refine WL.make (MV.box (cs := [Tr.val n_0, Tr.val n_1]) rfl rfl) rfl rfl rfl (fun b => ?_)
 refine wv (OV.assign rfl) ?_
 refine WL.nil ?_
 refine KX.go (hK [(1, zP b)] _ ?_) ⟨rfl, trivial⟩
 refine wc_seq (fun K0_1' hK_1' => ?_)
 refine wc_region ?_
 refine wv (OV.fieldAddr0 rfl tf_field_164_0) ?_
 refine wv (OV.load rfl (At.own 0 rfl) rfl tf_scal_23) ?_
 refine WL.call (A := []) tf_ent_56 rfl (sure_does n_0) rfl trivial rfl rfl ?_
 obtain ⟨o, h⟩ := h
 refine WL.cv (CV.meth rfl o rfl) rfl rfl rfl ?_
 refine wv (OV.move rfl) ?_
 obtain ⟨o_2', h⟩ := h
 refine WL.cut 6 [(13, zB (n_0.sure.null && (!n_1.sure.null)))] ?_ (fun K0_2' hK_2' => ?_)
 rotate_left
 ·refine WL.split (n_0.sure.null) (fun hb => ?_) (fun hb => ?_)
  ·have o_1' := o_2' hb
   refine WL.set 7 rfl (congrArg zB hb) ?_
   refine wv (OV.fieldAddr0 rfl tf_field_164_1) ?_
   refine wv (OV.load rfl (At.own 0 rfl) rfl tf_scal_23) ?_
   refine WL.call (A := []) tf_ent_56 rfl (sure_does n_1) rfl trivial rfl rfl ?_
   refine WL.cv (CV.meth rfl o_1' rfl) rfl rfl rfl ?_
   refine wv (OV.not rfl) ?_
   refine wv (OV.pickT rfl rfl) ?_
   refine WL.set 13 rfl (bT (v := !n_1.sure.null) hb) ?_
   exact WL.end_ (KX.go hK_2' ⟨rfl, trivial⟩)
  ·refine WL.set 7 rfl (congrArg zB hb) ?_
   refine WL.skip rfl rfl rfl ?_
   refine WL.skip rfl rfl rfl ?_
   refine WL.skip rfl rfl rfl ?_
   refine WL.skip rfl rfl rfl ?_
   refine WL.skip rfl rfl rfl ?_
   refine wv (OV.pickF rfl rfl) ?_
   refine WL.set 13 rfl (bF (v := !n_1.sure.null) hb) ?_
   exact WL.end_ (KX.go hK_2' ⟨rfl, trivial⟩)
 refine wv (OV.assign rfl) ?_
 refine WL.nil ?_
 refine KX.go (hK_1' [(2, zB (n_0.sure.null && (!n_1.sure.null)))] _ ?_) ⟨rfl, trivial⟩
 refine wc_ret ?_
 exact hE.ret [] rfl rfl (.inl ⟨_, h, rfl⟩) (ResV.of1 rfl (RV.tmp rfl))

def plainNone_vc  (K : Bool → Prop) : Prop :=
 K true
set_option maxRecDepth 100000 in
theorem plainNone_wp   (K : Bool → Prop) (h : plainNone_vc  K) :
  Does Tryd.prog 40 [Tr.val Tr.none] [] [] (fun o => (∃ (v : Bool), K v ∧ o = .ret (zB v) []) ∨ (False)) := by
 unfold plainNone_vc at h
 refine does_of_wc (n := 43) (L0 := [(0, Tr.val Tr.none)]) Tryd.func40 rfl rfl rfl rfl (fun w0 M Q hE => ?_)
 refine wc_seq (fun K0 hK => ?_)
 refine wc_region ?_
 refine wv (OV.assign rfl) ?_
 refine WL.nil ?_
 refine KX.go (hK [(0, Tr.val Tr.none)] _ ?_) ⟨rfl, trivial⟩
 refine wc_seq (fun K0_1' hK_1' => ?_)
 refine wc_seq (fun K0_2' hK_2' => ?_)
 refine wc_region ?_
 refine wv (OV.move rfl) ?_
 refine WL.nil ?_
 refine KX.go (hK_2' [(7, Tr.val Tr.none)] _ ?_) ⟨rfl, trivial⟩
 refine wc_block ?_
 refine wc_seq (fun K0_3' hK_3' => ?_)
 refine wc_region ?_
 refine wv (OV.assertNil rfl tf_cc_163 tf_zv_163) ?_
 refine wv (OV.extract 1 rfl rfl) ?_
 refine wv (OV.extract 0 rfl rfl) ?_
 refine wv (OV.assertNil rfl tf_cc_164 tf_zv_164) ?_
 refine wv (OV.extract 1 rfl rfl) ?_
 refine wv (OV.extract 0 rfl rfl) ?_
 refine wv (OV.pickF rfl rfl) ?_
 refine WL.nil ?_
 refine KX.go (hK_3' [(7, Tr.val Tr.none), (14, zB false)] _ ?_) ⟨rfl, rfl, trivial⟩
 refine wc_condF rfl ?_
 refine wc_seq (fun K0_4' hK_4' => ?_)
 refine wc_region ?_
 refine wv (OV.assertNil rfl tf_cc_51 tf_zv_51) ?_
 refine wv (OV.extract 1 rfl rfl) ?_
 refine wv (OV.extract 0 rfl rfl) ?_
 refine WL.nil ?_
 refine KX.go (hK_4' [(7, Tr.val Tr.none), (16, zB false), (17, Value.agg [Tr.val Tr.none, Tr.val Tr.none].toArray)] _ ?_) ⟨rfl, rfl, rfl, trivial⟩
 refine wc_condF rfl ?_
 refine wc_seq (fun K0_5' hK_5' => ?_)
 refine wc_region ?_
 refine wv (OV.assertNil rfl tf_cc_165 tf_zv_165) ?_
 refine wv (OV.extract 1 rfl rfl) ?_
 refine wv (OV.extract 0 rfl rfl) ?_
 refine WL.nil ?_
 refine KX.go (hK_5' [(7, Tr.val Tr.none), (27, zB false), (28, Value.agg [Tr.val Tr.none, Tr.val Tr.none].toArray)] _ ?_) ⟨rfl, rfl, rfl, trivial⟩
 refine wc_condF rfl ?_
 refine wc_seq (fun K0_6' hK_6' => ?_)
 refine wc_region ?_
 refine wv (OV.assertNil rfl tf_cc_167 tf_zv_167) ?_
 refine wv (OV.extract 1 rfl rfl) ?_
 refine wv (OV.extract 0 rfl rfl) ?_
 refine WL.nil ?_
 refine KX.go (hK_6' [(38, zB false), (39, Value.agg [Tr.val Tr.none].toArray)] _ ?_) ⟨rfl, rfl, trivial⟩
 refine wc_condF rfl ?_
 refine wc_skip ?_
 refine KX.go (hK_1' [] _ ?_) trivial
 refine wc_seq (fun K0_7' hK_7' => ?_)
 refine wc_region ?_
 refine wv (OV.assign rfl) ?_
 refine WL.nil ?_
 refine KX.go (hK_7' [(2, zB true)] _ ?_) ⟨rfl, trivial⟩
 refine wc_ret ?_
 exact hE.ret [] rfl rfl (.inl ⟨_, h, rfl⟩) (ResV.of1 rfl (RV.tmp rfl))

def plainEps_vc  (K : Bool → Prop) : Prop :=
 K true
set_option maxRecDepth 100000 in
theorem plainEps_wp   (K : Bool → Prop) (h : plainEps_vc  K) :
  Does Tryd.prog 40 [Tr.val .eps] [] [] (fun o => (∃ (v : Bool), K v ∧ o = .ret (zB v) []) ∨ (False)) := by
 unfold plainEps_vc at h
 refine does_of_wc (n := 43) (L0 := [(0, Tr.val .eps)]) Tryd.func40 rfl rfl rfl rfl (fun w0 M Q hE => ?_)
 refine wc_seq (fun K0 hK => ?_)
 refine wc_region ?_
 refine wv (OV.assign rfl) ?_
 refine WL.nil ?_
 refine KX.go (hK [(0, Tr.val .eps)] _ ?_) ⟨rfl, trivial⟩
 refine wc_seq (fun K0_1' hK_1' => ?_)
 refine wc_seq (fun K0_2' hK_2' => ?_)
 refine wc_region ?_
 refine wv (OV.move rfl) ?_
 refine WL.nil ?_
 refine KX.go (hK_2' [(7, Tr.val .eps)] _ ?_) ⟨rfl, trivial⟩
 refine wc_block ?_
 refine wc_seq (fun K0_3' hK_3' => ?_)
 refine wc_region ?_
 refine wv (OV.assertNo (t2 := 49) (v := Value.agg [].toArray) rfl tf_cc_163 tf_zv_163 rfl) ?_
 refine wv (OV.extract 1 rfl rfl) ?_
 refine wv (OV.extract 0 rfl rfl) ?_
 refine wv (OV.assertNo (t2 := 49) (v := Value.agg [].toArray) rfl tf_cc_164 tf_zv_164 rfl) ?_
 refine wv (OV.extract 1 rfl rfl) ?_
 refine wv (OV.extract 0 rfl rfl) ?_
 refine wv (OV.pickF rfl rfl) ?_
 refine WL.nil ?_
 refine KX.go (hK_3' [(7, Tr.val .eps), (14, zB false)] _ ?_) ⟨rfl, rfl, trivial⟩
 refine wc_condF rfl ?_
 refine wc_seq (fun K0_4' hK_4' => ?_)
 refine wc_region ?_
 refine wv (OV.assertNo (t2 := 49) (v := Value.agg [].toArray) rfl tf_cc_51 tf_zv_51 rfl) ?_
 refine wv (OV.extract 1 rfl rfl) ?_
 refine wv (OV.extract 0 rfl rfl) ?_
 refine WL.nil ?_
 refine KX.go (hK_4' [(7, Tr.val .eps), (16, zB false), (17, Value.agg [Tr.val Tr.none, Tr.val Tr.none].toArray)] _ ?_) ⟨rfl, rfl, rfl, trivial⟩
 refine wc_condF rfl ?_
 refine wc_seq (fun K0_5' hK_5' => ?_)
 refine wc_region ?_
 refine wv (OV.assertNo (t2 := 49) (v := Value.agg [].toArray) rfl tf_cc_165 tf_zv_165 rfl) ?_
 refine wv (OV.extract 1 rfl rfl) ?_
 refine wv (OV.extract 0 rfl rfl) ?_
 refine WL.nil ?_
 refine KX.go (hK_5' [(7, Tr.val .eps), (27, zB false), (28, Value.agg [Tr.val Tr.none, Tr.val Tr.none].toArray)] _ ?_) ⟨rfl, rfl, rfl, trivial⟩
 refine wc_condF rfl ?_
 refine wc_seq (fun K0_6' hK_6' => ?_)
 refine wc_region ?_
 refine wv (OV.assertNo (t2 := 49) (v := Value.agg [].toArray) rfl tf_cc_167 tf_zv_167 rfl) ?_
 refine wv (OV.extract 1 rfl rfl) ?_
 refine wv (OV.extract 0 rfl rfl) ?_
 refine WL.nil ?_
 refine KX.go (hK_6' [(38, zB false), (39, Value.agg [Tr.val Tr.none].toArray)] _ ?_) ⟨rfl, rfl, trivial⟩
 refine wc_condF rfl ?_
 refine wc_skip ?_
 refine KX.go (hK_1' [] _ ?_) trivial
 refine wc_seq (fun K0_7' hK_7' => ?_)
 refine wc_region ?_
 refine wv (OV.assign rfl) ?_
 refine WL.nil ?_
 refine KX.go (hK_7' [(2, zB true)] _ ?_) ⟨rfl, trivial⟩
 refine wc_ret ?_
 exact hE.ret [] rfl rfl (.inl ⟨_, h, rfl⟩) (ResV.of1 rfl (RV.tmp rfl))

def plainCls_vc (_ : CS) (K : Bool → Prop) : Prop :=
 K true
set_option maxRecDepth 100000 in
theorem plainCls_wp  (xs : CS) (K : Bool → Prop) (h : plainCls_vc xs K) :
  Does Tryd.prog 40 [Tr.val (.cls xs)] [] [] (fun o => (∃ (v : Bool), K v ∧ o = .ret (zB v) []) ∨ (False)) := by
 unfold plainCls_vc at h
 refine does_of_wc (n := 43) (L0 := [(0, Tr.val (.cls xs))]) Tryd.func40 rfl rfl rfl rfl (fun w0 M Q hE => ?_)
 refine wc_seq (fun K0 hK => ?_)
 refine wc_region ?_
 refine wv (OV.assign rfl) ?_
 refine WL.nil ?_
 refine KX.go (hK [(0, Tr.val (.cls xs))] _ ?_) ⟨rfl, trivial⟩
 refine wc_seq (fun K0_1' hK_1' => ?_)
 refine wc_seq (fun K0_2' hK_2' => ?_)
 refine wc_region ?_
 refine wv (OV.move rfl) ?_
 refine WL.nil ?_
 refine KX.go (hK_2' [(7, Tr.val (.cls xs))] _ ?_) ⟨rfl, trivial⟩
 refine wc_block ?_
 refine wc_seq (fun K0_3' hK_3' => ?_)
 refine wc_region ?_
 refine wv (OV.assertNo (t2 := 87) (v := Value.agg (wl xs).toArray) rfl tf_cc_163 tf_zv_163 rfl) ?_
 refine wv (OV.extract 1 rfl rfl) ?_
 refine wv (OV.extract 0 rfl rfl) ?_
 refine wv (OV.assertNo (t2 := 87) (v := Value.agg (wl xs).toArray) rfl tf_cc_164 tf_zv_164 rfl) ?_
 refine wv (OV.extract 1 rfl rfl) ?_
 refine wv (OV.extract 0 rfl rfl) ?_
 refine wv (OV.pickF rfl rfl) ?_
 refine WL.nil ?_
 refine KX.go (hK_3' [(7, Tr.val (.cls xs)), (14, zB false)] _ ?_) ⟨rfl, rfl, trivial⟩
 refine wc_condF rfl ?_
 refine wc_seq (fun K0_4' hK_4' => ?_)
 refine wc_region ?_
 refine wv (OV.assertNo (t2 := 87) (v := Value.agg (wl xs).toArray) rfl tf_cc_51 tf_zv_51 rfl) ?_
 refine wv (OV.extract 1 rfl rfl) ?_
 refine wv (OV.extract 0 rfl rfl) ?_
 refine WL.nil ?_
 refine KX.go (hK_4' [(7, Tr.val (.cls xs)), (16, zB false), (17, Value.agg [Tr.val Tr.none, Tr.val Tr.none].toArray)] _ ?_) ⟨rfl, rfl, rfl, trivial⟩
 refine wc_condF rfl ?_
 refine wc_seq (fun K0_5' hK_5' => ?_)
 refine wc_region ?_
 refine wv (OV.assertNo (t2 := 87) (v := Value.agg (wl xs).toArray) rfl tf_cc_165 tf_zv_165 rfl) ?_
 refine wv (OV.extract 1 rfl rfl) ?_
 refine wv (OV.extract 0 rfl rfl) ?_
 refine WL.nil ?_
 refine KX.go (hK_5' [(7, Tr.val (.cls xs)), (27, zB false), (28, Value.agg [Tr.val Tr.none, Tr.val Tr.none].toArray)] _ ?_) ⟨rfl, rfl, rfl, trivial⟩
 refine wc_condF rfl ?_
 refine wc_seq (fun K0_6' hK_6' => ?_)
 refine wc_region ?_
 refine wv (OV.assertNo (t2 := 87) (v := Value.agg (wl xs).toArray) rfl tf_cc_167 tf_zv_167 rfl) ?_
 refine wv (OV.extract 1 rfl rfl) ?_
 refine wv (OV.extract 0 rfl rfl) ?_
 refine WL.nil ?_
 refine KX.go (hK_6' [(38, zB false), (39, Value.agg [Tr.val Tr.none].toArray)] _ ?_) ⟨rfl, rfl, trivial⟩
 refine wc_condF rfl ?_
 refine wc_skip ?_
 refine KX.go (hK_1' [] _ ?_) trivial
 refine wc_seq (fun K0_7' hK_7' => ?_)
 refine wc_region ?_
 refine wv (OV.assign rfl) ?_
 refine WL.nil ?_
 refine KX.go (hK_7' [(2, zB true)] _ ?_) ⟨rfl, trivial⟩
 refine wc_ret ?_
 exact hE.ret [] rfl rfl (.inl ⟨_, h, rfl⟩) (ResV.of1 rfl (RV.tmp rfl))

def plainCat_vc (xa : Tr) (xb : Tr) (K : Bool → Prop) : Prop :=
 (Does Tryd.prog 40 [Tr.val xa] [] [] (Ret (zB xa.plain) [])) ∧
 (xa.plain = true → (Does Tryd.prog 40 [Tr.val xb] [] [] (Ret (zB xb.plain) []))) ∧
 K (xa.plain && xb.plain)
set_option maxRecDepth 100000 in
theorem plainCat_wp  (xa : Tr) (xb : Tr) (K : Bool → Prop) (h : plainCat_vc xa xb K) :
  Does Tryd.prog 40 [Tr.val (.cat xa xb)] [] [] (fun o => (∃ (v : Bool), K v ∧ o = .ret (zB v) []) ∨ (False)) := by
 unfold plainCat_vc at h
 refine does_of_wc (n := 43) (L0 := [(0, Tr.val (.cat xa xb))]) Tryd.func40 rfl rfl rfl rfl (fun w0 M Q hE => ?_)
 refine wc_seq (fun K0 hK => ?_)
 refine wc_region ?_
 refine wv (OV.assign rfl) ?_
 refine WL.nil ?_
 refine KX.go (hK [(0, Tr.val (.cat xa xb))] _ ?_) ⟨rfl, trivial⟩
 refine wc_seq (fun K0_1' hK_1' => ?_)
 refine wc_seq (fun K0_2' hK_2' => ?_)
 refine wc_region ?_
 refine wv (OV.move rfl) ?_
 refine WL.nil ?_
 refine KX.go (hK_2' [(7, Tr.val (.cat xa xb))] _ ?_) ⟨rfl, trivial⟩
 refine wc_block ?_
 refine wc_seq (fun K0_3' hK_3' => ?_)
 refine wc_region ?_
 refine wv (OV.assertNo (t2 := 51) (v := Value.agg [Tr.val xa, Tr.val xb].toArray) rfl tf_cc_163 tf_zv_163 rfl) ?_
 refine wv (OV.extract 1 rfl rfl) ?_
 refine wv (OV.extract 0 rfl rfl) ?_
 refine wv (OV.assertNo (t2 := 51) (v := Value.agg [Tr.val xa, Tr.val xb].toArray) rfl tf_cc_164 tf_zv_164 rfl) ?_
 refine wv (OV.extract 1 rfl rfl) ?_
 refine wv (OV.extract 0 rfl rfl) ?_
 refine wv (OV.pickF rfl rfl) ?_
 refine WL.nil ?_
 refine KX.go (hK_3' [(7, Tr.val (.cat xa xb)), (14, zB false)] _ ?_) ⟨rfl, rfl, trivial⟩
 refine wc_condF rfl ?_
 refine wc_seq (fun K0_4' hK_4' => ?_)
 refine wc_region ?_
 refine wv (OV.assertYes (t' := 51) (v := Value.agg [Tr.val xa, Tr.val xb].toArray) rfl tf_cc_51) ?_
 refine wv (OV.extract 1 rfl rfl) ?_
 refine wv (OV.extract 0 rfl rfl) ?_
 refine WL.nil ?_
 refine KX.go (hK_4' [(7, Tr.val (.cat xa xb)), (16, zB true), (17, Value.agg [Tr.val xa, Tr.val xb].toArray)] _ ?_) ⟨rfl, rfl, rfl, trivial⟩
 refine wc_condT rfl ?_
 refine wc_seq (fun K0_5' hK_5' => ?_)
 refine wc_region ?_
 refine WL.make (MV.alloc tf_zero_51) rfl rfl rfl (fun b => ?_)
 refine WL.storeW (vs := [Tr.val xa, Tr.val xb]) 0 rfl rfl rfl rfl rfl tf_size_51 rfl (one_cons (Tr.val_one _) (one_cons (Tr.val_one _) one_nil)) rfl ?_
 refine WL.nil ?_
 refine KX.go (hK_5' [(4, zP b)] _ ?_) ⟨rfl, trivial⟩
 refine wc_seq (fun K0_6' hK_6' => ?_)
 refine wc_region ?_
 refine wv (OV.fieldAddr0 rfl tf_field_51_0) ?_
 refine wv (OV.load rfl (At.own 0 rfl) rfl tf_scal_23) ?_
 obtain ⟨o, h⟩ := h
 refine WL.call (A := []) tf_ent_40 rfl (o) rfl trivial rfl rfl ?_
 refine wv (OV.move rfl) ?_
 obtain ⟨o_2', h⟩ := h
 refine WL.cut 4 [(25, zB (xa.plain && xb.plain))] ?_ (fun K0_7' hK_7' => ?_)
 rotate_left
 ·refine WL.split (xa.plain) (fun hb => ?_) (fun hb => ?_)
  ·have o_1' := o_2' hb
   refine WL.set 21 rfl (congrArg zB hb) ?_
   refine wv (OV.fieldAddr0 rfl tf_field_51_1) ?_
   refine wv (OV.load rfl (At.own 0 rfl) rfl tf_scal_23) ?_
   refine WL.call (A := []) tf_ent_40 rfl (o_1') rfl trivial rfl rfl ?_
   refine wv (OV.pickT rfl rfl) ?_
   refine WL.set 25 rfl (bT (v := xb.plain) hb) ?_
   exact WL.end_ (KX.go hK_7' ⟨rfl, trivial⟩)
  ·refine WL.set 21 rfl (congrArg zB hb) ?_
   refine WL.skip rfl rfl rfl ?_
   refine WL.skip rfl rfl rfl ?_
   refine WL.skip rfl rfl rfl ?_
   refine wv (OV.pickF rfl rfl) ?_
   refine WL.set 25 rfl (bF (v := xb.plain) hb) ?_
   exact WL.end_ (KX.go hK_7' ⟨rfl, trivial⟩)
 refine wv (OV.assign rfl) ?_
 refine WL.nil ?_
 refine KX.go (hK_6' [(2, zB (xa.plain && xb.plain))] _ ?_) ⟨rfl, trivial⟩
 refine wc_ret ?_
 exact hE.ret [] rfl rfl (.inl ⟨_, h, rfl⟩) (ResV.of1 rfl (RV.tmp rfl))

def plainAlt_vc (xa : Tr) (xb : Tr) (K : Bool → Prop) : Prop :=
 (Does Tryd.prog 40 [Tr.val xa] [] [] (Ret (zB xa.plain) [])) ∧
 (xa.plain = true → (Does Tryd.prog 40 [Tr.val xb] [] [] (Ret (zB xb.plain) []))) ∧
 K (xa.plain && xb.plain)
set_option maxRecDepth 100000 in
theorem plainAlt_wp  (xa : Tr) (xb : Tr) (K : Bool → Prop) (h : plainAlt_vc xa xb K) :
  Does Tryd.prog 40 [Tr.val (.alt xa xb)] [] [] (fun o => (∃ (v : Bool), K v ∧ o = .ret (zB v) []) ∨ (False)) := by
 unfold plainAlt_vc at h
 refine does_of_wc (n := 43) (L0 := [(0, Tr.val (.alt xa xb))]) Tryd.func40 rfl rfl rfl rfl (fun w0 M Q hE => ?_)
 refine wc_seq (fun K0 hK => ?_)
 refine wc_region ?_
 refine wv (OV.assign rfl) ?_
 refine WL.nil ?_
 refine KX.go (hK [(0, Tr.val (.alt xa xb))] _ ?_) ⟨rfl, trivial⟩
 refine wc_seq (fun K0_1' hK_1' => ?_)
 refine wc_seq (fun K0_2' hK_2' => ?_)
 refine wc_region ?_
 refine wv (OV.move rfl) ?_
 refine WL.nil ?_
 refine KX.go (hK_2' [(7, Tr.val (.alt xa xb))] _ ?_) ⟨rfl, trivial⟩
 refine wc_block ?_
 refine wc_seq (fun K0_3' hK_3' => ?_)
 refine wc_region ?_
 refine wv (OV.assertNo (t2 := 165) (v := Value.agg [Tr.val xa, Tr.val xb].toArray) rfl tf_cc_163 tf_zv_163 rfl) ?_
 refine wv (OV.extract 1 rfl rfl) ?_
 refine wv (OV.extract 0 rfl rfl) ?_
 refine wv (OV.assertNo (t2 := 165) (v := Value.agg [Tr.val xa, Tr.val xb].toArray) rfl tf_cc_164 tf_zv_164 rfl) ?_
 refine wv (OV.extract 1 rfl rfl) ?_
 refine wv (OV.extract 0 rfl rfl) ?_
 refine wv (OV.pickF rfl rfl) ?_
 refine WL.nil ?_
 refine KX.go (hK_3' [(7, Tr.val (.alt xa xb)), (14, zB false)] _ ?_) ⟨rfl, rfl, trivial⟩
 refine wc_condF rfl ?_
 refine wc_seq (fun K0_4' hK_4' => ?_)
 refine wc_region ?_
 refine wv (OV.assertNo (t2 := 165) (v := Value.agg [Tr.val xa, Tr.val xb].toArray) rfl tf_cc_51 tf_zv_51 rfl) ?_
 refine wv (OV.extract 1 rfl rfl) ?_
 refine wv (OV.extract 0 rfl rfl) ?_
 refine WL.nil ?_
 refine KX.go (hK_4' [(7, Tr.val (.alt xa xb)), (16, zB false), (17, Value.agg [Tr.val Tr.none, Tr.val Tr.none].toArray)] _ ?_) ⟨rfl, rfl, rfl, trivial⟩
 refine wc_condF rfl ?_
 refine wc_seq (fun K0_5' hK_5' => ?_)
 refine wc_region ?_
 refine wv (OV.assertYes (t' := 165) (v := Value.agg [Tr.val xa, Tr.val xb].toArray) rfl tf_cc_165) ?_
 refine wv (OV.extract 1 rfl rfl) ?_
 refine wv (OV.extract 0 rfl rfl) ?_
 refine WL.nil ?_
 refine KX.go (hK_5' [(7, Tr.val (.alt xa xb)), (27, zB true), (28, Value.agg [Tr.val xa, Tr.val xb].toArray)] _ ?_) ⟨rfl, rfl, rfl, trivial⟩
 refine wc_condT rfl ?_
 refine wc_seq (fun K0_6' hK_6' => ?_)
 refine wc_region ?_
 refine WL.make (MV.alloc tf_zero_165) rfl rfl rfl (fun b => ?_)
 refine WL.storeW (vs := [Tr.val xa, Tr.val xb]) 0 rfl rfl rfl rfl rfl tf_size_165 rfl (one_cons (Tr.val_one _) (one_cons (Tr.val_one _) one_nil)) rfl ?_
 refine WL.nil ?_
 refine KX.go (hK_6' [(5, zP b)] _ ?_) ⟨rfl, trivial⟩
 refine wc_seq (fun K0_7' hK_7' => ?_)
 refine wc_region ?_
 refine wv (OV.fieldAddr0 rfl tf_field_165_0) ?_
 refine wv (OV.load rfl (At.own 0 rfl) rfl tf_scal_23) ?_
 obtain ⟨o, h⟩ := h
 refine WL.call (A := []) tf_ent_40 rfl (o) rfl trivial rfl rfl ?_
 refine wv (OV.move rfl) ?_
 obtain ⟨o_2', h⟩ := h
 refine WL.cut 4 [(36, zB (xa.plain && xb.plain))] ?_ (fun K0_8' hK_8' => ?_)
 rotate_left
 ·refine WL.split (xa.plain) (fun hb => ?_) (fun hb => ?_)
  ·have o_1' := o_2' hb
   refine WL.set 32 rfl (congrArg zB hb) ?_
   refine wv (OV.fieldAddr0 rfl tf_field_165_1) ?_
   refine wv (OV.load rfl (At.own 0 rfl) rfl tf_scal_23) ?_
   refine WL.call (A := []) tf_ent_40 rfl (o_1') rfl trivial rfl rfl ?_
   refine wv (OV.pickT rfl rfl) ?_
   refine WL.set 36 rfl (bT (v := xb.plain) hb) ?_
   exact WL.end_ (KX.go hK_8' ⟨rfl, trivial⟩)
  ·refine WL.set 32 rfl (congrArg zB hb) ?_
   refine WL.skip rfl rfl rfl ?_
   refine WL.skip rfl rfl rfl ?_
   refine WL.skip rfl rfl rfl ?_
   refine wv (OV.pickF rfl rfl) ?_
   refine WL.set 36 rfl (bF (v := xb.plain) hb) ?_
   exact WL.end_ (KX.go hK_8' ⟨rfl, trivial⟩)
 refine wv (OV.assign rfl) ?_
 refine WL.nil ?_
 refine KX.go (hK_7' [(2, zB (xa.plain && xb.plain))] _ ?_) ⟨rfl, trivial⟩
 refine wc_ret ?_
 exact hE.ret [] rfl rfl (.inl ⟨_, h, rfl⟩) (ResV.of1 rfl (RV.tmp rfl))

def plainStar_vc (xa : Tr) (K : Bool → Prop) : Prop :=
 (Does Tryd.prog 40 [Tr.val xa] [] [] (Ret (zB xa.plain) [])) ∧
 K xa.plain
set_option maxRecDepth 100000 in
theorem plainStar_wp  (xa : Tr) (K : Bool → Prop) (h : plainStar_vc xa K) :
  Does Tryd.prog 40 [Tr.val (.star xa)] [] [] (fun o => (∃ (v : Bool), K v ∧ o = .ret (zB v) []) ∨ (False)) := by
 unfold plainStar_vc at h
 refine does_of_wc (n := 43) (L0 := [(0, Tr.val (.star xa))]) Tryd.func40 rfl rfl rfl rfl (fun w0 M Q hE => ?_)
 refine wc_seq (fun K0 hK => ?_)
 refine wc_region ?_
 refine wv (OV.assign rfl) ?_
 refine WL.nil ?_
 refine KX.go (hK [(0, Tr.val (.star xa))] _ ?_) ⟨rfl, trivial⟩
 refine wc_seq (fun K0_1' hK_1' => ?_)
 refine wc_seq (fun K0_2' hK_2' => ?_)
 refine wc_region ?_
 refine wv (OV.move rfl) ?_
 refine WL.nil ?_
 refine KX.go (hK_2' [(7, Tr.val (.star xa))] _ ?_) ⟨rfl, trivial⟩
 refine wc_block ?_
 refine wc_seq (fun K0_3' hK_3' => ?_)
 refine wc_region ?_
 refine wv (OV.assertNo (t2 := 167) (v := Value.agg [Tr.val xa].toArray) rfl tf_cc_163 tf_zv_163 rfl) ?_
 refine wv (OV.extract 1 rfl rfl) ?_
 refine wv (OV.extract 0 rfl rfl) ?_
 refine wv (OV.assertNo (t2 := 167) (v := Value.agg [Tr.val xa].toArray) rfl tf_cc_164 tf_zv_164 rfl) ?_
 refine wv (OV.extract 1 rfl rfl) ?_
 refine wv (OV.extract 0 rfl rfl) ?_
 refine wv (OV.pickF rfl rfl) ?_
 refine WL.nil ?_
 refine KX.go (hK_3' [(7, Tr.val (.star xa)), (14, zB false)] _ ?_) ⟨rfl, rfl, trivial⟩
 refine wc_condF rfl ?_
 refine wc_seq (fun K0_4' hK_4' => ?_)
 refine wc_region ?_
 refine wv (OV.assertNo (t2 := 167) (v := Value.agg [Tr.val xa].toArray) rfl tf_cc_51 tf_zv_51 rfl) ?_
 refine wv (OV.extract 1 rfl rfl) ?_
 refine wv (OV.extract 0 rfl rfl) ?_
 refine WL.nil ?_
 refine KX.go (hK_4' [(7, Tr.val (.star xa)), (16, zB false), (17, Value.agg [Tr.val Tr.none, Tr.val Tr.none].toArray)] _ ?_) ⟨rfl, rfl, rfl, trivial⟩
 refine wc_condF rfl ?_
 refine wc_seq (fun K0_5' hK_5' => ?_)
 refine wc_region ?_
 refine wv (OV.assertNo (t2 := 167) (v := Value.agg [Tr.val xa].toArray) rfl tf_cc_165 tf_zv_165 rfl) ?_
 refine wv (OV.extract 1 rfl rfl) ?_
 refine wv (OV.extract 0 rfl rfl) ?_
 refine WL.nil ?_
 refine KX.go (hK_5' [(7, Tr.val (.star xa)), (27, zB false), (28, Value.agg [Tr.val Tr.none, Tr.val Tr.none].toArray)] _ ?_) ⟨rfl, rfl, rfl, trivial⟩
 refine wc_condF rfl ?_
 refine wc_seq (fun K0_6' hK_6' => ?_)
 refine wc_region ?_
 refine wv (OV.assertYes (t' := 167) (v := Value.agg [Tr.val xa].toArray) rfl tf_cc_167) ?_
 refine wv (OV.extract 1 rfl rfl) ?_
 refine wv (OV.extract 0 rfl rfl) ?_
 refine WL.nil ?_
 refine KX.go (hK_6' [(38, zB true), (39, Value.agg [Tr.val xa].toArray)] _ ?_) ⟨rfl, rfl, trivial⟩
 refine wc_condT rfl ?_
 refine wc_seq (fun K0_7' hK_7' => ?_)
 refine wc_region ?_
 refine WL.make (MV.alloc tf_zero_167) rfl rfl rfl (fun b => ?_)
 refine WL.store (vs := [Tr.val xa]) (cs' := [Tr.val xa]) 0 rfl rfl rfl rfl tf_size_167 (Nat.le_of_ble_eq_true rfl) (one_cons (Tr.val_one _) one_nil) rfl rfl ?_
 refine WL.nil ?_
 refine KX.go (hK_7' [(6, zP b)] _ ?_) ⟨rfl, trivial⟩
 refine wc_seq (fun K0_8' hK_8' => ?_)
 refine wc_region ?_
 refine wv (OV.fieldAddr0 rfl tf_field_167_0) ?_
 refine wv (OV.load rfl (At.own 0 rfl) rfl tf_scal_23) ?_
 obtain ⟨o, h⟩ := h
 refine WL.call (A := []) tf_ent_40 rfl (o) rfl trivial rfl rfl ?_
 refine wv (OV.assign rfl) ?_
 refine WL.nil ?_
 refine KX.go (hK_8' [(2, zB xa.plain)] _ ?_) ⟨rfl, trivial⟩
 refine wc_ret ?_
 exact hE.ret [] rfl rfl (.inl ⟨_, h, rfl⟩) (ResV.of1 rfl (RV.tmp rfl))

def plainAnd_vc (_ : Tr) (_ : Tr) (K : Bool → Prop) : Prop :=
 K false
set_option maxRecDepth 100000 in
theorem plainAnd_wp  (xa : Tr) (xb : Tr) (K : Bool → Prop) (h : plainAnd_vc xa xb K) :
  Does Tryd.prog 40 [Tr.val (.and xa xb)] [] [] (fun o => (∃ (v : Bool), K v ∧ o = .ret (zB v) []) ∨ (False)) := by
 unfold plainAnd_vc at h
 refine does_of_wc (n := 43) (L0 := [(0, Tr.val (.and xa xb))]) Tryd.func40 rfl rfl rfl rfl (fun w0 M Q hE => ?_)
 refine wc_seq (fun K0 hK => ?_)
 refine wc_region ?_
 refine wv (OV.assign rfl) ?_
 refine WL.nil ?_
 refine KX.go (hK [(0, Tr.val (.and xa xb))] _ ?_) ⟨rfl, trivial⟩
 refine wc_seq (fun K0_1' hK_1' => ?_)
 refine wc_seq (fun K0_2' hK_2' => ?_)
 refine wc_region ?_
 refine wv (OV.move rfl) ?_
 refine WL.nil ?_
 refine KX.go (hK_2' [(7, Tr.val (.and xa xb))] _ ?_) ⟨rfl, trivial⟩
 refine wc_block ?_
 refine wc_seq (fun K0_3' hK_3' => ?_)
 refine wc_region ?_
 refine wv (OV.assertYes (t' := 163) (v := Value.agg [Tr.val xa, Tr.val xb].toArray) rfl tf_cc_163) ?_
 refine wv (OV.extract 1 rfl rfl) ?_
 refine wv (OV.extract 0 rfl rfl) ?_
 refine wv (OV.assertNo (t2 := 163) (v := Value.agg [Tr.val xa, Tr.val xb].toArray) rfl tf_cc_164 tf_zv_164 rfl) ?_
 refine wv (OV.extract 1 rfl rfl) ?_
 refine wv (OV.extract 0 rfl rfl) ?_
 refine wv (OV.pickT rfl rfl) ?_
 refine WL.nil ?_
 refine KX.go (hK_3' [(7, Tr.val (.and xa xb)), (14, zB true)] _ ?_) ⟨rfl, rfl, trivial⟩
 refine wc_condT rfl ?_
 refine wc_seq (fun K0_4' hK_4' => ?_)
 refine wc_region ?_
 refine wv (OV.assign rfl) ?_
 refine WL.nil ?_
 refine KX.go (hK_4' [] _ ?_) trivial
 refine wc_seq (fun K0_5' hK_5' => ?_)
 refine wc_region ?_
 refine wv (OV.assign rfl) ?_
 refine WL.nil ?_
 refine KX.go (hK_5' [(2, zB false)] _ ?_) ⟨rfl, trivial⟩
 refine wc_ret ?_
 exact hE.ret [] rfl rfl (.inl ⟨_, h, rfl⟩) (ResV.of1 rfl (RV.tmp rfl))

def plainMinus_vc (_ : Tr) (_ : Tr) (K : Bool → Prop) : Prop :=
 K false
set_option maxRecDepth 100000 in
theorem plainMinus_wp  (xa : Tr) (xb : Tr) (K : Bool → Prop) (h : plainMinus_vc xa xb K) :
  Does Tryd.prog 40 [Tr.val (.minus xa xb)] [] [] (fun o => (∃ (v : Bool), K v ∧ o = .ret (zB v) []) ∨ (False)) := by
 unfold plainMinus_vc at h
 refine does_of_wc (n := 43) (L0 := [(0, Tr.val (.minus xa xb))]) Tryd.func40 rfl rfl rfl rfl (fun w0 M Q hE => ?_)
 refine wc_seq (fun K0 hK => ?_)
 refine wc_region ?_
 refine wv (OV.assign rfl) ?_
 refine WL.nil ?_
 refine KX.go (hK [(0, Tr.val (.minus xa xb))] _ ?_) ⟨rfl, trivial⟩
 refine wc_seq (fun K0_1' hK_1' => ?_)
 refine wc_seq (fun K0_2' hK_2' => ?_)
 refine wc_region ?_
 refine wv (OV.move rfl) ?_
 refine WL.nil ?_
 refine KX.go (hK_2' [(7, Tr.val (.minus xa xb))] _ ?_) ⟨rfl, trivial⟩
 refine wc_block ?_
 refine wc_seq (fun K0_3' hK_3' => ?_)
 refine wc_region ?_
 refine wv (OV.assertNo (t2 := 164) (v := Value.agg [Tr.val xa, Tr.val xb].toArray) rfl tf_cc_163 tf_zv_163 rfl) ?_
 refine wv (OV.extract 1 rfl rfl) ?_
 refine wv (OV.extract 0 rfl rfl) ?_
 refine wv (OV.assertYes (t' := 164) (v := Value.agg [Tr.val xa, Tr.val xb].toArray) rfl tf_cc_164) ?_
 refine wv (OV.extract 1 rfl rfl) ?_
 refine wv (OV.extract 0 rfl rfl) ?_
 refine wv (OV.pickF rfl rfl) ?_
 refine WL.nil ?_
 refine KX.go (hK_3' [(7, Tr.val (.minus xa xb)), (14, zB true)] _ ?_) ⟨rfl, rfl, trivial⟩
 refine wc_condT rfl ?_
 refine wc_seq (fun K0_4' hK_4' => ?_)
 refine wc_region ?_
 refine wv (OV.assign rfl) ?_
 refine WL.nil ?_
 refine KX.go (hK_4' [] _ ?_) trivial
 refine wc_seq (fun K0_5' hK_5' => ?_)
 refine wc_region ?_
 refine wv (OV.assign rfl) ?_
 refine WL.nil ?_
 refine KX.go (hK_5' [(2, zB false)] _ ?_) ⟨rfl, trivial⟩
 refine wc_ret ?_
 exact hE.ret [] rfl rfl (.inl ⟨_, h, rfl⟩) (ResV.of1 rfl (RV.tmp rfl))

def wholeNone_vc  (K : Tr → Prop) : Prop :=
 K (.cls cs0)
set_option maxRecDepth 100000 in
theorem wholeNone_wp   (K : Tr → Prop) (h : wholeNone_vc  K) :
  Does Tryd.prog 55 [Tr.val Tr.none] [] [] (fun o => (∃ (v : Tr), K v ∧ o = .ret (Tr.val v) []) ∨ (False)) := by
 unfold wholeNone_vc at h
 refine does_of_wc (n := 66) (L0 := [(0, Tr.val Tr.none)]) Tryd.func55 rfl rfl rfl rfl (fun w0 M Q hE => ?_)
 refine wc_seq (fun K0 hK => ?_)
 refine wc_region ?_
 refine wv (OV.assign rfl) ?_
 refine WL.nil ?_
 refine KX.go (hK [(0, Tr.val Tr.none)] _ ?_) ⟨rfl, trivial⟩
 refine wc_seq (fun K0_1' hK_1' => ?_)
 refine wc_seq (fun K0_2' hK_2' => ?_)
 refine wc_region ?_
 refine wv (OV.move rfl) ?_
 refine WL.nil ?_
 refine KX.go (hK_2' [(0, Tr.val Tr.none), (9, Tr.val Tr.none)] _ ?_) ⟨rfl, rfl, trivial⟩
 refine wc_block ?_
 refine wc_seq (fun K0_3' hK_3' => ?_)
 refine wc_region ?_
 refine wv (OV.eqlNil0 rfl Tryd.underlying23) ?_
 refine WL.nil ?_
 refine KX.go (hK_3' [(0, Tr.val Tr.none), (9, Tr.val Tr.none), (10, zB true)] _ ?_) ⟨rfl, rfl, rfl, trivial⟩
 refine wc_condT rfl ?_
 refine wc_seq (fun K0_4' hK_4' => ?_)
 refine wc_region ?_
 refine wv (OV.assign rfl) ?_
 refine WL.nil ?_
 refine KX.go (hK_4' [] _ ?_) trivial
 refine wc_seq (fun K0_5' hK_5' => ?_)
 refine wc_region ?_
 refine wv (OV.build rfl (cs := wl cs0) rfl) ?_
 refine wv (OV.cast (OV.iface rfl tf_conc_87) (v' := Tr.val (.cls cs0)) rfl) ?_
 refine wv (OV.assign rfl) ?_
 refine WL.nil ?_
 refine KX.go (hK_5' [(2, Tr.val (.cls cs0))] _ ?_) ⟨rfl, trivial⟩
 refine wc_ret ?_
 exact hE.ret [] rfl rfl (.inl ⟨_, h, rfl⟩) (ResV.of1 rfl (RV.tmp rfl))

def wholeEps_vc  (K : Tr → Prop) : Prop :=
 K .eps
set_option maxRecDepth 100000 in
theorem wholeEps_wp   (K : Tr → Prop) (h : wholeEps_vc  K) :
  Does Tryd.prog 55 [Tr.val .eps] [] [] (fun o => (∃ (v : Tr), K v ∧ o = .ret (Tr.val v) []) ∨ (False)) := by
 unfold wholeEps_vc at h
 refine does_of_wc (n := 66) (L0 := [(0, Tr.val .eps)]) Tryd.func55 rfl rfl rfl rfl (fun w0 M Q hE => ?_)
 refine wc_seq (fun K0 hK => ?_)
 refine wc_region ?_
 refine wv (OV.assign rfl) ?_
 refine WL.nil ?_
 refine KX.go (hK [(0, Tr.val .eps)] _ ?_) ⟨rfl, trivial⟩
 refine wc_seq (fun K0_1' hK_1' => ?_)
 refine wc_seq (fun K0_2' hK_2' => ?_)
 refine wc_region ?_
 refine wv (OV.move rfl) ?_
 refine WL.nil ?_
 refine KX.go (hK_2' [(0, Tr.val .eps), (9, Tr.val .eps)] _ ?_) ⟨rfl, rfl, trivial⟩
 refine wc_block ?_
 refine wc_seq (fun K0_3' hK_3' => ?_)
 refine wc_region ?_
 refine wv (OV.eqlNil (v := Value.agg [].toArray) rfl rfl Tryd.underlying23) ?_
 refine WL.nil ?_
 refine KX.go (hK_3' [(0, Tr.val .eps), (9, Tr.val .eps), (10, zB false)] _ ?_) ⟨rfl, rfl, rfl, trivial⟩
 refine wc_condF rfl ?_
 refine wc_seq (fun K0_4' hK_4' => ?_)
 refine wc_region ?_
 refine wv (OV.assertNo (t2 := 49) (v := Value.agg [].toArray) rfl tf_cc_51 tf_zv_51 rfl) ?_
 refine wv (OV.extract 1 rfl rfl) ?_
 refine wv (OV.extract 0 rfl rfl) ?_
 refine WL.nil ?_
 refine KX.go (hK_4' [(0, Tr.val .eps), (9, Tr.val .eps), (14, zB false), (15, Value.agg [Tr.val Tr.none, Tr.val Tr.none].toArray)] _ ?_) ⟨rfl, rfl, rfl, rfl, trivial⟩
 refine wc_condF rfl ?_
 refine wc_seq (fun K0_5' hK_5' => ?_)
 refine wc_region ?_
 refine wv (OV.assertNo (t2 := 49) (v := Value.agg [].toArray) rfl tf_cc_165 tf_zv_165 rfl) ?_
 refine wv (OV.extract 1 rfl rfl) ?_
 refine wv (OV.extract 0 rfl rfl) ?_
 refine WL.nil ?_
 refine KX.go (hK_5' [(0, Tr.val .eps), (9, Tr.val .eps), (25, zB false), (26, Value.agg [Tr.val Tr.none, Tr.val Tr.none].toArray)] _ ?_) ⟨rfl, rfl, rfl, rfl, trivial⟩
 refine wc_condF rfl ?_
 refine wc_seq (fun K0_6' hK_6' => ?_)
 refine wc_region ?_
 refine wv (OV.assertNo (t2 := 49) (v := Value.agg [].toArray) rfl tf_cc_163 tf_zv_163 rfl) ?_
 refine wv (OV.extract 1 rfl rfl) ?_
 refine wv (OV.extract 0 rfl rfl) ?_
 refine WL.nil ?_
 refine KX.go (hK_6' [(0, Tr.val .eps), (9, Tr.val .eps), (36, zB false), (37, Value.agg [Tr.val Tr.none, Tr.val Tr.none].toArray)] _ ?_) ⟨rfl, rfl, rfl, rfl, trivial⟩
 refine wc_condF rfl ?_
 refine wc_seq (fun K0_7' hK_7' => ?_)
 refine wc_region ?_
 refine wv (OV.assertNo (t2 := 49) (v := Value.agg [].toArray) rfl tf_cc_164 tf_zv_164 rfl) ?_
 refine wv (OV.extract 1 rfl rfl) ?_
 refine wv (OV.extract 0 rfl rfl) ?_
 refine WL.nil ?_
 refine KX.go (hK_7' [(0, Tr.val .eps), (9, Tr.val .eps), (47, zB false), (48, Value.agg [Tr.val Tr.none, Tr.val Tr.none].toArray)] _ ?_) ⟨rfl, rfl, rfl, rfl, trivial⟩
 refine wc_condF rfl ?_
 refine wc_seq (fun K0_8' hK_8' => ?_)
 refine wc_region ?_
 refine wv (OV.assertNo (t2 := 49) (v := Value.agg [].toArray) rfl tf_cc_167 tf_zv_167 rfl) ?_
 refine wv (OV.extract 1 rfl rfl) ?_
 refine wv (OV.extract 0 rfl rfl) ?_
 refine WL.nil ?_
 refine KX.go (hK_8' [(0, Tr.val .eps), (58, zB false), (59, Value.agg [Tr.val Tr.none].toArray)] _ ?_) ⟨rfl, rfl, rfl, trivial⟩
 refine wc_condF rfl ?_
 refine wc_skip ?_
 refine KX.go (hK_1' [(0, Tr.val .eps)] _ ?_) ⟨rfl, trivial⟩
 refine wc_seq (fun K0_9' hK_9' => ?_)
 refine wc_region ?_
 refine wv (OV.move rfl) ?_
 refine wv (OV.assign rfl) ?_
 refine WL.nil ?_
 refine KX.go (hK_9' [(2, Tr.val .eps)] _ ?_) ⟨rfl, trivial⟩
 refine wc_ret ?_
 exact hE.ret [] rfl rfl (.inl ⟨_, h, rfl⟩) (ResV.of1 rfl (RV.tmp rfl))

def wholeCls_vc (xs : CS) (K : Tr → Prop) : Prop :=
 K (.cls xs)
set_option maxRecDepth 100000 in
theorem wholeCls_wp  (xs : CS) (K : Tr → Prop) (h : wholeCls_vc xs K) :
  Does Tryd.prog 55 [Tr.val (.cls xs)] [] [] (fun o => (∃ (v : Tr), K v ∧ o = .ret (Tr.val v) []) ∨ (False)) := by
 unfold wholeCls_vc at h
 refine does_of_wc (n := 66) (L0 := [(0, Tr.val (.cls xs))]) Tryd.func55 rfl rfl rfl rfl (fun w0 M Q hE => ?_)
 refine wc_seq (fun K0 hK => ?_)
 refine wc_region ?_
 refine wv (OV.assign rfl) ?_
 refine WL.nil ?_
 refine KX.go (hK [(0, Tr.val (.cls xs))] _ ?_) ⟨rfl, trivial⟩
 refine wc_seq (fun K0_1' hK_1' => ?_)
 refine wc_seq (fun K0_2' hK_2' => ?_)
 refine wc_region ?_
 refine wv (OV.move rfl) ?_
 refine WL.nil ?_
 refine KX.go (hK_2' [(0, Tr.val (.cls xs)), (9, Tr.val (.cls xs))] _ ?_) ⟨rfl, rfl, trivial⟩
 refine wc_block ?_
 refine wc_seq (fun K0_3' hK_3' => ?_)
 refine wc_region ?_
 refine wv (OV.eqlNil (v := Value.agg (wl xs).toArray) rfl rfl Tryd.underlying23) ?_
 refine WL.nil ?_
 refine KX.go (hK_3' [(0, Tr.val (.cls xs)), (9, Tr.val (.cls xs)), (10, zB false)] _ ?_) ⟨rfl, rfl, rfl, trivial⟩
 refine wc_condF rfl ?_
 refine wc_seq (fun K0_4' hK_4' => ?_)
 refine wc_region ?_
 refine wv (OV.assertNo (t2 := 87) (v := Value.agg (wl xs).toArray) rfl tf_cc_51 tf_zv_51 rfl) ?_
 refine wv (OV.extract 1 rfl rfl) ?_
 refine wv (OV.extract 0 rfl rfl) ?_
 refine WL.nil ?_
 refine KX.go (hK_4' [(0, Tr.val (.cls xs)), (9, Tr.val (.cls xs)), (14, zB false), (15, Value.agg [Tr.val Tr.none, Tr.val Tr.none].toArray)] _ ?_) ⟨rfl, rfl, rfl, rfl, trivial⟩
 refine wc_condF rfl ?_
 refine wc_seq (fun K0_5' hK_5' => ?_)
 refine wc_region ?_
 refine wv (OV.assertNo (t2 := 87) (v := Value.agg (wl xs).toArray) rfl tf_cc_165 tf_zv_165 rfl) ?_
 refine wv (OV.extract 1 rfl rfl) ?_
 refine wv (OV.extract 0 rfl rfl) ?_
 refine WL.nil ?_
 refine KX.go (hK_5' [(0, Tr.val (.cls xs)), (9, Tr.val (.cls xs)), (25, zB false), (26, Value.agg [Tr.val Tr.none, Tr.val Tr.none].toArray)] _ ?_) ⟨rfl, rfl, rfl, rfl, trivial⟩
 refine wc_condF rfl ?_
 refine wc_seq (fun K0_6' hK_6' => ?_)
 refine wc_region ?_
 refine wv (OV.assertNo (t2 := 87) (v := Value.agg (wl xs).toArray) rfl tf_cc_163 tf_zv_163 rfl) ?_
 refine wv (OV.extract 1 rfl rfl) ?_
 refine wv (OV.extract 0 rfl rfl) ?_
 refine WL.nil ?_
 refine KX.go (hK_6' [(0, Tr.val (.cls xs)), (9, Tr.val (.cls xs)), (36, zB false), (37, Value.agg [Tr.val Tr.none, Tr.val Tr.none].toArray)] _ ?_) ⟨rfl, rfl, rfl, rfl, trivial⟩
 refine wc_condF rfl ?_
 refine wc_seq (fun K0_7' hK_7' => ?_)
 refine wc_region ?_
 refine wv (OV.assertNo (t2 := 87) (v := Value.agg (wl xs).toArray) rfl tf_cc_164 tf_zv_164 rfl) ?_
 refine wv (OV.extract 1 rfl rfl) ?_
 refine wv (OV.extract 0 rfl rfl) ?_
 refine WL.nil ?_
 refine KX.go (hK_7' [(0, Tr.val (.cls xs)), (9, Tr.val (.cls xs)), (47, zB false), (48, Value.agg [Tr.val Tr.none, Tr.val Tr.none].toArray)] _ ?_) ⟨rfl, rfl, rfl, rfl, trivial⟩
 refine wc_condF rfl ?_
 refine wc_seq (fun K0_8' hK_8' => ?_)
 refine wc_region ?_
 refine wv (OV.assertNo (t2 := 87) (v := Value.agg (wl xs).toArray) rfl tf_cc_167 tf_zv_167 rfl) ?_
 refine wv (OV.extract 1 rfl rfl) ?_
 refine wv (OV.extract 0 rfl rfl) ?_
 refine WL.nil ?_
 refine KX.go (hK_8' [(0, Tr.val (.cls xs)), (58, zB false), (59, Value.agg [Tr.val Tr.none].toArray)] _ ?_) ⟨rfl, rfl, rfl, trivial⟩
 refine wc_condF rfl ?_
 refine wc_skip ?_
 refine KX.go (hK_1' [(0, Tr.val (.cls xs))] _ ?_) ⟨rfl, trivial⟩
 refine wc_seq (fun K0_9' hK_9' => ?_)
 refine wc_region ?_
 refine wv (OV.move rfl) ?_
 refine wv (OV.assign rfl) ?_
 refine WL.nil ?_
 refine KX.go (hK_9' [(2, Tr.val (.cls xs))] _ ?_) ⟨rfl, trivial⟩
 refine wc_ret ?_
 exact hE.ret [] rfl rfl (.inl ⟨_, h, rfl⟩) (ResV.of1 rfl (RV.tmp rfl))

def wholeCat_vc (xa : Tr) (xb : Tr) (K : Tr → Prop) : Prop :=
 (Does Tryd.prog 55 [Tr.val xa] [] [] (Ret (Tr.val xa.whole) [])) ∧
 (Does Tryd.prog 55 [Tr.val xb] [] [] (Ret (Tr.val xb.whole) [])) ∧
 K (.cat xa.whole xb.whole)
set_option maxRecDepth 100000 in
theorem wholeCat_wp  (xa : Tr) (xb : Tr) (K : Tr → Prop) (h : wholeCat_vc xa xb K) :
  Does Tryd.prog 55 [Tr.val (.cat xa xb)] [] [] (fun o => (∃ (v : Tr), K v ∧ o = .ret (Tr.val v) []) ∨ (False)) := by
 unfold wholeCat_vc at h
 refine does_of_wc (n := 66) (L0 := [(0, Tr.val (.cat xa xb))]) Tryd.func55 rfl rfl rfl rfl (fun w0 M Q hE => ?_)
 refine wc_seq (fun K0 hK => ?_)
 refine wc_region ?_
 refine wv (OV.assign rfl) ?_
 refine WL.nil ?_
 refine KX.go (hK [(0, Tr.val (.cat xa xb))] _ ?_) ⟨rfl, trivial⟩
 refine wc_seq (fun K0_1' hK_1' => ?_)
 refine wc_seq (fun K0_2' hK_2' => ?_)
 refine wc_region ?_
 refine wv (OV.move rfl) ?_
 refine WL.nil ?_
 refine KX.go (hK_2' [(0, Tr.val (.cat xa xb)), (9, Tr.val (.cat xa xb))] _ ?_) ⟨rfl, rfl, trivial⟩
 refine wc_block ?_
 refine wc_seq (fun K0_3' hK_3' => ?_)
 refine wc_region ?_
 refine wv (OV.eqlNil (v := Value.agg [Tr.val xa, Tr.val xb].toArray) rfl rfl Tryd.underlying23) ?_
 refine WL.nil ?_
 refine KX.go (hK_3' [(0, Tr.val (.cat xa xb)), (9, Tr.val (.cat xa xb)), (10, zB false)] _ ?_) ⟨rfl, rfl, rfl, trivial⟩
 refine wc_condF rfl ?_
 refine wc_seq (fun K0_4' hK_4' => ?_)
 refine wc_region ?_
 refine wv (OV.assertYes (t' := 51) (v := Value.agg [Tr.val xa, Tr.val xb].toArray) rfl tf_cc_51) ?_
 refine wv (OV.extract 1 rfl rfl) ?_
 refine wv (OV.extract 0 rfl rfl) ?_
 refine WL.nil ?_
 refine KX.go (hK_4' [(0, Tr.val (.cat xa xb)), (9, Tr.val (.cat xa xb)), (14, zB true), (15, Value.agg [Tr.val xa, Tr.val xb].toArray)] _ ?_) ⟨rfl, rfl, rfl, rfl, trivial⟩
 refine wc_condT rfl ?_
 refine wc_seq (fun K0_5' hK_5' => ?_)
 refine wc_region ?_
 refine WL.make (MV.alloc tf_zero_51) rfl rfl rfl (fun b => ?_)
 refine WL.storeW (vs := [Tr.val xa, Tr.val xb]) 0 rfl rfl rfl rfl rfl tf_size_51 rfl (one_cons (Tr.val_one _) (one_cons (Tr.val_one _) one_nil)) rfl ?_
 refine WL.nil ?_
 refine KX.go (hK_5' [(4, zP b)] _ ?_) ⟨rfl, trivial⟩
 refine wc_seq (fun K0_6' hK_6' => ?_)
 refine wc_draw 5 [] tf_mixed (by kernel_rfl) rfl (fun T hT => ?_)
 refine FL.val (fun _ => OV.fieldAddr0 rfl tf_field_51_0) rfl (fun _ => rfl) rfl rfl ?_
 refine FL.val (fun _ => OV.load rfl (At.own 0 rfl) rfl tf_scal_23) rfl (fun _ => rfl) rfl rfl ?_
 obtain ⟨o, h⟩ := h
 refine FL.call tf_ent_55 (fun _ => rfl) (o) trivial rfl (fun _ => rfl) rfl ?_
 refine FL.val (fun _ => OV.fieldAddr0 rfl tf_field_51_1) rfl (fun _ => rfl) rfl rfl ?_
 refine FL.val (fun _ => OV.load rfl (At.own 0 rfl) rfl tf_scal_23) rfl (fun _ => rfl) rfl rfl ?_
 refine FL.weak (L' := fun γ => [(18, Tr.val xa.whole), (20, Tr.val xb)]) (fun γ => ⟨rfl, rfl, trivial⟩) (FL.nil (hT (fun γ => [(18, Tr.val xa.whole), (20, Tr.val xb)]) (fun γ => ?_)))
 obtain ⟨o_1', h⟩ := h
 refine WL.call (A := []) tf_ent_55 rfl (o_1') rfl trivial rfl rfl ?_
 refine wv (OV.buildC (qs := [(0, [Tr.val xa.whole]), (1, [Tr.val xb.whole])]) (cs := [Tr.val xa.whole, Tr.val xb.whole]) rfl ⟨rfl, Tr.val_cells _, ⟨rfl, Tr.val_cells _, trivial⟩⟩ rfl) ?_
 refine wv (OV.cast (OV.iface rfl tf_conc_51) (v' := Tr.val (.cat xa.whole xb.whole)) rfl) ?_
 refine wv (OV.assign rfl) ?_
 refine WL.nil ?_
 refine KX.go (hK_6' [(2, Tr.val (.cat xa.whole xb.whole))] _ ?_) ⟨rfl, trivial⟩
 refine wc_ret ?_
 exact hE.ret [] rfl rfl (.inl ⟨_, h, rfl⟩) (ResV.of1 rfl (RV.tmp rfl))

def wholeAlt_vc (xa : Tr) (xb : Tr) (K : Tr → Prop) : Prop :=
 (Does Tryd.prog 55 [Tr.val xa] [] [] (Ret (Tr.val xa.whole) [])) ∧
 (Does Tryd.prog 55 [Tr.val xb] [] [] (Ret (Tr.val xb.whole) [])) ∧
 K (.alt xa.whole xb.whole)
set_option maxRecDepth 100000 in
theorem wholeAlt_wp  (xa : Tr) (xb : Tr) (K : Tr → Prop) (h : wholeAlt_vc xa xb K) :
  Does Tryd.prog 55 [Tr.val (.alt xa xb)] [] [] (fun o => (∃ (v : Tr), K v ∧ o = .ret (Tr.val v) []) ∨ (False)) := by
 unfold wholeAlt_vc at h
 refine does_of_wc (n := 66) (L0 := [(0, Tr.val (.alt xa xb))]) Tryd.func55 rfl rfl rfl rfl (fun w0 M Q hE => ?_)
 refine wc_seq (fun K0 hK => ?_)
 refine wc_region ?_
 refine wv (OV.assign rfl) ?_
 refine WL.nil ?_
 refine KX.go (hK [(0, Tr.val (.alt xa xb))] _ ?_) ⟨rfl, trivial⟩
 refine wc_seq (fun K0_1' hK_1' => ?_)
 refine wc_seq (fun K0_2' hK_2' => ?_)
 refine wc_region ?_
 refine wv (OV.move rfl) ?_
 refine WL.nil ?_
 refine KX.go (hK_2' [(0, Tr.val (.alt xa xb)), (9, Tr.val (.alt xa xb))] _ ?_) ⟨rfl, rfl, trivial⟩
 refine wc_block ?_
 refine wc_seq (fun K0_3' hK_3' => ?_)
 refine wc_region ?_
 refine wv (OV.eqlNil (v := Value.agg [Tr.val xa, Tr.val xb].toArray) rfl rfl Tryd.underlying23) ?_
 refine WL.nil ?_
 refine KX.go (hK_3' [(0, Tr.val (.alt xa xb)), (9, Tr.val (.alt xa xb)), (10, zB false)] _ ?_) ⟨rfl, rfl, rfl, trivial⟩
 refine wc_condF rfl ?_
 refine wc_seq (fun K0_4' hK_4' => ?_)
 refine wc_region ?_
 refine wv (OV.assertNo (t2 := 165) (v := Value.agg [Tr.val xa, Tr.val xb].toArray) rfl tf_cc_51 tf_zv_51 rfl) ?_
 refine wv (OV.extract 1 rfl rfl) ?_
 refine wv (OV.extract 0 rfl rfl) ?_
 refine WL.nil ?_
 refine KX.go (hK_4' [(0, Tr.val (.alt xa xb)), (9, Tr.val (.alt xa xb)), (14, zB false), (15, Value.agg [Tr.val Tr.none, Tr.val Tr.none].toArray)] _ ?_) ⟨rfl, rfl, rfl, rfl, trivial⟩
 refine wc_condF rfl ?_
 refine wc_seq (fun K0_5' hK_5' => ?_)
 refine wc_region ?_
 refine wv (OV.assertYes (t' := 165) (v := Value.agg [Tr.val xa, Tr.val xb].toArray) rfl tf_cc_165) ?_
 refine wv (OV.extract 1 rfl rfl) ?_
 refine wv (OV.extract 0 rfl rfl) ?_
 refine WL.nil ?_
 refine KX.go (hK_5' [(0, Tr.val (.alt xa xb)), (9, Tr.val (.alt xa xb)), (25, zB true), (26, Value.agg [Tr.val xa, Tr.val xb].toArray)] _ ?_) ⟨rfl, rfl, rfl, rfl, trivial⟩
 refine wc_condT rfl ?_
 refine wc_seq (fun K0_6' hK_6' => ?_)
 refine wc_region ?_
 refine WL.make (MV.alloc tf_zero_165) rfl rfl rfl (fun b => ?_)
 refine WL.storeW (vs := [Tr.val xa, Tr.val xb]) 0 rfl rfl rfl rfl rfl tf_size_165 rfl (one_cons (Tr.val_one _) (one_cons (Tr.val_one _) one_nil)) rfl ?_
 refine WL.nil ?_
 refine KX.go (hK_6' [(5, zP b)] _ ?_) ⟨rfl, trivial⟩
 refine wc_seq (fun K0_7' hK_7' => ?_)
 refine wc_draw 5 [] tf_mixed (by kernel_rfl) rfl (fun T hT => ?_)
 refine FL.val (fun _ => OV.fieldAddr0 rfl tf_field_165_0) rfl (fun _ => rfl) rfl rfl ?_
 refine FL.val (fun _ => OV.load rfl (At.own 0 rfl) rfl tf_scal_23) rfl (fun _ => rfl) rfl rfl ?_
 obtain ⟨o, h⟩ := h
 refine FL.call tf_ent_55 (fun _ => rfl) (o) trivial rfl (fun _ => rfl) rfl ?_
 refine FL.val (fun _ => OV.fieldAddr0 rfl tf_field_165_1) rfl (fun _ => rfl) rfl rfl ?_
 refine FL.val (fun _ => OV.load rfl (At.own 0 rfl) rfl tf_scal_23) rfl (fun _ => rfl) rfl rfl ?_
 refine FL.weak (L' := fun γ => [(29, Tr.val xa.whole), (31, Tr.val xb)]) (fun γ => ⟨rfl, rfl, trivial⟩) (FL.nil (hT (fun γ => [(29, Tr.val xa.whole), (31, Tr.val xb)]) (fun γ => ?_)))
 obtain ⟨o_1', h⟩ := h
 refine WL.call (A := []) tf_ent_55 rfl (o_1') rfl trivial rfl rfl ?_
 refine wv (OV.buildC (qs := [(0, [Tr.val xa.whole]), (1, [Tr.val xb.whole])]) (cs := [Tr.val xa.whole, Tr.val xb.whole]) rfl ⟨rfl, Tr.val_cells _, ⟨rfl, Tr.val_cells _, trivial⟩⟩ rfl) ?_
 refine wv (OV.cast (OV.iface rfl tf_conc_165) (v' := Tr.val (.alt xa.whole xb.whole)) rfl) ?_
 refine wv (OV.assign rfl) ?_
 refine WL.nil ?_
 refine KX.go (hK_7' [(2, Tr.val (.alt xa.whole xb.whole))] _ ?_) ⟨rfl, trivial⟩
 refine wc_ret ?_
 exact hE.ret [] rfl rfl (.inl ⟨_, h, rfl⟩) (ResV.of1 rfl (RV.tmp rfl))

def wholeStar_vc (xa : Tr) (K : Tr → Prop) : Prop :=
 (Does Tryd.prog 55 [Tr.val xa] [] [] (Ret (Tr.val xa.whole) [])) ∧
 K (.star xa.whole)
set_option maxRecDepth 100000 in
theorem wholeStar_wp  (xa : Tr) (K : Tr → Prop) (h : wholeStar_vc xa K) :
  Does Tryd.prog 55 [Tr.val (.star xa)] [] [] (fun o => (∃ (v : Tr), K v ∧ o = .ret (Tr.val v) []) ∨ (False)) := by
 unfold wholeStar_vc at h
 refine does_of_wc (n := 66) (L0 := [(0, Tr.val (.star xa))]) Tryd.func55 rfl rfl rfl rfl (fun w0 M Q hE => ?_)
 refine wc_seq (fun K0 hK => ?_)
 refine wc_region ?_
 refine wv (OV.assign rfl) ?_
 refine WL.nil ?_
 refine KX.go (hK [(0, Tr.val (.star xa))] _ ?_) ⟨rfl, trivial⟩
 refine wc_seq (fun K0_1' hK_1' => ?_)
 refine wc_seq (fun K0_2' hK_2' => ?_)
 refine wc_region ?_
 refine wv (OV.move rfl) ?_
 refine WL.nil ?_
 refine KX.go (hK_2' [(0, Tr.val (.star xa)), (9, Tr.val (.star xa))] _ ?_) ⟨rfl, rfl, trivial⟩
 refine wc_block ?_
 refine wc_seq (fun K0_3' hK_3' => ?_)
 refine wc_region ?_
 refine wv (OV.eqlNil (v := Value.agg [Tr.val xa].toArray) rfl rfl Tryd.underlying23) ?_
 refine WL.nil ?_
 refine KX.go (hK_3' [(0, Tr.val (.star xa)), (9, Tr.val (.star xa)), (10, zB false)] _ ?_) ⟨rfl, rfl, rfl, trivial⟩
 refine wc_condF rfl ?_
 refine wc_seq (fun K0_4' hK_4' => ?_)
 refine wc_region ?_
 refine wv (OV.assertNo (t2 := 167) (v := Value.agg [Tr.val xa].toArray) rfl tf_cc_51 tf_zv_51 rfl) ?_
 refine wv (OV.extract 1 rfl rfl) ?_
 refine wv (OV.extract 0 rfl rfl) ?_
 refine WL.nil ?_
 refine KX.go (hK_4' [(0, Tr.val (.star xa)), (9, Tr.val (.star xa)), (14, zB false), (15, Value.agg [Tr.val Tr.none, Tr.val Tr.none].toArray)] _ ?_) ⟨rfl, rfl, rfl, rfl, trivial⟩
 refine wc_condF rfl ?_
 refine wc_seq (fun K0_5' hK_5' => ?_)
 refine wc_region ?_
 refine wv (OV.assertNo (t2 := 167) (v := Value.agg [Tr.val xa].toArray) rfl tf_cc_165 tf_zv_165 rfl) ?_
 refine wv (OV.extract 1 rfl rfl) ?_
 refine wv (OV.extract 0 rfl rfl) ?_
 refine WL.nil ?_
 refine KX.go (hK_5' [(0, Tr.val (.star xa)), (9, Tr.val (.star xa)), (25, zB false), (26, Value.agg [Tr.val Tr.none, Tr.val Tr.none].toArray)] _ ?_) ⟨rfl, rfl, rfl, rfl, trivial⟩
 refine wc_condF rfl ?_
 refine wc_seq (fun K0_6' hK_6' => ?_)
 refine wc_region ?_
 refine wv (OV.assertNo (t2 := 167) (v := Value.agg [Tr.val xa].toArray) rfl tf_cc_163 tf_zv_163 rfl) ?_
 refine wv (OV.extract 1 rfl rfl) ?_
 refine wv (OV.extract 0 rfl rfl) ?_
 refine WL.nil ?_
 refine KX.go (hK_6' [(0, Tr.val (.star xa)), (9, Tr.val (.star xa)), (36, zB false), (37, Value.agg [Tr.val Tr.none, Tr.val Tr.none].toArray)] _ ?_) ⟨rfl, rfl, rfl, rfl, trivial⟩
 refine wc_condF rfl ?_
 refine wc_seq (fun K0_7' hK_7' => ?_)
 refine wc_region ?_
 refine wv (OV.assertNo (t2 := 167) (v := Value.agg [Tr.val xa].toArray) rfl tf_cc_164 tf_zv_164 rfl) ?_
 refine wv (OV.extract 1 rfl rfl) ?_
 refine wv (OV.extract 0 rfl rfl) ?_
 refine WL.nil ?_
 refine KX.go (hK_7' [(0, Tr.val (.star xa)), (9, Tr.val (.star xa)), (47, zB false), (48, Value.agg [Tr.val Tr.none, Tr.val Tr.none].toArray)] _ ?_) ⟨rfl, rfl, rfl, rfl, trivial⟩
 refine wc_condF rfl ?_
 refine wc_seq (fun K0_8' hK_8' => ?_)
 refine wc_region ?_
 refine wv (OV.assertYes (t' := 167) (v := Value.agg [Tr.val xa].toArray) rfl tf_cc_167) ?_
 refine wv (OV.extract 1 rfl rfl) ?_
 refine wv (OV.extract 0 rfl rfl) ?_
 refine WL.nil ?_
 refine KX.go (hK_8' [(0, Tr.val (.star xa)), (58, zB true), (59, Value.agg [Tr.val xa].toArray)] _ ?_) ⟨rfl, rfl, rfl, trivial⟩
 refine wc_condT rfl ?_
 refine wc_seq (fun K0_9' hK_9' => ?_)
 refine wc_region ?_
 refine WL.make (MV.alloc tf_zero_167) rfl rfl rfl (fun b => ?_)
 refine WL.store (vs := [Tr.val xa]) (cs' := [Tr.val xa]) 0 rfl rfl rfl rfl tf_size_167 (Nat.le_of_ble_eq_true rfl) (one_cons (Tr.val_one _) one_nil) rfl rfl ?_
 refine WL.nil ?_
 refine KX.go (hK_9' [(8, zP b)] _ ?_) ⟨rfl, trivial⟩
 refine wc_seq (fun K0_10' hK_10' => ?_)
 refine wc_region ?_
 refine wv (OV.fieldAddr0 rfl tf_field_167_0) ?_
 refine wv (OV.load rfl (At.own 0 rfl) rfl tf_scal_23) ?_
 obtain ⟨o, h⟩ := h
 refine WL.call (A := []) tf_ent_55 rfl (o) rfl trivial rfl rfl ?_
 refine wv (OV.buildC (qs := [(0, [Tr.val xa.whole])]) (cs := [Tr.val xa.whole]) rfl ⟨rfl, Tr.val_cells _, trivial⟩ rfl) ?_
 refine wv (OV.cast (OV.iface rfl tf_conc_167) (v' := Tr.val (.star xa.whole)) rfl) ?_
 refine wv (OV.assign rfl) ?_
 refine WL.nil ?_
 refine KX.go (hK_10' [(2, Tr.val (.star xa.whole))] _ ?_) ⟨rfl, trivial⟩
 refine wc_ret ?_
 exact hE.ret [] rfl rfl (.inl ⟨_, h, rfl⟩) (ResV.of1 rfl (RV.tmp rfl))

def wholeAnd_vc (xa : Tr) (xb : Tr) (K : Tr → Prop) : Prop :=
 (Does Tryd.prog 55 [Tr.val xa] [] [] (Ret (Tr.val xa.whole) [])) ∧
 (Does Tryd.prog 55 [Tr.val xb] [] [] (Ret (Tr.val xb.whole) [])) ∧
 K (.and xa.whole xb.whole)
set_option maxRecDepth 100000 in
theorem wholeAnd_wp  (xa : Tr) (xb : Tr) (K : Tr → Prop) (h : wholeAnd_vc xa xb K) :
  Does Tryd.prog 55 [Tr.val (.and xa xb)] [] [] (fun o => (∃ (v : Tr), K v ∧ o = .ret (Tr.val v) []) ∨ (False)) := by
 unfold wholeAnd_vc at h
 refine does_of_wc (n := 66) (L0 := [(0, Tr.val (.and xa xb))]) Tryd.func55 rfl rfl rfl rfl (fun w0 M Q hE => ?_)
 refine wc_seq (fun K0 hK => ?_)
 refine wc_region ?_
 refine wv (OV.assign rfl) ?_
 refine WL.nil ?_
 refine KX.go (hK [(0, Tr.val (.and xa xb))] _ ?_) ⟨rfl, trivial⟩
 refine wc_seq (fun K0_1' hK_1' => ?_)
 refine wc_seq (fun K0_2' hK_2' => ?_)
 refine wc_region ?_
 refine wv (OV.move rfl) ?_
 refine WL.nil ?_
 refine KX.go (hK_2' [(0, Tr.val (.and xa xb)), (9, Tr.val (.and xa xb))] _ ?_) ⟨rfl, rfl, trivial⟩
 refine wc_block ?_
 refine wc_seq (fun K0_3' hK_3' => ?_)
 refine wc_region ?_
 refine wv (OV.eqlNil (v := Value.agg [Tr.val xa, Tr.val xb].toArray) rfl rfl Tryd.underlying23) ?_
 refine WL.nil ?_
 refine KX.go (hK_3' [(0, Tr.val (.and xa xb)), (9, Tr.val (.and xa xb)), (10, zB false)] _ ?_) ⟨rfl, rfl, rfl, trivial⟩
 refine wc_condF rfl ?_
 refine wc_seq (fun K0_4' hK_4' => ?_)
 refine wc_region ?_
 refine wv (OV.assertNo (t2 := 163) (v := Value.agg [Tr.val xa, Tr.val xb].toArray) rfl tf_cc_51 tf_zv_51 rfl) ?_
 refine wv (OV.extract 1 rfl rfl) ?_
 refine wv (OV.extract 0 rfl rfl) ?_
 refine WL.nil ?_
 refine KX.go (hK_4' [(0, Tr.val (.and xa xb)), (9, Tr.val (.and xa xb)), (14, zB false), (15, Value.agg [Tr.val Tr.none, Tr.val Tr.none].toArray)] _ ?_) ⟨rfl, rfl, rfl, rfl, trivial⟩
 refine wc_condF rfl ?_
 refine wc_seq (fun K0_5' hK_5' => ?_)
 refine wc_region ?_
 refine wv (OV.assertNo (t2 := 163) (v := Value.agg [Tr.val xa, Tr.val xb].toArray) rfl tf_cc_165 tf_zv_165 rfl) ?_
 refine wv (OV.extract 1 rfl rfl) ?_
 refine wv (OV.extract 0 rfl rfl) ?_
 refine WL.nil ?_
 refine KX.go (hK_5' [(0, Tr.val (.and xa xb)), (9, Tr.val (.and xa xb)), (25, zB false), (26, Value.agg [Tr.val Tr.none, Tr.val Tr.none].toArray)] _ ?_) ⟨rfl, rfl, rfl, rfl, trivial⟩
 refine wc_condF rfl ?_
 refine wc_seq (fun K0_6' hK_6' => ?_)
 refine wc_region ?_
 refine wv (OV.assertYes (t' := 163) (v := Value.agg [Tr.val xa, Tr.val xb].toArray) rfl tf_cc_163) ?_
 refine wv (OV.extract 1 rfl rfl) ?_
 refine wv (OV.extract 0 rfl rfl) ?_
 refine WL.nil ?_
 refine KX.go (hK_6' [(0, Tr.val (.and xa xb)), (9, Tr.val (.and xa xb)), (36, zB true), (37, Value.agg [Tr.val xa, Tr.val xb].toArray)] _ ?_) ⟨rfl, rfl, rfl, rfl, trivial⟩
 refine wc_condT rfl ?_
 refine wc_seq (fun K0_7' hK_7' => ?_)
 refine wc_region ?_
 refine WL.make (MV.alloc tf_zero_163) rfl rfl rfl (fun b => ?_)
 refine WL.storeW (vs := [Tr.val xa, Tr.val xb]) 0 rfl rfl rfl rfl rfl tf_size_163 rfl (one_cons (Tr.val_one _) (one_cons (Tr.val_one _) one_nil)) rfl ?_
 refine WL.nil ?_
 refine KX.go (hK_7' [(6, zP b)] _ ?_) ⟨rfl, trivial⟩
 refine wc_seq (fun K0_8' hK_8' => ?_)
 refine wc_draw 5 [] tf_mixed (by kernel_rfl) rfl (fun T hT => ?_)
 refine FL.val (fun _ => OV.fieldAddr0 rfl tf_field_163_0) rfl (fun _ => rfl) rfl rfl ?_
 refine FL.val (fun _ => OV.load rfl (At.own 0 rfl) rfl tf_scal_23) rfl (fun _ => rfl) rfl rfl ?_
 obtain ⟨o, h⟩ := h
 refine FL.call tf_ent_55 (fun _ => rfl) (o) trivial rfl (fun _ => rfl) rfl ?_
 refine FL.val (fun _ => OV.fieldAddr0 rfl tf_field_163_1) rfl (fun _ => rfl) rfl rfl ?_
 refine FL.val (fun _ => OV.load rfl (At.own 0 rfl) rfl tf_scal_23) rfl (fun _ => rfl) rfl rfl ?_
 refine FL.weak (L' := fun γ => [(40, Tr.val xa.whole), (42, Tr.val xb)]) (fun γ => ⟨rfl, rfl, trivial⟩) (FL.nil (hT (fun γ => [(40, Tr.val xa.whole), (42, Tr.val xb)]) (fun γ => ?_)))
 obtain ⟨o_1', h⟩ := h
 refine WL.call (A := []) tf_ent_55 rfl (o_1') rfl trivial rfl rfl ?_
 refine wv (OV.buildC (qs := [(0, [Tr.val xa.whole]), (1, [Tr.val xb.whole])]) (cs := [Tr.val xa.whole, Tr.val xb.whole]) rfl ⟨rfl, Tr.val_cells _, ⟨rfl, Tr.val_cells _, trivial⟩⟩ rfl) ?_
 refine wv (OV.cast (OV.iface rfl tf_conc_163) (v' := Tr.val (.and xa.whole xb.whole)) rfl) ?_
 refine wv (OV.assign rfl) ?_
 refine WL.nil ?_
 refine KX.go (hK_8' [(2, Tr.val (.and xa.whole xb.whole))] _ ?_) ⟨rfl, trivial⟩
 refine wc_ret ?_
 exact hE.ret [] rfl rfl (.inl ⟨_, h, rfl⟩) (ResV.of1 rfl (RV.tmp rfl))

def wholeMinus_vc (xa : Tr) (xb : Tr) (K : Tr → Prop) : Prop :=
 (Does Tryd.prog 55 [Tr.val xa] [] [] (Ret (Tr.val xa.whole) [])) ∧
 (Does Tryd.prog 55 [Tr.val xb] [] [] (Ret (Tr.val xb.whole) [])) ∧
 K (.minus xa.whole xb.whole)
set_option maxRecDepth 100000 in
theorem wholeMinus_wp  (xa : Tr) (xb : Tr) (K : Tr → Prop) (h : wholeMinus_vc xa xb K) :
  Does Tryd.prog 55 [Tr.val (.minus xa xb)] [] [] (fun o => (∃ (v : Tr), K v ∧ o = .ret (Tr.val v) []) ∨ (False)) := by
 unfold wholeMinus_vc at h
 refine does_of_wc (n := 66) (L0 := [(0, Tr.val (.minus xa xb))]) Tryd.func55 rfl rfl rfl rfl (fun w0 M Q hE => ?_)
 refine wc_seq (fun K0 hK => ?_)
 refine wc_region ?_
 refine wv (OV.assign rfl) ?_
 refine WL.nil ?_
 refine KX.go (hK [(0, Tr.val (.minus xa xb))] _ ?_) ⟨rfl, trivial⟩
 refine wc_seq (fun K0_1' hK_1' => ?_)
 refine wc_seq (fun K0_2' hK_2' => ?_)
 refine wc_region ?_
 refine wv (OV.move rfl) ?_
 refine WL.nil ?_
 refine KX.go (hK_2' [(0, Tr.val (.minus xa xb)), (9, Tr.val (.minus xa xb))] _ ?_) ⟨rfl, rfl, trivial⟩
 refine wc_block ?_
 refine wc_seq (fun K0_3' hK_3' => ?_)
 refine wc_region ?_
 refine wv (OV.eqlNil (v := Value.agg [Tr.val xa, Tr.val xb].toArray) rfl rfl Tryd.underlying23) ?_
 refine WL.nil ?_
 refine KX.go (hK_3' [(0, Tr.val (.minus xa xb)), (9, Tr.val (.minus xa xb)), (10, zB false)] _ ?_) ⟨rfl, rfl, rfl, trivial⟩
 refine wc_condF rfl ?_
 refine wc_seq (fun K0_4' hK_4' => ?_)
 refine wc_region ?_
 refine wv (OV.assertNo (t2 := 164) (v := Value.agg [Tr.val xa, Tr.val xb].toArray) rfl tf_cc_51 tf_zv_51 rfl) ?_
 refine wv (OV.extract 1 rfl rfl) ?_
 refine wv (OV.extract 0 rfl rfl) ?_
 refine WL.nil ?_
 refine KX.go (hK_4' [(0, Tr.val (.minus xa xb)), (9, Tr.val (.minus xa xb)), (14, zB false), (15, Value.agg [Tr.val Tr.none, Tr.val Tr.none].toArray)] _ ?_) ⟨rfl, rfl, rfl, rfl, trivial⟩
 refine wc_condF rfl ?_
 refine wc_seq (fun K0_5' hK_5' => ?_)
 refine wc_region ?_
 refine wv (OV.assertNo (t2 := 164) (v := Value.agg [Tr.val xa, Tr.val xb].toArray) rfl tf_cc_165 tf_zv_165 rfl) ?_
 refine wv (OV.extract 1 rfl rfl) ?_
 refine wv (OV.extract 0 rfl rfl) ?_
 refine WL.nil ?_
 refine KX.go (hK_5' [(0, Tr.val (.minus xa xb)), (9, Tr.val (.minus xa xb)), (25, zB false), (26, Value.agg [Tr.val Tr.none, Tr.val Tr.none].toArray)] _ ?_) ⟨rfl, rfl, rfl, rfl, trivial⟩
 refine wc_condF rfl ?_
 refine wc_seq (fun K0_6' hK_6' => ?_)
 refine wc_region ?_
 refine wv (OV.assertNo (t2 := 164) (v := Value.agg [Tr.val xa, Tr.val xb].toArray) rfl tf_cc_163 tf_zv_163 rfl) ?_
 refine wv (OV.extract 1 rfl rfl) ?_
 refine wv (OV.extract 0 rfl rfl) ?_
 refine WL.nil ?_
 refine KX.go (hK_6' [(0, Tr.val (.minus xa xb)), (9, Tr.val (.minus xa xb)), (36, zB false), (37, Value.agg [Tr.val Tr.none, Tr.val Tr.none].toArray)] _ ?_) ⟨rfl, rfl, rfl, rfl, trivial⟩
 refine wc_condF rfl ?_
 refine wc_seq (fun K0_7' hK_7' => ?_)
 refine wc_region ?_
 refine wv (OV.assertYes (t' := 164) (v := Value.agg [Tr.val xa, Tr.val xb].toArray) rfl tf_cc_164) ?_
 refine wv (OV.extract 1 rfl rfl) ?_
 refine wv (OV.extract 0 rfl rfl) ?_
 refine WL.nil ?_
 refine KX.go (hK_7' [(0, Tr.val (.minus xa xb)), (9, Tr.val (.minus xa xb)), (47, zB true), (48, Value.agg [Tr.val xa, Tr.val xb].toArray)] _ ?_) ⟨rfl, rfl, rfl, rfl, trivial⟩
 refine wc_condT rfl ?_
 refine wc_seq (fun K0_8' hK_8' => ?_)
 refine wc_region ?_
 refine WL.make (MV.alloc tf_zero_164) rfl rfl rfl (fun b => ?_)
 refine WL.storeW (vs := [Tr.val xa, Tr.val xb]) 0 rfl rfl rfl rfl rfl tf_size_164 rfl (one_cons (Tr.val_one _) (one_cons (Tr.val_one _) one_nil)) rfl ?_
 refine WL.nil ?_
 refine KX.go (hK_8' [(7, zP b)] _ ?_) ⟨rfl, trivial⟩
 refine wc_seq (fun K0_9' hK_9' => ?_)
 refine wc_draw 5 [] tf_mixed (by kernel_rfl) rfl (fun T hT => ?_)
 refine FL.val (fun _ => OV.fieldAddr0 rfl tf_field_164_0) rfl (fun _ => rfl) rfl rfl ?_
 refine FL.val (fun _ => OV.load rfl (At.own 0 rfl) rfl tf_scal_23) rfl (fun _ => rfl) rfl rfl ?_
 obtain ⟨o, h⟩ := h
 refine FL.call tf_ent_55 (fun _ => rfl) (o) trivial rfl (fun _ => rfl) rfl ?_
 refine FL.val (fun _ => OV.fieldAddr0 rfl tf_field_164_1) rfl (fun _ => rfl) rfl rfl ?_
 refine FL.val (fun _ => OV.load rfl (At.own 0 rfl) rfl tf_scal_23) rfl (fun _ => rfl) rfl rfl ?_
 refine FL.weak (L' := fun γ => [(51, Tr.val xa.whole), (53, Tr.val xb)]) (fun γ => ⟨rfl, rfl, trivial⟩) (FL.nil (hT (fun γ => [(51, Tr.val xa.whole), (53, Tr.val xb)]) (fun γ => ?_)))
 obtain ⟨o_1', h⟩ := h
 refine WL.call (A := []) tf_ent_55 rfl (o_1') rfl trivial rfl rfl ?_
 refine wv (OV.buildC (qs := [(0, [Tr.val xa.whole]), (1, [Tr.val xb.whole])]) (cs := [Tr.val xa.whole, Tr.val xb.whole]) rfl ⟨rfl, Tr.val_cells _, ⟨rfl, Tr.val_cells _, trivial⟩⟩ rfl) ?_
 refine wv (OV.cast (OV.iface rfl tf_conc_164) (v' := Tr.val (.minus xa.whole xb.whole)) rfl) ?_
 refine wv (OV.assign rfl) ?_
 refine WL.nil ?_
 refine KX.go (hK_9' [(2, Tr.val (.minus xa.whole xb.whole))] _ ?_) ⟨rfl, trivial⟩
 refine wc_ret ?_
 exact hE.ret [] rfl rfl (.inl ⟨_, h, rfl⟩) (ResV.of1 rfl (RV.tmp rfl))

theorem Tr.sure_size (x : Tr) : x.sure.size = x.size := by cases x <;> rfl
theorem Tr.sure_null (x : Tr) : x.sure.null = x.null := by cases x <;> rfl
theorem size_cls (s : CS) : DoesM Tryd.prog (Tr.cls s).val "Size" [] (.int .i64 (((Tr.cls s).size : Nat) : Int)) :=
 ⟨_, _, _, rfl, by kernel_rfl, by kernel_rfl, by kernel_rfl, Does.one (sizeCls_wp s (fun v => v = ((Tr.size (.cls s) : Nat) : Int)) rfl)⟩
theorem size_sure {x : Tr} (h : x.isNone = false → DoesM Tryd.prog x.val "Size" [] (.int .i64 ((x.size : Nat) : Int))) : DoesM Tryd.prog x.sure.val "Size" [] (.int .i64 ((x.sure.size : Nat) : Int)) := by
 cases x <;> first | exact size_cls cs0 | exact h rfl
theorem size_meth : ∀ x : Tr, x.isNone = false → x.size ≤ 4611686018427387904 → DoesM Tryd.prog x.val "Size" [] (.int .i64 ((x.size : Nat) : Int))
 | .none, h, _ => by cases h
 | .eps, _, _ => ⟨_, _, _, rfl, by kernel_rfl, by kernel_rfl, by kernel_rfl, Does.one (sizeEps_wp (fun v => v = ((Tr.size .eps : Nat) : Int)) rfl)⟩
 | .cls s, _, _ => size_cls s
 | .cat a b, _, hb => ⟨_, _, _, rfl, by kernel_rfl, by kernel_rfl, by kernel_rfl, Does.one (sizeCat_wp a b (fun v => v = ((Tr.size (.cat a b) : Nat) : Int)) (by
   simp only [Tr.size] at hb
   refine ⟨size_sure fun h => size_meth a h (by omega), ?_, size_sure fun h => size_meth b h (by omega), ?_, ?_⟩ <;> simp only [Tr.sure_size, Tr.size, I64] <;> omega))⟩
 | .alt a b, _, hb => ⟨_, _, _, rfl, by kernel_rfl, by kernel_rfl, by kernel_rfl, Does.one (sizeAlt_wp a b (fun v => v = ((Tr.size (.alt a b) : Nat) : Int)) (by
   simp only [Tr.size] at hb
   refine ⟨size_sure fun h => size_meth a h (by omega), ?_, size_sure fun h => size_meth b h (by omega), ?_, ?_⟩ <;> simp only [Tr.sure_size, Tr.size, I64] <;> omega))⟩
 | .and a b, _, hb => ⟨_, _, _, rfl, by kernel_rfl, by kernel_rfl, by kernel_rfl, Does.one (sizeAnd_wp a b (fun v => v = ((Tr.size (.and a b) : Nat) : Int)) (by
   simp only [Tr.size] at hb
   refine ⟨size_sure fun h => size_meth a h (by omega), ?_, size_sure fun h => size_meth b h (by omega), ?_, ?_⟩ <;> simp only [Tr.sure_size, Tr.size, I64] <;> omega))⟩
 | .minus a b, _, hb => ⟨_, _, _, rfl, by kernel_rfl, by kernel_rfl, by kernel_rfl, Does.one (sizeMinus_wp a b (fun v => v = ((Tr.size (.minus a b) : Nat) : Int)) (by
   simp only [Tr.size] at hb
   refine ⟨size_sure fun h => size_meth a h (by omega), ?_, size_sure fun h => size_meth b h (by omega), ?_, ?_⟩ <;> simp only [Tr.sure_size, Tr.size, I64] <;> omega))⟩
 | .star a, _, hb => ⟨_, _, _, rfl, by kernel_rfl, by kernel_rfl, by kernel_rfl, Does.one (sizeStar_wp a (fun v => v = ((Tr.size (.star a) : Nat) : Int)) (by
   simp only [Tr.size] at hb
   refine ⟨size_sure fun h => size_meth a h (by omega), ?_, ?_⟩ <;> simp only [Tr.sure_size, Tr.size, I64] <;> omega))⟩
theorem null_cls (s : CS) : DoesM Tryd.prog (Tr.cls s).val "Nullable" [] (.bool (Tr.cls s).null) :=
 ⟨_, _, _, rfl, by kernel_rfl, by kernel_rfl, by kernel_rfl, Does.one (nullCls_wp s (fun v => v = (Tr.cls s).null) rfl)⟩
theorem null_sure {x : Tr} (h : x.isNone = false → DoesM Tryd.prog x.val "Nullable" [] (.bool x.null)) : DoesM Tryd.prog x.sure.val "Nullable" [] (.bool x.sure.null) := by
 cases x <;> first | exact null_cls cs0 | exact h rfl
theorem null_meth : ∀ x : Tr, x.isNone = false → DoesM Tryd.prog x.val "Nullable" [] (.bool x.null)
 | .none, h => by cases h
 | .eps, _ => ⟨_, _, _, rfl, by kernel_rfl, by kernel_rfl, by kernel_rfl, Does.one (nullEps_wp (fun v => v = Tr.null .eps) rfl)⟩
 | .cls s, _ => null_cls s
 | .star a, _ => ⟨_, _, _, rfl, by kernel_rfl, by kernel_rfl, by kernel_rfl, Does.one (nullStar_wp a (fun v => v = Tr.null (.star a)) rfl)⟩
 | .cat a b, _ => ⟨_, _, _, rfl, by kernel_rfl, by kernel_rfl, by kernel_rfl, Does.one (nullCat_wp a b (fun v => v = Tr.null (.cat a b)) ⟨null_sure fun h => null_meth a h, fun _ => null_sure fun h => null_meth b h, by simp only [Tr.sure_null, Tr.null]⟩)⟩
 | .alt a b, _ => ⟨_, _, _, rfl, by kernel_rfl, by kernel_rfl, by kernel_rfl, Does.one (nullAlt_wp a b (fun v => v = Tr.null (.alt a b)) ⟨null_sure fun h => null_meth a h, fun _ => null_sure fun h => null_meth b h, by simp only [Tr.sure_null, Tr.null]⟩)⟩
 | .and a b, _ => ⟨_, _, _, rfl, by kernel_rfl, by kernel_rfl, by kernel_rfl, Does.one (nullAnd_wp a b (fun v => v = Tr.null (.and a b)) ⟨null_sure fun h => null_meth a h, fun _ => null_sure fun h => null_meth b h, by simp only [Tr.sure_null, Tr.null]⟩)⟩
 | .minus a b, _ => ⟨_, _, _, rfl, by kernel_rfl, by kernel_rfl, by kernel_rfl, Does.one (nullMinus_wp a b (fun v => v = Tr.null (.minus a b)) ⟨null_sure fun h => null_meth a h, fun _ => null_sure fun h => null_meth b h, by simp only [Tr.sure_null, Tr.null]⟩)⟩
theorem plain_does : ∀ x : Tr, Does Tryd.prog 40 [x.val] [] [] (Ret (.bool x.plain) [])
 | .none => Does.one (plainNone_wp (fun v => v = Tr.plain .none) rfl)
 | .eps => Does.one (plainEps_wp (fun v => v = Tr.plain .eps) rfl)
 | .cls s => Does.one (plainCls_wp s (fun v => v = Tr.plain (.cls s)) rfl)
 | .cat a b => Does.one (plainCat_wp a b (fun v => v = Tr.plain (.cat a b)) ⟨plain_does a, fun _ => plain_does b, rfl⟩)
 | .alt a b => Does.one (plainAlt_wp a b (fun v => v = Tr.plain (.alt a b)) ⟨plain_does a, fun _ => plain_does b, rfl⟩)
 | .star a => Does.one (plainStar_wp a (fun v => v = Tr.plain (.star a)) ⟨plain_does a, rfl⟩)
 | .and a b => Does.one (plainAnd_wp a b (fun v => v = Tr.plain (.and a b)) rfl)
 | .minus a b => Does.one (plainMinus_wp a b (fun v => v = Tr.plain (.minus a b)) rfl)
theorem whole_does : ∀ x : Tr, Does Tryd.prog 55 [x.val] [] [] (Ret x.whole.val [])
 | .none => Does.one (wholeNone_wp (fun v => v = Tr.whole .none) rfl)
 | .eps => Does.one (wholeEps_wp (fun v => v = Tr.whole .eps) rfl)
 | .cls s => Does.one (wholeCls_wp s (fun v => v = Tr.whole (.cls s)) rfl)
 | .cat a b => Does.one (wholeCat_wp a b (fun v => v = Tr.whole (.cat a b)) ⟨whole_does a, whole_does b, rfl⟩)
 | .alt a b => Does.one (wholeAlt_wp a b (fun v => v = Tr.whole (.alt a b)) ⟨whole_does a, whole_does b, rfl⟩)
 | .star a => Does.one (wholeStar_wp a (fun v => v = Tr.whole (.star a)) ⟨whole_does a, rfl⟩)
 | .and a b => Does.one (wholeAnd_wp a b (fun v => v = Tr.whole (.and a b)) ⟨whole_does a, whole_does b, rfl⟩)
 | .minus a b => Does.one (wholeMinus_wp a b (fun v => v = Tr.whole (.minus a b)) ⟨whole_does a, whole_does b, rfl⟩)

def same_vc (a : Tr) (b : Tr) (K : Bool → Prop) : Prop :=
 (Does Tryd.prog 55 [Tr.val a] [] [] (Ret (Tr.val a.whole) [])) ∧
 (Does Tryd.prog 55 [Tr.val b] [] [] (Ret (Tr.val b.whole) [])) ∧
 (a.whole ≠ .none ∧ Tr.high a.whole ≤ 4000) ∧
 K (decide (a.whole = b.whole))
set_option maxRecDepth 100000 in
theorem same_wp  (a : Tr) (b : Tr) (K : Bool → Prop) (h : same_vc a b K) :
  Does Tryd.prog 26 [Tr.val a, Tr.val b] [] [] (fun o => (∃ (v : Bool), K v ∧ o = .ret (zB v) []) ∨ (False)) := by
 unfold same_vc at h
 refine does_of_wc (n := 10) (L0 := [(0, Tr.val a), (1, Tr.val b)]) Tryd.func26 rfl rfl rfl rfl (fun w0 M Q hE => ?_)
 refine wc_seq (fun K0 hK => ?_)
 refine wc_region ?_
 refine wv (OV.assign rfl) ?_
 refine WL.nil ?_
 refine KX.go (hK [(0, Tr.val a), (1, Tr.val b)] _ ?_) ⟨rfl, rfl, trivial⟩
 refine wc_seq (fun K0_1' hK_1' => ?_)
 refine wc_region ?_
 refine wv (OV.move rfl) ?_
 obtain ⟨o, h⟩ := h
 refine WL.call (A := []) tf_ent_55 rfl (o) rfl trivial rfl rfl ?_
 refine wv (OV.move rfl) ?_
 obtain ⟨o_1', h⟩ := h
 refine WL.call (A := []) tf_ent_55 rfl (o_1') rfl trivial rfl rfl ?_
 obtain ⟨o_2', h⟩ := h
 refine wv (OV.eqlTrs rfl rfl o_2') ?_
 refine wv (OV.assign rfl) ?_
 refine WL.nil ?_
 refine KX.go (hK_1' [(4, zB (decide (a.whole = b.whole)))] _ ?_) ⟨rfl, trivial⟩
 refine wc_ret ?_
 exact hE.ret [] rfl rfl (.inl ⟨_, h, rfl⟩) (ResV.of1 rfl (RV.tmp rfl))

def showNone_vc (need : Int) (K : (List UInt8) → Prop) : Prop :=
 ∃ (J0 : Prop),
  (∀ (_ : Unit), J0 →
   (if (decide (4 < need)) = true then
    (([40] : List UInt8).length + ([91, 93] : List UInt8).length ≤ 9223372036854775807) ∧
    ((([40] : List UInt8) ++ ([91, 93] : List UInt8)).length + ([41] : List UInt8).length ≤ 9223372036854775807) ∧
    K ((([40] : List UInt8) ++ ([91, 93] : List UInt8)) ++ ([41] : List UInt8))
   else
    K ([91, 93] : List UInt8))) ∧
  J0
set_option maxRecDepth 100000 in
theorem showNone_wp (te : TypeId) (fre : Nat × Nat) (need : Int) (K : (List UInt8) → Prop) (h : showNone_vc need K) :
  Does Tryd.prog 51 [Tr.val Tr.none, zI need] [(1, .cells [zU 110, zU 10, zU 114, zU 13, zU 116, zU 9].toArray te fre)] [] (fun o => (∃ (v : List UInt8), K v ∧ o = .ret (st v) []) ∨ (False)) := by
 unfold showNone_vc at h
 refine does_of_wc (n := 82) (L0 := [(0, Tr.val Tr.none), (1, zI need)]) Tryd.func51 rfl rfl rfl rfl (fun w0 M Q hE => ?_)
 refine wc_seq (fun K0 hK => ?_)
 refine wc_region ?_
 refine wv (OV.assign rfl) ?_
 refine WL.nil ?_
 refine KX.go (hK [(0, Tr.val Tr.none), (1, zI need)] _ ?_) ⟨rfl, rfl, trivial⟩
 refine wc_seq (fun K0_1' hK_1' => ?_)
 refine wc_region ?_
 refine wv (OV.assign rfl) ?_
 refine wv (OV.assign rfl) ?_
 refine WL.nil ?_
 refine KX.go (hK_1' [(0, Tr.val Tr.none), (1, zI need), (6, zI 4)] _ ?_) ⟨rfl, rfl, rfl, trivial⟩
 obtain ⟨J0, hJ, h⟩ := h
 refine wc_seqJ (X := Unit) (fun _ => J0) (fun _ => [(1, zI need), (5, st ([91, 93] : List UInt8)), (6, zI 4)]) (fun _ => []) ?_ (fun K0_11' hK_11' => ?_)
 ·rintro _ hj
  replace h := hJ () hj
  show WC _ _ _ _ [(1, zI need), (5, st ([91, 93] : List UInt8)), (6, zI 4)] []
  refine wc_seq (fun K0_12' hK_12' => ?_)
  refine wc_seq (fun K0_13' hK_13' => ?_)
  refine wc_region ?_
  refine wv (OV.move rfl) ?_
  refine wv (OV.move rfl) ?_
  refine wv (OV.lss rfl rfl) ?_
  refine WL.nil ?_
  refine KX.go (hK_13' [(5, st ([91, 93] : List UInt8)), (77, zB (decide (4 < need)))] _ ?_) ⟨rfl, rfl, trivial⟩
  refine wc_cond (b := decide (4 < need)) rfl (fun hb => ?_) (fun hb => ?_)
  ·replace h := if_T h hb
   refine wc_seq (fun K0_14' hK_14' => ?_)
   refine wc_region ?_
   refine wv (OV.move rfl) ?_
   obtain ⟨o, h⟩ := h
   refine wv (OV.cat rfl rfl o) ?_
   obtain ⟨o_1', h⟩ := h
   refine wv (OV.cat rfl rfl o_1') ?_
   refine wv (OV.assign rfl) ?_
   refine WL.nil ?_
   refine KX.go (hK_14' [(4, st ((([40] : List UInt8) ++ ([91, 93] : List UInt8)) ++ ([41] : List UInt8)))] _ ?_) ⟨rfl, trivial⟩
   refine wc_ret ?_
   exact hE.ret [] rfl rfl (.inl ⟨_, h, rfl⟩) (ResV.of1 rfl (RV.tmp rfl))
  ·replace h := if_F h hb
   refine wc_skip ?_
   refine KX.go (hK_12' [(5, st ([91, 93] : List UInt8))] _ ?_) ⟨rfl, trivial⟩
   refine wc_seq (fun K0_15' hK_15' => ?_)
   refine wc_region ?_
   refine wv (OV.move rfl) ?_
   refine wv (OV.assign rfl) ?_
   refine WL.nil ?_
   refine KX.go (hK_15' [(4, st ([91, 93] : List UInt8))] _ ?_) ⟨rfl, trivial⟩
   refine wc_ret ?_
   exact hE.ret [] rfl rfl (.inl ⟨_, h, rfl⟩) (ResV.of1 rfl (RV.tmp rfl))
 ·skip
  refine wc_seq (fun K0_16' hK_16' => ?_)
  refine wc_region ?_
  refine wv (OV.move rfl) ?_
  refine WL.nil ?_
  refine KX.go (hK_16' [(1, zI need), (6, zI 4), (15, Tr.val Tr.none)] _ ?_) ⟨rfl, rfl, rfl, trivial⟩
  refine wc_block ?_
  refine wc_seq (fun K0_17' hK_17' => ?_)
  refine wc_region ?_
  refine wv (OV.assertNil rfl tf_cc_49 tf_zv_49) ?_
  refine wv (OV.extract 1 rfl rfl) ?_
  refine wv (OV.extract 0 rfl rfl) ?_
  refine WL.nil ?_
  refine KX.go (hK_17' [(1, zI need), (6, zI 4), (15, Tr.val Tr.none), (17, zB false), (18, Value.agg [].toArray)] _ ?_) ⟨rfl, rfl, rfl, rfl, rfl, trivial⟩
  refine wc_condF rfl ?_
  refine wc_seq (fun K0_18' hK_18' => ?_)
  refine wc_region ?_
  refine wv (OV.assertNil rfl tf_cc_87 tf_zv_87) ?_
  refine wv (OV.extract 1 rfl rfl) ?_
  refine wv (OV.extract 0 rfl rfl) ?_
  refine WL.nil ?_
  refine KX.go (hK_18' [(1, zI need), (6, zI 4), (15, Tr.val Tr.none), (20, zB false), (21, Value.agg (wl cs0).toArray)] _ ?_) ⟨rfl, rfl, rfl, rfl, rfl, trivial⟩
  refine wc_condF rfl ?_
  refine wc_seq (fun K0_19' hK_19' => ?_)
  refine wc_region ?_
  refine wv (OV.assertNil rfl tf_cc_165 tf_zv_165) ?_
  refine wv (OV.extract 1 rfl rfl) ?_
  refine wv (OV.extract 0 rfl rfl) ?_
  refine WL.nil ?_
  refine KX.go (hK_19' [(1, zI need), (6, zI 4), (15, Tr.val Tr.none), (26, zB false), (27, Value.agg [Tr.val Tr.none, Tr.val Tr.none].toArray)] _ ?_) ⟨rfl, rfl, rfl, rfl, rfl, trivial⟩
  refine wc_condF rfl ?_
  refine wc_seq (fun K0_20' hK_20' => ?_)
  refine wc_region ?_
  refine wv (OV.assertNil rfl tf_cc_163 tf_zv_163) ?_
  refine wv (OV.extract 1 rfl rfl) ?_
  refine wv (OV.extract 0 rfl rfl) ?_
  refine WL.nil ?_
  refine KX.go (hK_20' [(1, zI need), (6, zI 4), (15, Tr.val Tr.none), (37, zB false), (38, Value.agg [Tr.val Tr.none, Tr.val Tr.none].toArray)] _ ?_) ⟨rfl, rfl, rfl, rfl, rfl, trivial⟩
  refine wc_condF rfl ?_
  refine wc_seq (fun K0_21' hK_21' => ?_)
  refine wc_region ?_
  refine wv (OV.assertNil rfl tf_cc_164 tf_zv_164) ?_
  refine wv (OV.extract 1 rfl rfl) ?_
  refine wv (OV.extract 0 rfl rfl) ?_
  refine WL.nil ?_
  refine KX.go (hK_21' [(1, zI need), (6, zI 4), (15, Tr.val Tr.none), (48, zB false), (49, Value.agg [Tr.val Tr.none, Tr.val Tr.none].toArray)] _ ?_) ⟨rfl, rfl, rfl, rfl, rfl, trivial⟩
  refine wc_condF rfl ?_
  refine wc_seq (fun K0_22' hK_22' => ?_)
  refine wc_region ?_
  refine wv (OV.assertNil rfl tf_cc_51 tf_zv_51) ?_
  refine wv (OV.extract 1 rfl rfl) ?_
  refine wv (OV.extract 0 rfl rfl) ?_
  refine WL.nil ?_
  refine KX.go (hK_22' [(1, zI need), (6, zI 4), (15, Tr.val Tr.none), (59, zB false), (60, Value.agg [Tr.val Tr.none, Tr.val Tr.none].toArray)] _ ?_) ⟨rfl, rfl, rfl, rfl, rfl, trivial⟩
  refine wc_condF rfl ?_
  refine wc_seq (fun K0_23' hK_23' => ?_)
  refine wc_region ?_
  refine wv (OV.assertNil rfl tf_cc_167 tf_zv_167) ?_
  refine wv (OV.extract 1 rfl rfl) ?_
  refine wv (OV.extract 0 rfl rfl) ?_
  refine WL.nil ?_
  refine KX.go (hK_23' [(1, zI need), (6, zI 4), (15, Tr.val Tr.none), (69, zB false), (70, Value.agg [Tr.val Tr.none].toArray)] _ ?_) ⟨rfl, rfl, rfl, rfl, rfl, trivial⟩
  refine wc_condF rfl ?_
  refine wc_seq (fun K0_24' hK_24' => ?_)
  refine wc_region ?_
  refine wv (OV.assign rfl) ?_
  refine WL.nil ?_
  refine KX.go (hK_24' [(1, zI need), (6, zI 4)] _ ?_) ⟨rfl, rfl, trivial⟩
  refine wc_region ?_
  refine wv (OV.assign rfl) ?_
  refine WL.nil ?_
  exact KX.goH (hK_11' () h) ⟨rfl, rfl, rfl, trivial⟩ [] rfl rfl

def showEps_vc (need : Int) (K : (List UInt8) → Prop) : Prop :=
 ∃ (J0 : Prop),
  (∀ (_ : Unit), J0 →
   (if (decide (4 < need)) = true then
    (([40] : List UInt8).length + ([40, 41] : List UInt8).length ≤ 9223372036854775807) ∧
    ((([40] : List UInt8) ++ ([40, 41] : List UInt8)).length + ([41] : List UInt8).length ≤ 9223372036854775807) ∧
    K ((([40] : List UInt8) ++ ([40, 41] : List UInt8)) ++ ([41] : List UInt8))
   else
    K ([40, 41] : List UInt8))) ∧
  J0
set_option maxRecDepth 100000 in
theorem showEps_wp (te : TypeId) (fre : Nat × Nat) (need : Int) (K : (List UInt8) → Prop) (h : showEps_vc need K) :
  Does Tryd.prog 51 [Tr.val .eps, zI need] [(1, .cells [zU 110, zU 10, zU 114, zU 13, zU 116, zU 9].toArray te fre)] [] (fun o => (∃ (v : List UInt8), K v ∧ o = .ret (st v) []) ∨ (False)) := by
 unfold showEps_vc at h
 refine does_of_wc (n := 82) (L0 := [(0, Tr.val .eps), (1, zI need)]) Tryd.func51 rfl rfl rfl rfl (fun w0 M Q hE => ?_)
 refine wc_seq (fun K0 hK => ?_)
 refine wc_region ?_
 refine wv (OV.assign rfl) ?_
 refine WL.nil ?_
 refine KX.go (hK [(0, Tr.val .eps), (1, zI need)] _ ?_) ⟨rfl, rfl, trivial⟩
 refine wc_seq (fun K0_1' hK_1' => ?_)
 refine wc_region ?_
 refine wv (OV.assign rfl) ?_
 refine wv (OV.assign rfl) ?_
 refine WL.nil ?_
 refine KX.go (hK_1' [(0, Tr.val .eps), (1, zI need), (6, zI 4)] _ ?_) ⟨rfl, rfl, rfl, trivial⟩
 obtain ⟨J0, hJ, h⟩ := h
 refine wc_seqJ (X := Unit) (fun _ => J0) (fun _ => [(1, zI need), (5, st ([40, 41] : List UInt8)), (6, zI 4)]) (fun _ => []) ?_ (fun K0_5' hK_5' => ?_)
 ·rintro _ hj
  replace h := hJ () hj
  show WC _ _ _ _ [(1, zI need), (5, st ([40, 41] : List UInt8)), (6, zI 4)] []
  refine wc_seq (fun K0_6' hK_6' => ?_)
  refine wc_seq (fun K0_7' hK_7' => ?_)
  refine wc_region ?_
  refine wv (OV.move rfl) ?_
  refine wv (OV.move rfl) ?_
  refine wv (OV.lss rfl rfl) ?_
  refine WL.nil ?_
  refine KX.go (hK_7' [(5, st ([40, 41] : List UInt8)), (77, zB (decide (4 < need)))] _ ?_) ⟨rfl, rfl, trivial⟩
  refine wc_cond (b := decide (4 < need)) rfl (fun hb => ?_) (fun hb => ?_)
  ·replace h := if_T h hb
   refine wc_seq (fun K0_8' hK_8' => ?_)
   refine wc_region ?_
   refine wv (OV.move rfl) ?_
   obtain ⟨o, h⟩ := h
   refine wv (OV.cat rfl rfl o) ?_
   obtain ⟨o_1', h⟩ := h
   refine wv (OV.cat rfl rfl o_1') ?_
   refine wv (OV.assign rfl) ?_
   refine WL.nil ?_
   refine KX.go (hK_8' [(4, st ((([40] : List UInt8) ++ ([40, 41] : List UInt8)) ++ ([41] : List UInt8)))] _ ?_) ⟨rfl, trivial⟩
   refine wc_ret ?_
   exact hE.ret [] rfl rfl (.inl ⟨_, h, rfl⟩) (ResV.of1 rfl (RV.tmp rfl))
  ·replace h := if_F h hb
   refine wc_skip ?_
   refine KX.go (hK_6' [(5, st ([40, 41] : List UInt8))] _ ?_) ⟨rfl, trivial⟩
   refine wc_seq (fun K0_9' hK_9' => ?_)
   refine wc_region ?_
   refine wv (OV.move rfl) ?_
   refine wv (OV.assign rfl) ?_
   refine WL.nil ?_
   refine KX.go (hK_9' [(4, st ([40, 41] : List UInt8))] _ ?_) ⟨rfl, trivial⟩
   refine wc_ret ?_
   exact hE.ret [] rfl rfl (.inl ⟨_, h, rfl⟩) (ResV.of1 rfl (RV.tmp rfl))
 ·skip
  refine wc_seq (fun K0_10' hK_10' => ?_)
  refine wc_region ?_
  refine wv (OV.move rfl) ?_
  refine WL.nil ?_
  refine KX.go (hK_10' [(1, zI need), (6, zI 4), (15, Tr.val .eps)] _ ?_) ⟨rfl, rfl, rfl, trivial⟩
  refine wc_block ?_
  refine wc_seq (fun K0_11' hK_11' => ?_)
  refine wc_region ?_
  refine wv (OV.assertYes (t' := 49) (v := Value.agg [].toArray) rfl tf_cc_49) ?_
  refine wv (OV.extract 1 rfl rfl) ?_
  refine wv (OV.extract 0 rfl rfl) ?_
  refine WL.nil ?_
  refine KX.go (hK_11' [(1, zI need), (6, zI 4), (15, Tr.val .eps), (17, zB true), (18, Value.agg [].toArray)] _ ?_) ⟨rfl, rfl, rfl, rfl, rfl, trivial⟩
  refine wc_condT rfl ?_
  refine wc_seq (fun K0_12' hK_12' => ?_)
  refine wc_region ?_
  refine WL.make (MV.alloc tf_zero_49) rfl rfl rfl (fun b_1' => ?_)
  refine WL.store (vs := []) (cs' := []) 0 rfl rfl rfl rfl tf_size_49 (Nat.le_of_ble_eq_true rfl) rfl rfl rfl ?_
  refine WL.nil ?_
  refine KX.go (hK_12' [(1, zI need), (6, zI 4)] _ ?_) ⟨rfl, rfl, trivial⟩
  refine wc_region ?_
  refine wv (OV.assign rfl) ?_
  refine WL.nil ?_
  exact KX.goH (hK_5' () h) ⟨rfl, rfl, rfl, trivial⟩ [] rfl rfl

def showCls_vc (xs : CS) (need : Int) (K : (List UInt8) → Prop) : Prop :=
 ∃ (J0 : Prop),
  (∀ (_ : Unit), J0 →
   (if (decide (4 < need)) = true then
    (([40] : List UInt8).length + (showL xs).length ≤ 9223372036854775807) ∧
    ((([40] : List UInt8) ++ (showL xs)).length + ([41] : List UInt8).length ≤ 9223372036854775807) ∧
    K ((([40] : List UInt8) ++ (showL xs)) ++ ([41] : List UInt8))
   else
    K (showL xs))) ∧
  J0
set_option maxRecDepth 100000 in
theorem showCls_wp (te : TypeId) (fre : Nat × Nat) (xs : CS) (need : Int) (K : (List UInt8) → Prop) (h : showCls_vc xs need K) :
  Does Tryd.prog 51 [Tr.val (.cls xs), zI need] [(1, .cells [zU 110, zU 10, zU 114, zU 13, zU 116, zU 9].toArray te fre)] [] (fun o => (∃ (v : List UInt8), K v ∧ o = .ret (st v) []) ∨ (False)) := by
 unfold showCls_vc at h
 refine does_of_wc (n := 82) (L0 := [(0, Tr.val (.cls xs)), (1, zI need)]) Tryd.func51 rfl rfl rfl rfl (fun w0 M Q hE => ?_)
 refine wc_seq (fun K0 hK => ?_)
 refine wc_region ?_
 refine wv (OV.assign rfl) ?_
 refine WL.nil ?_
 refine KX.go (hK [(0, Tr.val (.cls xs)), (1, zI need)] _ ?_) ⟨rfl, rfl, trivial⟩
 refine wc_seq (fun K0_1' hK_1' => ?_)
 refine wc_region ?_
 refine wv (OV.assign rfl) ?_
 refine wv (OV.assign rfl) ?_
 refine WL.nil ?_
 refine KX.go (hK_1' [(0, Tr.val (.cls xs)), (1, zI need), (6, zI 4)] _ ?_) ⟨rfl, rfl, rfl, trivial⟩
 obtain ⟨J0, hJ, h⟩ := h
 refine wc_seqJ (X := Unit) (fun _ => J0) (fun _ => [(1, zI need), (5, st (showL xs)), (6, zI 4)]) (fun _ => []) ?_ (fun K0_6' hK_6' => ?_)
 ·rintro _ hj
  replace h := hJ () hj
  show WC _ _ _ _ [(1, zI need), (5, st (showL xs)), (6, zI 4)] []
  refine wc_seq (fun K0_7' hK_7' => ?_)
  refine wc_seq (fun K0_8' hK_8' => ?_)
  refine wc_region ?_
  refine wv (OV.move rfl) ?_
  refine wv (OV.move rfl) ?_
  refine wv (OV.lss rfl rfl) ?_
  refine WL.nil ?_
  refine KX.go (hK_8' [(5, st (showL xs)), (77, zB (decide (4 < need)))] _ ?_) ⟨rfl, rfl, trivial⟩
  refine wc_cond (b := decide (4 < need)) rfl (fun hb => ?_) (fun hb => ?_)
  ·replace h := if_T h hb
   refine wc_seq (fun K0_9' hK_9' => ?_)
   refine wc_region ?_
   refine wv (OV.move rfl) ?_
   obtain ⟨o, h⟩ := h
   refine wv (OV.cat rfl rfl o) ?_
   obtain ⟨o_1', h⟩ := h
   refine wv (OV.cat rfl rfl o_1') ?_
   refine wv (OV.assign rfl) ?_
   refine WL.nil ?_
   refine KX.go (hK_9' [(4, st ((([40] : List UInt8) ++ (showL xs)) ++ ([41] : List UInt8)))] _ ?_) ⟨rfl, trivial⟩
   refine wc_ret ?_
   exact hE.ret [] rfl rfl (.inl ⟨_, h, rfl⟩) (ResV.of1 rfl (RV.tmp rfl))
  ·replace h := if_F h hb
   refine wc_skip ?_
   refine KX.go (hK_7' [(5, st (showL xs))] _ ?_) ⟨rfl, trivial⟩
   refine wc_seq (fun K0_10' hK_10' => ?_)
   refine wc_region ?_
   refine wv (OV.move rfl) ?_
   refine wv (OV.assign rfl) ?_
   refine WL.nil ?_
   refine KX.go (hK_10' [(4, st (showL xs))] _ ?_) ⟨rfl, trivial⟩
   refine wc_ret ?_
   exact hE.ret [] rfl rfl (.inl ⟨_, h, rfl⟩) (ResV.of1 rfl (RV.tmp rfl))
 ·skip
  refine wc_seq (fun K0_11' hK_11' => ?_)
  refine wc_region ?_
  refine wv (OV.move rfl) ?_
  refine WL.nil ?_
  refine KX.go (hK_11' [(1, zI need), (6, zI 4), (15, Tr.val (.cls xs))] _ ?_) ⟨rfl, rfl, rfl, trivial⟩
  refine wc_block ?_
  refine wc_seq (fun K0_12' hK_12' => ?_)
  refine wc_region ?_
  refine wv (OV.assertNo (t2 := 87) (v := Value.agg (wl xs).toArray) rfl tf_cc_49 tf_zv_49 rfl) ?_
  refine wv (OV.extract 1 rfl rfl) ?_
  refine wv (OV.extract 0 rfl rfl) ?_
  refine WL.nil ?_
  refine KX.go (hK_12' [(1, zI need), (6, zI 4), (15, Tr.val (.cls xs)), (17, zB false), (18, Value.agg [].toArray)] _ ?_) ⟨rfl, rfl, rfl, rfl, rfl, trivial⟩
  refine wc_condF rfl ?_
  refine wc_seq (fun K0_13' hK_13' => ?_)
  refine wc_region ?_
  refine wv (OV.assertYes (t' := 87) (v := Value.agg (wl xs).toArray) rfl tf_cc_87) ?_
  refine wv (OV.extract 1 rfl rfl) ?_
  refine wv (OV.extract 0 rfl rfl) ?_
  refine WL.nil ?_
  refine KX.go (hK_13' [(1, zI need), (6, zI 4), (15, Tr.val (.cls xs)), (20, zB true), (21, Value.agg (wl xs).toArray)] _ ?_) ⟨rfl, rfl, rfl, rfl, rfl, trivial⟩
  refine wc_condT rfl ?_
  refine wc_seq (fun K0_14' hK_14' => ?_)
  refine wc_region ?_
  refine WL.make (MV.alloc tf_zero_87) rfl rfl rfl (fun b_1' => ?_)
  refine WL.storeW (vs := wl xs) 0 rfl rfl rfl rfl rfl tf_size_87 rfl rfl rfl ?_
  refine WL.nil ?_
  refine KX.go (hK_14' [(1, zI need), (6, zI 4), (8, zP b_1')] _ ?_) ⟨rfl, rfl, rfl, trivial⟩
  refine wc_region ?_
  refine wv (OV.fieldAddr0 rfl tf_field_87_0) ?_
  refine wv (OV.loadR rfl (At.own 0 rfl) tf_row_84) ?_
  refine WL.call (A := []) tf_ent_86 rfl (Does.ofPureE te fre (show_pure xs)) rfl ⟨.inr (List.mem_of_getElem? (i := 0) rfl), trivial⟩ rfl rfl ?_
  refine wv (OV.assign rfl) ?_
  refine WL.nil ?_
  exact KX.goH (hK_6' () h) ⟨rfl, rfl, rfl, trivial⟩ [] rfl rfl

def showCat_vc (te : TypeId) (fre : Nat × Nat) (xa : Tr) (xb : Tr) (need : Int) (K : (List UInt8) → Prop) : Prop :=
 ∃ (J0 : Prop),
  (∀ (_ : Unit), J0 →
   (if (decide (2 < need)) = true then
    (([40] : List UInt8).length + ((showT xa 2) ++ (showT xb 3)).length ≤ 9223372036854775807) ∧
    ((([40] : List UInt8) ++ ((showT xa 2) ++ (showT xb 3))).length + ([41] : List UInt8).length ≤ 9223372036854775807) ∧
    K ((([40] : List UInt8) ++ ((showT xa 2) ++ (showT xb 3))) ++ ([41] : List UInt8))
   else
    K ((showT xa 2) ++ (showT xb 3)))) ∧
  (Does Tryd.prog 51 [Tr.val xa, zI 2] (escTab te fre) [] (Ret (st (showT xa 2)) [])) ∧
  (Does Tryd.prog 51 [Tr.val xb, zI 3] (escTab te fre) [] (Ret (st (showT xb 3)) [])) ∧
  ((showT xa 2).length + (showT xb 3).length ≤ 9223372036854775807) ∧
  J0
set_option maxRecDepth 100000 in
theorem showCat_wp (te : TypeId) (fre : Nat × Nat) (xa : Tr) (xb : Tr) (need : Int) (K : (List UInt8) → Prop) (h : showCat_vc te fre xa xb need K) :
  Does Tryd.prog 51 [Tr.val (.cat xa xb), zI need] [(1, .cells [zU 110, zU 10, zU 114, zU 13, zU 116, zU 9].toArray te fre)] [] (fun o => (∃ (v : List UInt8), K v ∧ o = .ret (st v) []) ∨ (False)) := by
 unfold showCat_vc at h
 refine does_of_wc (n := 82) (L0 := [(0, Tr.val (.cat xa xb)), (1, zI need)]) Tryd.func51 rfl rfl rfl rfl (fun w0 M Q hE => ?_)
 refine wc_seq (fun K0 hK => ?_)
 refine wc_region ?_
 refine wv (OV.assign rfl) ?_
 refine WL.nil ?_
 refine KX.go (hK [(0, Tr.val (.cat xa xb)), (1, zI need)] _ ?_) ⟨rfl, rfl, trivial⟩
 refine wc_seq (fun K0_1' hK_1' => ?_)
 refine wc_region ?_
 refine wv (OV.assign rfl) ?_
 refine wv (OV.assign rfl) ?_
 refine WL.nil ?_
 refine KX.go (hK_1' [(0, Tr.val (.cat xa xb)), (1, zI need), (6, zI 4)] _ ?_) ⟨rfl, rfl, rfl, trivial⟩
 obtain ⟨J0, hJ, h⟩ := h
 refine wc_seqJ (X := Unit) (fun _ => J0) (fun _ => [(1, zI need), (5, st ((showT xa 2) ++ (showT xb 3))), (6, zI 2)]) (fun _ => []) ?_ (fun K0_10' hK_10' => ?_)
 ·rintro _ hj
  replace h := hJ () hj
  show WC _ _ _ _ [(1, zI need), (5, st ((showT xa 2) ++ (showT xb 3))), (6, zI 2)] []
  refine wc_seq (fun K0_11' hK_11' => ?_)
  refine wc_seq (fun K0_12' hK_12' => ?_)
  refine wc_region ?_
  refine wv (OV.move rfl) ?_
  refine wv (OV.move rfl) ?_
  refine wv (OV.lss rfl rfl) ?_
  refine WL.nil ?_
  refine KX.go (hK_12' [(5, st ((showT xa 2) ++ (showT xb 3))), (77, zB (decide (2 < need)))] _ ?_) ⟨rfl, rfl, trivial⟩
  refine wc_cond (b := decide (2 < need)) rfl (fun hb => ?_) (fun hb => ?_)
  ·replace h := if_T h hb
   refine wc_seq (fun K0_13' hK_13' => ?_)
   refine wc_region ?_
   refine wv (OV.move rfl) ?_
   obtain ⟨o_3', h⟩ := h
   refine wv (OV.cat rfl rfl o_3') ?_
   obtain ⟨o_4', h⟩ := h
   refine wv (OV.cat rfl rfl o_4') ?_
   refine wv (OV.assign rfl) ?_
   refine WL.nil ?_
   refine KX.go (hK_13' [(4, st ((([40] : List UInt8) ++ ((showT xa 2) ++ (showT xb 3))) ++ ([41] : List UInt8)))] _ ?_) ⟨rfl, trivial⟩
   refine wc_ret ?_
   exact hE.ret [] rfl rfl (.inl ⟨_, h, rfl⟩) (ResV.of1 rfl (RV.tmp rfl))
  ·replace h := if_F h hb
   refine wc_skip ?_
   refine KX.go (hK_11' [(5, st ((showT xa 2) ++ (showT xb 3)))] _ ?_) ⟨rfl, trivial⟩
   refine wc_seq (fun K0_14' hK_14' => ?_)
   refine wc_region ?_
   refine wv (OV.move rfl) ?_
   refine wv (OV.assign rfl) ?_
   refine WL.nil ?_
   refine KX.go (hK_14' [(4, st ((showT xa 2) ++ (showT xb 3)))] _ ?_) ⟨rfl, trivial⟩
   refine wc_ret ?_
   exact hE.ret [] rfl rfl (.inl ⟨_, h, rfl⟩) (ResV.of1 rfl (RV.tmp rfl))
 ·skip
  refine wc_seq (fun K0_15' hK_15' => ?_)
  refine wc_region ?_
  refine wv (OV.move rfl) ?_
  refine WL.nil ?_
  refine KX.go (hK_15' [(1, zI need), (6, zI 4), (15, Tr.val (.cat xa xb))] _ ?_) ⟨rfl, rfl, rfl, trivial⟩
  refine wc_block ?_
  refine wc_seq (fun K0_16' hK_16' => ?_)
  refine wc_region ?_
  refine wv (OV.assertNo (t2 := 51) (v := Value.agg [Tr.val xa, Tr.val xb].toArray) rfl tf_cc_49 tf_zv_49 rfl) ?_
  refine wv (OV.extract 1 rfl rfl) ?_
  refine wv (OV.extract 0 rfl rfl) ?_
  refine WL.nil ?_
  refine KX.go (hK_16' [(1, zI need), (6, zI 4), (15, Tr.val (.cat xa xb)), (17, zB false), (18, Value.agg [].toArray)] _ ?_) ⟨rfl, rfl, rfl, rfl, rfl, trivial⟩
  refine wc_condF rfl ?_
  refine wc_seq (fun K0_17' hK_17' => ?_)
  refine wc_region ?_
  refine wv (OV.assertNo (t2 := 51) (v := Value.agg [Tr.val xa, Tr.val xb].toArray) rfl tf_cc_87 tf_zv_87 rfl) ?_
  refine wv (OV.extract 1 rfl rfl) ?_
  refine wv (OV.extract 0 rfl rfl) ?_
  refine WL.nil ?_
  refine KX.go (hK_17' [(1, zI need), (6, zI 4), (15, Tr.val (.cat xa xb)), (20, zB false), (21, Value.agg (wl cs0).toArray)] _ ?_) ⟨rfl, rfl, rfl, rfl, rfl, trivial⟩
  refine wc_condF rfl ?_
  refine wc_seq (fun K0_18' hK_18' => ?_)
  refine wc_region ?_
  refine wv (OV.assertNo (t2 := 51) (v := Value.agg [Tr.val xa, Tr.val xb].toArray) rfl tf_cc_165 tf_zv_165 rfl) ?_
  refine wv (OV.extract 1 rfl rfl) ?_
  refine wv (OV.extract 0 rfl rfl) ?_
  refine WL.nil ?_
  refine KX.go (hK_18' [(1, zI need), (6, zI 4), (15, Tr.val (.cat xa xb)), (26, zB false), (27, Value.agg [Tr.val Tr.none, Tr.val Tr.none].toArray)] _ ?_) ⟨rfl, rfl, rfl, rfl, rfl, trivial⟩
  refine wc_condF rfl ?_
  refine wc_seq (fun K0_19' hK_19' => ?_)
  refine wc_region ?_
  refine wv (OV.assertNo (t2 := 51) (v := Value.agg [Tr.val xa, Tr.val xb].toArray) rfl tf_cc_163 tf_zv_163 rfl) ?_
  refine wv (OV.extract 1 rfl rfl) ?_
  refine wv (OV.extract 0 rfl rfl) ?_
  refine WL.nil ?_
  refine KX.go (hK_19' [(1, zI need), (6, zI 4), (15, Tr.val (.cat xa xb)), (37, zB false), (38, Value.agg [Tr.val Tr.none, Tr.val Tr.none].toArray)] _ ?_) ⟨rfl, rfl, rfl, rfl, rfl, trivial⟩
  refine wc_condF rfl ?_
  refine wc_seq (fun K0_20' hK_20' => ?_)
  refine wc_region ?_
  refine wv (OV.assertNo (t2 := 51) (v := Value.agg [Tr.val xa, Tr.val xb].toArray) rfl tf_cc_164 tf_zv_164 rfl) ?_
  refine wv (OV.extract 1 rfl rfl) ?_
  refine wv (OV.extract 0 rfl rfl) ?_
  refine WL.nil ?_
  refine KX.go (hK_20' [(1, zI need), (6, zI 4), (15, Tr.val (.cat xa xb)), (48, zB false), (49, Value.agg [Tr.val Tr.none, Tr.val Tr.none].toArray)] _ ?_) ⟨rfl, rfl, rfl, rfl, rfl, trivial⟩
  refine wc_condF rfl ?_
  refine wc_seq (fun K0_21' hK_21' => ?_)
  refine wc_region ?_
  refine wv (OV.assertYes (t' := 51) (v := Value.agg [Tr.val xa, Tr.val xb].toArray) rfl tf_cc_51) ?_
  refine wv (OV.extract 1 rfl rfl) ?_
  refine wv (OV.extract 0 rfl rfl) ?_
  refine WL.nil ?_
  refine KX.go (hK_21' [(1, zI need), (6, zI 4), (15, Tr.val (.cat xa xb)), (59, zB true), (60, Value.agg [Tr.val xa, Tr.val xb].toArray)] _ ?_) ⟨rfl, rfl, rfl, rfl, rfl, trivial⟩
  refine wc_condT rfl ?_
  refine wc_seq (fun K0_22' hK_22' => ?_)
  refine wc_region ?_
  refine WL.make (MV.alloc tf_zero_51) rfl rfl rfl (fun b_1' => ?_)
  refine WL.storeW (vs := [Tr.val xa, Tr.val xb]) 0 rfl rfl rfl rfl rfl tf_size_51 rfl (one_cons (Tr.val_one _) (one_cons (Tr.val_one _) one_nil)) rfl ?_
  refine WL.nil ?_
  refine KX.go (hK_22' [(1, zI need), (12, zP b_1')] _ ?_) ⟨rfl, rfl, trivial⟩
  refine wc_draw 5 [] tf_mixed (by kernel_rfl) rfl (fun T_1' hT_1' => ?_)
  refine FL.val (fun _ => OV.fieldAddr0 rfl tf_field_51_0) rfl (fun _ => rfl) rfl rfl ?_
  refine FL.val (fun _ => OV.load rfl (At.own 0 rfl) rfl tf_scal_23) rfl (fun _ => rfl) rfl rfl ?_
  obtain ⟨o_5', h⟩ := h
  refine FL.call tf_ent_51 (fun _ => rfl) (o_5') ⟨.inr (List.mem_of_getElem? (i := 0) rfl), trivial⟩ rfl (fun _ => rfl) rfl ?_
  refine FL.val (fun _ => OV.fieldAddr0 rfl tf_field_51_1) rfl (fun _ => rfl) rfl rfl ?_
  refine FL.val (fun _ => OV.load rfl (At.own 0 rfl) rfl tf_scal_23) rfl (fun _ => rfl) rfl rfl ?_
  refine FL.weak (L' := fun γ => [(1, zI need), (63, st (showT xa 2)), (65, Tr.val xb)]) (fun γ => ⟨rfl, rfl, rfl, trivial⟩) (FL.nil (hT_1' (fun γ => [(1, zI need), (63, st (showT xa 2)), (65, Tr.val xb)]) (fun γ => ?_)))
  obtain ⟨o_6', h⟩ := h
  refine WL.call (A := []) tf_ent_51 rfl (o_6') rfl ⟨.inr (List.mem_of_getElem? (i := 0) rfl), trivial⟩ rfl rfl ?_
  obtain ⟨o_7', h⟩ := h
  refine wv (OV.cat rfl rfl o_7') ?_
  refine wv (OV.assign rfl) ?_
  refine wv (OV.assign rfl) ?_
  refine WL.nil ?_
  exact KX.goH (hK_10' () h) ⟨rfl, rfl, rfl, trivial⟩ [] rfl rfl

def showAlt_vc (te : TypeId) (fre : Nat × Nat) (xa : Tr) (xb : Tr) (need : Int) (K : (List UInt8) → Prop) : Prop :=
 ∃ (J0 : Prop),
  (∀ (_ : Unit), J0 →
   (if (decide (0 < need)) = true then
    (([40] : List UInt8).length + (((showT xa 0) ++ ([124] : List UInt8)) ++ (showT xb 1)).length ≤ 9223372036854775807) ∧
    ((([40] : List UInt8) ++ (((showT xa 0) ++ ([124] : List UInt8)) ++ (showT xb 1))).length + ([41] : List UInt8).length ≤ 9223372036854775807) ∧
    K ((([40] : List UInt8) ++ (((showT xa 0) ++ ([124] : List UInt8)) ++ (showT xb 1))) ++ ([41] : List UInt8))
   else
    K (((showT xa 0) ++ ([124] : List UInt8)) ++ (showT xb 1)))) ∧
  (Does Tryd.prog 51 [Tr.val xa, zI 0] (escTab te fre) [] (Ret (st (showT xa 0)) [])) ∧
  ((showT xa 0).length + ([124] : List UInt8).length ≤ 9223372036854775807) ∧
  (Does Tryd.prog 51 [Tr.val xb, zI 1] (escTab te fre) [] (Ret (st (showT xb 1)) [])) ∧
  (((showT xa 0) ++ ([124] : List UInt8)).length + (showT xb 1).length ≤ 9223372036854775807) ∧
  J0
set_option maxRecDepth 100000 in
theorem showAlt_wp (te : TypeId) (fre : Nat × Nat) (xa : Tr) (xb : Tr) (need : Int) (K : (List UInt8) → Prop) (h : showAlt_vc te fre xa xb need K) :
  Does Tryd.prog 51 [Tr.val (.alt xa xb), zI need] [(1, .cells [zU 110, zU 10, zU 114, zU 13, zU 116, zU 9].toArray te fre)] [] (fun o => (∃ (v : List UInt8), K v ∧ o = .ret (st v) []) ∨ (False)) := by
 unfold showAlt_vc at h
 refine does_of_wc (n := 82) (L0 := [(0, Tr.val (.alt xa xb)), (1, zI need)]) Tryd.func51 rfl rfl rfl rfl (fun w0 M Q hE => ?_)
 refine wc_seq (fun K0 hK => ?_)
 refine wc_region ?_
 refine wv (OV.assign rfl) ?_
 refine WL.nil ?_
 refine KX.go (hK [(0, Tr.val (.alt xa xb)), (1, zI need)] _ ?_) ⟨rfl, rfl, trivial⟩
 refine wc_seq (fun K0_1' hK_1' => ?_)
 refine wc_region ?_
 refine wv (OV.assign rfl) ?_
 refine wv (OV.assign rfl) ?_
 refine WL.nil ?_
 refine KX.go (hK_1' [(0, Tr.val (.alt xa xb)), (1, zI need), (6, zI 4)] _ ?_) ⟨rfl, rfl, rfl, trivial⟩
 obtain ⟨J0, hJ, h⟩ := h
 refine wc_seqJ (X := Unit) (fun _ => J0) (fun _ => [(1, zI need), (5, st (((showT xa 0) ++ ([124] : List UInt8)) ++ (showT xb 1))), (6, zI 0)]) (fun _ => []) ?_ (fun K0_7' hK_7' => ?_)
 ·rintro _ hj
  replace h := hJ () hj
  show WC _ _ _ _ [(1, zI need), (5, st (((showT xa 0) ++ ([124] : List UInt8)) ++ (showT xb 1))), (6, zI 0)] []
  refine wc_seq (fun K0_8' hK_8' => ?_)
  refine wc_seq (fun K0_9' hK_9' => ?_)
  refine wc_region ?_
  refine wv (OV.move rfl) ?_
  refine wv (OV.move rfl) ?_
  refine wv (OV.lss rfl rfl) ?_
  refine WL.nil ?_
  refine KX.go (hK_9' [(5, st (((showT xa 0) ++ ([124] : List UInt8)) ++ (showT xb 1))), (77, zB (decide (0 < need)))] _ ?_) ⟨rfl, rfl, trivial⟩
  refine wc_cond (b := decide (0 < need)) rfl (fun hb => ?_) (fun hb => ?_)
  ·replace h := if_T h hb
   refine wc_seq (fun K0_10' hK_10' => ?_)
   refine wc_region ?_
   refine wv (OV.move rfl) ?_
   obtain ⟨o_4', h⟩ := h
   refine wv (OV.cat rfl rfl o_4') ?_
   obtain ⟨o_5', h⟩ := h
   refine wv (OV.cat rfl rfl o_5') ?_
   refine wv (OV.assign rfl) ?_
   refine WL.nil ?_
   refine KX.go (hK_10' [(4, st ((([40] : List UInt8) ++ (((showT xa 0) ++ ([124] : List UInt8)) ++ (showT xb 1))) ++ ([41] : List UInt8)))] _ ?_) ⟨rfl, trivial⟩
   refine wc_ret ?_
   exact hE.ret [] rfl rfl (.inl ⟨_, h, rfl⟩) (ResV.of1 rfl (RV.tmp rfl))
  ·replace h := if_F h hb
   refine wc_skip ?_
   refine KX.go (hK_8' [(5, st (((showT xa 0) ++ ([124] : List UInt8)) ++ (showT xb 1)))] _ ?_) ⟨rfl, trivial⟩
   refine wc_seq (fun K0_11' hK_11' => ?_)
   refine wc_region ?_
   refine wv (OV.move rfl) ?_
   refine wv (OV.assign rfl) ?_
   refine WL.nil ?_
   refine KX.go (hK_11' [(4, st (((showT xa 0) ++ ([124] : List UInt8)) ++ (showT xb 1)))] _ ?_) ⟨rfl, trivial⟩
   refine wc_ret ?_
   exact hE.ret [] rfl rfl (.inl ⟨_, h, rfl⟩) (ResV.of1 rfl (RV.tmp rfl))
 ·skip
  refine wc_seq (fun K0_12' hK_12' => ?_)
  refine wc_region ?_
  refine wv (OV.move rfl) ?_
  refine WL.nil ?_
  refine KX.go (hK_12' [(1, zI need), (6, zI 4), (15, Tr.val (.alt xa xb))] _ ?_) ⟨rfl, rfl, rfl, trivial⟩
  refine wc_block ?_
  refine wc_seq (fun K0_13' hK_13' => ?_)
  refine wc_region ?_
  refine wv (OV.assertNo (t2 := 165) (v := Value.agg [Tr.val xa, Tr.val xb].toArray) rfl tf_cc_49 tf_zv_49 rfl) ?_
  refine wv (OV.extract 1 rfl rfl) ?_
  refine wv (OV.extract 0 rfl rfl) ?_
  refine WL.nil ?_
  refine KX.go (hK_13' [(1, zI need), (6, zI 4), (15, Tr.val (.alt xa xb)), (17, zB false), (18, Value.agg [].toArray)] _ ?_) ⟨rfl, rfl, rfl, rfl, rfl, trivial⟩
  refine wc_condF rfl ?_
  refine wc_seq (fun K0_14' hK_14' => ?_)
  refine wc_region ?_
  refine wv (OV.assertNo (t2 := 165) (v := Value.agg [Tr.val xa, Tr.val xb].toArray) rfl tf_cc_87 tf_zv_87 rfl) ?_
  refine wv (OV.extract 1 rfl rfl) ?_
  refine wv (OV.extract 0 rfl rfl) ?_
  refine WL.nil ?_
  refine KX.go (hK_14' [(1, zI need), (6, zI 4), (15, Tr.val (.alt xa xb)), (20, zB false), (21, Value.agg (wl cs0).toArray)] _ ?_) ⟨rfl, rfl, rfl, rfl, rfl, trivial⟩
  refine wc_condF rfl ?_
  refine wc_seq (fun K0_15' hK_15' => ?_)
  refine wc_region ?_
  refine wv (OV.assertYes (t' := 165) (v := Value.agg [Tr.val xa, Tr.val xb].toArray) rfl tf_cc_165) ?_
  refine wv (OV.extract 1 rfl rfl) ?_
  refine wv (OV.extract 0 rfl rfl) ?_
  refine WL.nil ?_
  refine KX.go (hK_15' [(1, zI need), (6, zI 4), (15, Tr.val (.alt xa xb)), (26, zB true), (27, Value.agg [Tr.val xa, Tr.val xb].toArray)] _ ?_) ⟨rfl, rfl, rfl, rfl, rfl, trivial⟩
  refine wc_condT rfl ?_
  refine wc_seq (fun K0_16' hK_16' => ?_)
  refine wc_region ?_
  refine WL.make (MV.alloc tf_zero_165) rfl rfl rfl (fun b_1' => ?_)
  refine WL.storeW (vs := [Tr.val xa, Tr.val xb]) 0 rfl rfl rfl rfl rfl tf_size_165 rfl (one_cons (Tr.val_one _) (one_cons (Tr.val_one _) one_nil)) rfl ?_
  refine WL.nil ?_
  refine KX.go (hK_16' [(1, zI need), (9, zP b_1')] _ ?_) ⟨rfl, rfl, trivial⟩
  refine wc_draw 7 [] tf_mixed (by kernel_rfl) rfl (fun T_1' hT_1' => ?_)
  refine FL.val (fun _ => OV.fieldAddr0 rfl tf_field_165_0) rfl (fun _ => rfl) rfl rfl ?_
  refine FL.val (fun _ => OV.load rfl (At.own 0 rfl) rfl tf_scal_23) rfl (fun _ => rfl) rfl rfl ?_
  obtain ⟨o_6', h⟩ := h
  refine FL.call tf_ent_51 (fun _ => rfl) (o_6') ⟨.inr (List.mem_of_getElem? (i := 0) rfl), trivial⟩ rfl (fun _ => rfl) rfl ?_
  obtain ⟨o_7', h⟩ := h
  refine FL.val (fun _ => OV.cat rfl rfl o_7') rfl (fun _ => rfl) rfl rfl ?_
  refine FL.val (fun _ => OV.fieldAddr0 rfl tf_field_165_1) rfl (fun _ => rfl) rfl rfl ?_
  refine FL.val (fun _ => OV.load rfl (At.own 0 rfl) rfl tf_scal_23) rfl (fun _ => rfl) rfl rfl ?_
  obtain ⟨o_8', h⟩ := h
  refine FL.call tf_ent_51 (fun _ => rfl) (o_8') ⟨.inr (List.mem_of_getElem? (i := 0) rfl), trivial⟩ rfl (fun _ => rfl) rfl ?_
  refine FL.weak (L' := fun γ => [(1, zI need), (31, st ((showT xa 0) ++ ([124] : List UInt8))), (34, st (showT xb 1))]) (fun γ => ⟨rfl, rfl, rfl, trivial⟩) (FL.nil (hT_1' (fun γ => [(1, zI need), (31, st ((showT xa 0) ++ ([124] : List UInt8))), (34, st (showT xb 1))]) (fun γ => ?_)))
  obtain ⟨o_9', h⟩ := h
  refine wv (OV.cat rfl rfl o_9') ?_
  refine wv (OV.assign rfl) ?_
  refine wv (OV.assign rfl) ?_
  refine WL.nil ?_
  exact KX.goH (hK_7' () h) ⟨rfl, rfl, rfl, trivial⟩ [] rfl rfl

def showStar_vc (te : TypeId) (fre : Nat × Nat) (xa : Tr) (need : Int) (K : (List UInt8) → Prop) : Prop :=
 ∃ (J0 : Prop),
  (∀ (_ : Unit), J0 →
   (if (decide (3 < need)) = true then
    (([40] : List UInt8).length + ((showT xa 3) ++ ([42] : List UInt8)).length ≤ 9223372036854775807) ∧
    ((([40] : List UInt8) ++ ((showT xa 3) ++ ([42] : List UInt8))).length + ([41] : List UInt8).length ≤ 9223372036854775807) ∧
    K ((([40] : List UInt8) ++ ((showT xa 3) ++ ([42] : List UInt8))) ++ ([41] : List UInt8))
   else
    K ((showT xa 3) ++ ([42] : List UInt8)))) ∧
  (Does Tryd.prog 51 [Tr.val xa, zI 3] (escTab te fre) [] (Ret (st (showT xa 3)) [])) ∧
  ((showT xa 3).length + ([42] : List UInt8).length ≤ 9223372036854775807) ∧
  J0
set_option maxRecDepth 100000 in
theorem showStar_wp (te : TypeId) (fre : Nat × Nat) (xa : Tr) (need : Int) (K : (List UInt8) → Prop) (h : showStar_vc te fre xa need K) :
  Does Tryd.prog 51 [Tr.val (.star xa), zI need] [(1, .cells [zU 110, zU 10, zU 114, zU 13, zU 116, zU 9].toArray te fre)] [] (fun o => (∃ (v : List UInt8), K v ∧ o = .ret (st v) []) ∨ (False)) := by
 unfold showStar_vc at h
 refine does_of_wc (n := 82) (L0 := [(0, Tr.val (.star xa)), (1, zI need)]) Tryd.func51 rfl rfl rfl rfl (fun w0 M Q hE => ?_)
 refine wc_seq (fun K0 hK => ?_)
 refine wc_region ?_
 refine wv (OV.assign rfl) ?_
 refine WL.nil ?_
 refine KX.go (hK [(0, Tr.val (.star xa)), (1, zI need)] _ ?_) ⟨rfl, rfl, trivial⟩
 refine wc_seq (fun K0_1' hK_1' => ?_)
 refine wc_region ?_
 refine wv (OV.assign rfl) ?_
 refine wv (OV.assign rfl) ?_
 refine WL.nil ?_
 refine KX.go (hK_1' [(0, Tr.val (.star xa)), (1, zI need), (6, zI 4)] _ ?_) ⟨rfl, rfl, rfl, trivial⟩
 obtain ⟨J0, hJ, h⟩ := h
 refine wc_seqJ (X := Unit) (fun _ => J0) (fun _ => [(1, zI need), (5, st ((showT xa 3) ++ ([42] : List UInt8))), (6, zI 3)]) (fun _ => []) ?_ (fun K0_11' hK_11' => ?_)
 ·rintro _ hj
  replace h := hJ () hj
  show WC _ _ _ _ [(1, zI need), (5, st ((showT xa 3) ++ ([42] : List UInt8))), (6, zI 3)] []
  refine wc_seq (fun K0_12' hK_12' => ?_)
  refine wc_seq (fun K0_13' hK_13' => ?_)
  refine wc_region ?_
  refine wv (OV.move rfl) ?_
  refine wv (OV.move rfl) ?_
  refine wv (OV.lss rfl rfl) ?_
  refine WL.nil ?_
  refine KX.go (hK_13' [(5, st ((showT xa 3) ++ ([42] : List UInt8))), (77, zB (decide (3 < need)))] _ ?_) ⟨rfl, rfl, trivial⟩
  refine wc_cond (b := decide (3 < need)) rfl (fun hb => ?_) (fun hb => ?_)
  ·replace h := if_T h hb
   refine wc_seq (fun K0_14' hK_14' => ?_)
   refine wc_region ?_
   refine wv (OV.move rfl) ?_
   obtain ⟨o_2', h⟩ := h
   refine wv (OV.cat rfl rfl o_2') ?_
   obtain ⟨o_3', h⟩ := h
   refine wv (OV.cat rfl rfl o_3') ?_
   refine wv (OV.assign rfl) ?_
   refine WL.nil ?_
   refine KX.go (hK_14' [(4, st ((([40] : List UInt8) ++ ((showT xa 3) ++ ([42] : List UInt8))) ++ ([41] : List UInt8)))] _ ?_) ⟨rfl, trivial⟩
   refine wc_ret ?_
   exact hE.ret [] rfl rfl (.inl ⟨_, h, rfl⟩) (ResV.of1 rfl (RV.tmp rfl))
  ·replace h := if_F h hb
   refine wc_skip ?_
   refine KX.go (hK_12' [(5, st ((showT xa 3) ++ ([42] : List UInt8)))] _ ?_) ⟨rfl, trivial⟩
   refine wc_seq (fun K0_15' hK_15' => ?_)
   refine wc_region ?_
   refine wv (OV.move rfl) ?_
   refine wv (OV.assign rfl) ?_
   refine WL.nil ?_
   refine KX.go (hK_15' [(4, st ((showT xa 3) ++ ([42] : List UInt8)))] _ ?_) ⟨rfl, trivial⟩
   refine wc_ret ?_
   exact hE.ret [] rfl rfl (.inl ⟨_, h, rfl⟩) (ResV.of1 rfl (RV.tmp rfl))
 ·skip
  refine wc_seq (fun K0_16' hK_16' => ?_)
  refine wc_region ?_
  refine wv (OV.move rfl) ?_
  refine WL.nil ?_
  refine KX.go (hK_16' [(1, zI need), (6, zI 4), (15, Tr.val (.star xa))] _ ?_) ⟨rfl, rfl, rfl, trivial⟩
  refine wc_block ?_
  refine wc_seq (fun K0_17' hK_17' => ?_)
  refine wc_region ?_
  refine wv (OV.assertNo (t2 := 167) (v := Value.agg [Tr.val xa].toArray) rfl tf_cc_49 tf_zv_49 rfl) ?_
  refine wv (OV.extract 1 rfl rfl) ?_
  refine wv (OV.extract 0 rfl rfl) ?_
  refine WL.nil ?_
  refine KX.go (hK_17' [(1, zI need), (6, zI 4), (15, Tr.val (.star xa)), (17, zB false), (18, Value.agg [].toArray)] _ ?_) ⟨rfl, rfl, rfl, rfl, rfl, trivial⟩
  refine wc_condF rfl ?_
  refine wc_seq (fun K0_18' hK_18' => ?_)
  refine wc_region ?_
  refine wv (OV.assertNo (t2 := 167) (v := Value.agg [Tr.val xa].toArray) rfl tf_cc_87 tf_zv_87 rfl) ?_
  refine wv (OV.extract 1 rfl rfl) ?_
  refine wv (OV.extract 0 rfl rfl) ?_
  refine WL.nil ?_
  refine KX.go (hK_18' [(1, zI need), (6, zI 4), (15, Tr.val (.star xa)), (20, zB false), (21, Value.agg (wl cs0).toArray)] _ ?_) ⟨rfl, rfl, rfl, rfl, rfl, trivial⟩
  refine wc_condF rfl ?_
  refine wc_seq (fun K0_19' hK_19' => ?_)
  refine wc_region ?_
  refine wv (OV.assertNo (t2 := 167) (v := Value.agg [Tr.val xa].toArray) rfl tf_cc_165 tf_zv_165 rfl) ?_
  refine wv (OV.extract 1 rfl rfl) ?_
  refine wv (OV.extract 0 rfl rfl) ?_
  refine WL.nil ?_
  refine KX.go (hK_19' [(1, zI need), (6, zI 4), (15, Tr.val (.star xa)), (26, zB false), (27, Value.agg [Tr.val Tr.none, Tr.val Tr.none].toArray)] _ ?_) ⟨rfl, rfl, rfl, rfl, rfl, trivial⟩
  refine wc_condF rfl ?_
  refine wc_seq (fun K0_20' hK_20' => ?_)
  refine wc_region ?_
  refine wv (OV.assertNo (t2 := 167) (v := Value.agg [Tr.val xa].toArray) rfl tf_cc_163 tf_zv_163 rfl) ?_
  refine wv (OV.extract 1 rfl rfl) ?_
  refine wv (OV.extract 0 rfl rfl) ?_
  refine WL.nil ?_
  refine KX.go (hK_20' [(1, zI need), (6, zI 4), (15, Tr.val (.star xa)), (37, zB false), (38, Value.agg [Tr.val Tr.none, Tr.val Tr.none].toArray)] _ ?_) ⟨rfl, rfl, rfl, rfl, rfl, trivial⟩
  refine wc_condF rfl ?_
  refine wc_seq (fun K0_21' hK_21' => ?_)
  refine wc_region ?_
  refine wv (OV.assertNo (t2 := 167) (v := Value.agg [Tr.val xa].toArray) rfl tf_cc_164 tf_zv_164 rfl) ?_
  refine wv (OV.extract 1 rfl rfl) ?_
  refine wv (OV.extract 0 rfl rfl) ?_
  refine WL.nil ?_
  refine KX.go (hK_21' [(1, zI need), (6, zI 4), (15, Tr.val (.star xa)), (48, zB false), (49, Value.agg [Tr.val Tr.none, Tr.val Tr.none].toArray)] _ ?_) ⟨rfl, rfl, rfl, rfl, rfl, trivial⟩
  refine wc_condF rfl ?_
  refine wc_seq (fun K0_22' hK_22' => ?_)
  refine wc_region ?_
  refine wv (OV.assertNo (t2 := 167) (v := Value.agg [Tr.val xa].toArray) rfl tf_cc_51 tf_zv_51 rfl) ?_
  refine wv (OV.extract 1 rfl rfl) ?_
  refine wv (OV.extract 0 rfl rfl) ?_
  refine WL.nil ?_
  refine KX.go (hK_22' [(1, zI need), (6, zI 4), (15, Tr.val (.star xa)), (59, zB false), (60, Value.agg [Tr.val Tr.none, Tr.val Tr.none].toArray)] _ ?_) ⟨rfl, rfl, rfl, rfl, rfl, trivial⟩
  refine wc_condF rfl ?_
  refine wc_seq (fun K0_23' hK_23' => ?_)
  refine wc_region ?_
  refine wv (OV.assertYes (t' := 167) (v := Value.agg [Tr.val xa].toArray) rfl tf_cc_167) ?_
  refine wv (OV.extract 1 rfl rfl) ?_
  refine wv (OV.extract 0 rfl rfl) ?_
  refine WL.nil ?_
  refine KX.go (hK_23' [(1, zI need), (6, zI 4), (15, Tr.val (.star xa)), (69, zB true), (70, Value.agg [Tr.val xa].toArray)] _ ?_) ⟨rfl, rfl, rfl, rfl, rfl, trivial⟩
  refine wc_condT rfl ?_
  refine wc_seq (fun K0_24' hK_24' => ?_)
  refine wc_region ?_
  refine WL.make (MV.alloc tf_zero_167) rfl rfl rfl (fun b_1' => ?_)
  refine WL.store (vs := [Tr.val xa]) (cs' := [Tr.val xa]) 0 rfl rfl rfl rfl tf_size_167 (Nat.le_of_ble_eq_true rfl) (one_cons (Tr.val_one _) one_nil) rfl rfl ?_
  refine WL.nil ?_
  refine KX.go (hK_24' [(1, zI need), (13, zP b_1')] _ ?_) ⟨rfl, rfl, trivial⟩
  refine wc_region ?_
  refine wv (OV.fieldAddr0 rfl tf_field_167_0) ?_
  refine wv (OV.load rfl (At.own 0 rfl) rfl tf_scal_23) ?_
  obtain ⟨o_4', h⟩ := h
  refine WL.call (A := []) tf_ent_51 rfl (o_4') rfl ⟨.inr (List.mem_of_getElem? (i := 0) rfl), trivial⟩ rfl rfl ?_
  obtain ⟨o_5', h⟩ := h
  refine wv (OV.cat rfl rfl o_5') ?_
  refine wv (OV.assign rfl) ?_
  refine wv (OV.assign rfl) ?_
  refine WL.nil ?_
  exact KX.goH (hK_11' () h) ⟨rfl, rfl, rfl, trivial⟩ [] rfl rfl

def showAnd_vc (te : TypeId) (fre : Nat × Nat) (xa : Tr) (xb : Tr) (need : Int) (K : (List UInt8) → Prop) : Prop :=
 ∃ (J0 : Prop),
  (∀ (_ : Unit), J0 →
   (if (decide (1 < need)) = true then
    (([40] : List UInt8).length + (((showT xa 1) ++ ([38] : List UInt8)) ++ (showT xb 2)).length ≤ 9223372036854775807) ∧
    ((([40] : List UInt8) ++ (((showT xa 1) ++ ([38] : List UInt8)) ++ (showT xb 2))).length + ([41] : List UInt8).length ≤ 9223372036854775807) ∧
    K ((([40] : List UInt8) ++ (((showT xa 1) ++ ([38] : List UInt8)) ++ (showT xb 2))) ++ ([41] : List UInt8))
   else
    K (((showT xa 1) ++ ([38] : List UInt8)) ++ (showT xb 2)))) ∧
  (Does Tryd.prog 51 [Tr.val xa, zI 1] (escTab te fre) [] (Ret (st (showT xa 1)) [])) ∧
  ((showT xa 1).length + ([38] : List UInt8).length ≤ 9223372036854775807) ∧
  (Does Tryd.prog 51 [Tr.val xb, zI 2] (escTab te fre) [] (Ret (st (showT xb 2)) [])) ∧
  (((showT xa 1) ++ ([38] : List UInt8)).length + (showT xb 2).length ≤ 9223372036854775807) ∧
  J0
set_option maxRecDepth 100000 in
theorem showAnd_wp (te : TypeId) (fre : Nat × Nat) (xa : Tr) (xb : Tr) (need : Int) (K : (List UInt8) → Prop) (h : showAnd_vc te fre xa xb need K) :
  Does Tryd.prog 51 [Tr.val (.and xa xb), zI need] [(1, .cells [zU 110, zU 10, zU 114, zU 13, zU 116, zU 9].toArray te fre)] [] (fun o => (∃ (v : List UInt8), K v ∧ o = .ret (st v) []) ∨ (False)) := by
 unfold showAnd_vc at h
 refine does_of_wc (n := 82) (L0 := [(0, Tr.val (.and xa xb)), (1, zI need)]) Tryd.func51 rfl rfl rfl rfl (fun w0 M Q hE => ?_)
 refine wc_seq (fun K0 hK => ?_)
 refine wc_region ?_
 refine wv (OV.assign rfl) ?_
 refine WL.nil ?_
 refine KX.go (hK [(0, Tr.val (.and xa xb)), (1, zI need)] _ ?_) ⟨rfl, rfl, trivial⟩
 refine wc_seq (fun K0_1' hK_1' => ?_)
 refine wc_region ?_
 refine wv (OV.assign rfl) ?_
 refine wv (OV.assign rfl) ?_
 refine WL.nil ?_
 refine KX.go (hK_1' [(0, Tr.val (.and xa xb)), (1, zI need), (6, zI 4)] _ ?_) ⟨rfl, rfl, rfl, trivial⟩
 obtain ⟨J0, hJ, h⟩ := h
 refine wc_seqJ (X := Unit) (fun _ => J0) (fun _ => [(1, zI need), (5, st (((showT xa 1) ++ ([38] : List UInt8)) ++ (showT xb 2))), (6, zI 1)]) (fun _ => []) ?_ (fun K0_8' hK_8' => ?_)
 ·rintro _ hj
  replace h := hJ () hj
  show WC _ _ _ _ [(1, zI need), (5, st (((showT xa 1) ++ ([38] : List UInt8)) ++ (showT xb 2))), (6, zI 1)] []
  refine wc_seq (fun K0_9' hK_9' => ?_)
  refine wc_seq (fun K0_10' hK_10' => ?_)
  refine wc_region ?_
  refine wv (OV.move rfl) ?_
  refine wv (OV.move rfl) ?_
  refine wv (OV.lss rfl rfl) ?_
  refine WL.nil ?_
  refine KX.go (hK_10' [(5, st (((showT xa 1) ++ ([38] : List UInt8)) ++ (showT xb 2))), (77, zB (decide (1 < need)))] _ ?_) ⟨rfl, rfl, trivial⟩
  refine wc_cond (b := decide (1 < need)) rfl (fun hb => ?_) (fun hb => ?_)
  ·replace h := if_T h hb
   refine wc_seq (fun K0_11' hK_11' => ?_)
   refine wc_region ?_
   refine wv (OV.move rfl) ?_
   obtain ⟨o_4', h⟩ := h
   refine wv (OV.cat rfl rfl o_4') ?_
   obtain ⟨o_5', h⟩ := h
   refine wv (OV.cat rfl rfl o_5') ?_
   refine wv (OV.assign rfl) ?_
   refine WL.nil ?_
   refine KX.go (hK_11' [(4, st ((([40] : List UInt8) ++ (((showT xa 1) ++ ([38] : List UInt8)) ++ (showT xb 2))) ++ ([41] : List UInt8)))] _ ?_) ⟨rfl, trivial⟩
   refine wc_ret ?_
   exact hE.ret [] rfl rfl (.inl ⟨_, h, rfl⟩) (ResV.of1 rfl (RV.tmp rfl))
  ·replace h := if_F h hb
   refine wc_skip ?_
   refine KX.go (hK_9' [(5, st (((showT xa 1) ++ ([38] : List UInt8)) ++ (showT xb 2)))] _ ?_) ⟨rfl, trivial⟩
   refine wc_seq (fun K0_12' hK_12' => ?_)
   refine wc_region ?_
   refine wv (OV.move rfl) ?_
   refine wv (OV.assign rfl) ?_
   refine WL.nil ?_
   refine KX.go (hK_12' [(4, st (((showT xa 1) ++ ([38] : List UInt8)) ++ (showT xb 2)))] _ ?_) ⟨rfl, trivial⟩
   refine wc_ret ?_
   exact hE.ret [] rfl rfl (.inl ⟨_, h, rfl⟩) (ResV.of1 rfl (RV.tmp rfl))
 ·skip
  refine wc_seq (fun K0_13' hK_13' => ?_)
  refine wc_region ?_
  refine wv (OV.move rfl) ?_
  refine WL.nil ?_
  refine KX.go (hK_13' [(1, zI need), (6, zI 4), (15, Tr.val (.and xa xb))] _ ?_) ⟨rfl, rfl, rfl, trivial⟩
  refine wc_block ?_
  refine wc_seq (fun K0_14' hK_14' => ?_)
  refine wc_region ?_
  refine wv (OV.assertNo (t2 := 163) (v := Value.agg [Tr.val xa, Tr.val xb].toArray) rfl tf_cc_49 tf_zv_49 rfl) ?_
  refine wv (OV.extract 1 rfl rfl) ?_
  refine wv (OV.extract 0 rfl rfl) ?_
  refine WL.nil ?_
  refine KX.go (hK_14' [(1, zI need), (6, zI 4), (15, Tr.val (.and xa xb)), (17, zB false), (18, Value.agg [].toArray)] _ ?_) ⟨rfl, rfl, rfl, rfl, rfl, trivial⟩
  refine wc_condF rfl ?_
  refine wc_seq (fun K0_15' hK_15' => ?_)
  refine wc_region ?_
  refine wv (OV.assertNo (t2 := 163) (v := Value.agg [Tr.val xa, Tr.val xb].toArray) rfl tf_cc_87 tf_zv_87 rfl) ?_
  refine wv (OV.extract 1 rfl rfl) ?_
  refine wv (OV.extract 0 rfl rfl) ?_
  refine WL.nil ?_
  refine KX.go (hK_15' [(1, zI need), (6, zI 4), (15, Tr.val (.and xa xb)), (20, zB false), (21, Value.agg (wl cs0).toArray)] _ ?_) ⟨rfl, rfl, rfl, rfl, rfl, trivial⟩
  refine wc_condF rfl ?_
  refine wc_seq (fun K0_16' hK_16' => ?_)
  refine wc_region ?_
  refine wv (OV.assertNo (t2 := 163) (v := Value.agg [Tr.val xa, Tr.val xb].toArray) rfl tf_cc_165 tf_zv_165 rfl) ?_
  refine wv (OV.extract 1 rfl rfl) ?_
  refine wv (OV.extract 0 rfl rfl) ?_
  refine WL.nil ?_
  refine KX.go (hK_16' [(1, zI need), (6, zI 4), (15, Tr.val (.and xa xb)), (26, zB false), (27, Value.agg [Tr.val Tr.none, Tr.val Tr.none].toArray)] _ ?_) ⟨rfl, rfl, rfl, rfl, rfl, trivial⟩
  refine wc_condF rfl ?_
  refine wc_seq (fun K0_17' hK_17' => ?_)
  refine wc_region ?_
  refine wv (OV.assertYes (t' := 163) (v := Value.agg [Tr.val xa, Tr.val xb].toArray) rfl tf_cc_163) ?_
  refine wv (OV.extract 1 rfl rfl) ?_
  refine wv (OV.extract 0 rfl rfl) ?_
  refine WL.nil ?_
  refine KX.go (hK_17' [(1, zI need), (6, zI 4), (15, Tr.val (.and xa xb)), (37, zB true), (38, Value.agg [Tr.val xa, Tr.val xb].toArray)] _ ?_) ⟨rfl, rfl, rfl, rfl, rfl, trivial⟩
  refine wc_condT rfl ?_
  refine wc_seq (fun K0_18' hK_18' => ?_)
  refine wc_region ?_
  refine WL.make (MV.alloc tf_zero_163) rfl rfl rfl (fun b_1' => ?_)
  refine WL.storeW (vs := [Tr.val xa, Tr.val xb]) 0 rfl rfl rfl rfl rfl tf_size_163 rfl (one_cons (Tr.val_one _) (one_cons (Tr.val_one _) one_nil)) rfl ?_
  refine WL.nil ?_
  refine KX.go (hK_18' [(1, zI need), (10, zP b_1')] _ ?_) ⟨rfl, rfl, trivial⟩
  refine wc_draw 7 [] tf_mixed (by kernel_rfl) rfl (fun T_1' hT_1' => ?_)
  refine FL.val (fun _ => OV.fieldAddr0 rfl tf_field_163_0) rfl (fun _ => rfl) rfl rfl ?_
  refine FL.val (fun _ => OV.load rfl (At.own 0 rfl) rfl tf_scal_23) rfl (fun _ => rfl) rfl rfl ?_
  obtain ⟨o_6', h⟩ := h
  refine FL.call tf_ent_51 (fun _ => rfl) (o_6') ⟨.inr (List.mem_of_getElem? (i := 0) rfl), trivial⟩ rfl (fun _ => rfl) rfl ?_
  obtain ⟨o_7', h⟩ := h
  refine FL.val (fun _ => OV.cat rfl rfl o_7') rfl (fun _ => rfl) rfl rfl ?_
  refine FL.val (fun _ => OV.fieldAddr0 rfl tf_field_163_1) rfl (fun _ => rfl) rfl rfl ?_
  refine FL.val (fun _ => OV.load rfl (At.own 0 rfl) rfl tf_scal_23) rfl (fun _ => rfl) rfl rfl ?_
  obtain ⟨o_8', h⟩ := h
  refine FL.call tf_ent_51 (fun _ => rfl) (o_8') ⟨.inr (List.mem_of_getElem? (i := 0) rfl), trivial⟩ rfl (fun _ => rfl) rfl ?_
  refine FL.weak (L' := fun γ => [(1, zI need), (42, st ((showT xa 1) ++ ([38] : List UInt8))), (45, st (showT xb 2))]) (fun γ => ⟨rfl, rfl, rfl, trivial⟩) (FL.nil (hT_1' (fun γ => [(1, zI need), (42, st ((showT xa 1) ++ ([38] : List UInt8))), (45, st (showT xb 2))]) (fun γ => ?_)))
  obtain ⟨o_9', h⟩ := h
  refine wv (OV.cat rfl rfl o_9') ?_
  refine wv (OV.assign rfl) ?_
  refine wv (OV.assign rfl) ?_
  refine WL.nil ?_
  exact KX.goH (hK_8' () h) ⟨rfl, rfl, rfl, trivial⟩ [] rfl rfl

def showMinus_vc (te : TypeId) (fre : Nat × Nat) (xa : Tr) (xb : Tr) (need : Int) (K : (List UInt8) → Prop) : Prop :=
 ∃ (J0 : Prop),
  (∀ (_ : Unit), J0 →
   (if (decide (1 < need)) = true then
    (([40] : List UInt8).length + (((showT xa 1) ++ ([45] : List UInt8)) ++ (showT xb 2)).length ≤ 9223372036854775807) ∧
    ((([40] : List UInt8) ++ (((showT xa 1) ++ ([45] : List UInt8)) ++ (showT xb 2))).length + ([41] : List UInt8).length ≤ 9223372036854775807) ∧
    K ((([40] : List UInt8) ++ (((showT xa 1) ++ ([45] : List UInt8)) ++ (showT xb 2))) ++ ([41] : List UInt8))
   else
    K (((showT xa 1) ++ ([45] : List UInt8)) ++ (showT xb 2)))) ∧
  (Does Tryd.prog 51 [Tr.val xa, zI 1] (escTab te fre) [] (Ret (st (showT xa 1)) [])) ∧
  ((showT xa 1).length + ([45] : List UInt8).length ≤ 9223372036854775807) ∧
  (Does Tryd.prog 51 [Tr.val xb, zI 2] (escTab te fre) [] (Ret (st (showT xb 2)) [])) ∧
  (((showT xa 1) ++ ([45] : List UInt8)).length + (showT xb 2).length ≤ 9223372036854775807) ∧
  J0
set_option maxRecDepth 100000 in
theorem showMinus_wp (te : TypeId) (fre : Nat × Nat) (xa : Tr) (xb : Tr) (need : Int) (K : (List UInt8) → Prop) (h : showMinus_vc te fre xa xb need K) :
  Does Tryd.prog 51 [Tr.val (.minus xa xb), zI need] [(1, .cells [zU 110, zU 10, zU 114, zU 13, zU 116, zU 9].toArray te fre)] [] (fun o => (∃ (v : List UInt8), K v ∧ o = .ret (st v) []) ∨ (False)) := by
 unfold showMinus_vc at h
 refine does_of_wc (n := 82) (L0 := [(0, Tr.val (.minus xa xb)), (1, zI need)]) Tryd.func51 rfl rfl rfl rfl (fun w0 M Q hE => ?_)
 refine wc_seq (fun K0 hK => ?_)
 refine wc_region ?_
 refine wv (OV.assign rfl) ?_
 refine WL.nil ?_
 refine KX.go (hK [(0, Tr.val (.minus xa xb)), (1, zI need)] _ ?_) ⟨rfl, rfl, trivial⟩
 refine wc_seq (fun K0_1' hK_1' => ?_)
 refine wc_region ?_
 refine wv (OV.assign rfl) ?_
 refine wv (OV.assign rfl) ?_
 refine WL.nil ?_
 refine KX.go (hK_1' [(0, Tr.val (.minus xa xb)), (1, zI need), (6, zI 4)] _ ?_) ⟨rfl, rfl, rfl, trivial⟩
 obtain ⟨J0, hJ, h⟩ := h
 refine wc_seqJ (X := Unit) (fun _ => J0) (fun _ => [(1, zI need), (5, st (((showT xa 1) ++ ([45] : List UInt8)) ++ (showT xb 2))), (6, zI 1)]) (fun _ => []) ?_ (fun K0_9' hK_9' => ?_)
 ·rintro _ hj
  replace h := hJ () hj
  show WC _ _ _ _ [(1, zI need), (5, st (((showT xa 1) ++ ([45] : List UInt8)) ++ (showT xb 2))), (6, zI 1)] []
  refine wc_seq (fun K0_10' hK_10' => ?_)
  refine wc_seq (fun K0_11' hK_11' => ?_)
  refine wc_region ?_
  refine wv (OV.move rfl) ?_
  refine wv (OV.move rfl) ?_
  refine wv (OV.lss rfl rfl) ?_
  refine WL.nil ?_
  refine KX.go (hK_11' [(5, st (((showT xa 1) ++ ([45] : List UInt8)) ++ (showT xb 2))), (77, zB (decide (1 < need)))] _ ?_) ⟨rfl, rfl, trivial⟩
  refine wc_cond (b := decide (1 < need)) rfl (fun hb => ?_) (fun hb => ?_)
  ·replace h := if_T h hb
   refine wc_seq (fun K0_12' hK_12' => ?_)
   refine wc_region ?_
   refine wv (OV.move rfl) ?_
   obtain ⟨o_4', h⟩ := h
   refine wv (OV.cat rfl rfl o_4') ?_
   obtain ⟨o_5', h⟩ := h
   refine wv (OV.cat rfl rfl o_5') ?_
   refine wv (OV.assign rfl) ?_
   refine WL.nil ?_
   refine KX.go (hK_12' [(4, st ((([40] : List UInt8) ++ (((showT xa 1) ++ ([45] : List UInt8)) ++ (showT xb 2))) ++ ([41] : List UInt8)))] _ ?_) ⟨rfl, trivial⟩
   refine wc_ret ?_
   exact hE.ret [] rfl rfl (.inl ⟨_, h, rfl⟩) (ResV.of1 rfl (RV.tmp rfl))
  ·replace h := if_F h hb
   refine wc_skip ?_
   refine KX.go (hK_10' [(5, st (((showT xa 1) ++ ([45] : List UInt8)) ++ (showT xb 2)))] _ ?_) ⟨rfl, trivial⟩
   refine wc_seq (fun K0_13' hK_13' => ?_)
   refine wc_region ?_
   refine wv (OV.move rfl) ?_
   refine wv (OV.assign rfl) ?_
   refine WL.nil ?_
   refine KX.go (hK_13' [(4, st (((showT xa 1) ++ ([45] : List UInt8)) ++ (showT xb 2)))] _ ?_) ⟨rfl, trivial⟩
   refine wc_ret ?_
   exact hE.ret [] rfl rfl (.inl ⟨_, h, rfl⟩) (ResV.of1 rfl (RV.tmp rfl))
 ·skip
  refine wc_seq (fun K0_14' hK_14' => ?_)
  refine wc_region ?_
  refine wv (OV.move rfl) ?_
  refine WL.nil ?_
  refine KX.go (hK_14' [(1, zI need), (6, zI 4), (15, Tr.val (.minus xa xb))] _ ?_) ⟨rfl, rfl, rfl, trivial⟩
  refine wc_block ?_
  refine wc_seq (fun K0_15' hK_15' => ?_)
  refine wc_region ?_
  refine wv (OV.assertNo (t2 := 164) (v := Value.agg [Tr.val xa, Tr.val xb].toArray) rfl tf_cc_49 tf_zv_49 rfl) ?_
  refine wv (OV.extract 1 rfl rfl) ?_
  refine wv (OV.extract 0 rfl rfl) ?_
  refine WL.nil ?_
  refine KX.go (hK_15' [(1, zI need), (6, zI 4), (15, Tr.val (.minus xa xb)), (17, zB false), (18, Value.agg [].toArray)] _ ?_) ⟨rfl, rfl, rfl, rfl, rfl, trivial⟩
  refine wc_condF rfl ?_
  refine wc_seq (fun K0_16' hK_16' => ?_)
  refine wc_region ?_
  refine wv (OV.assertNo (t2 := 164) (v := Value.agg [Tr.val xa, Tr.val xb].toArray) rfl tf_cc_87 tf_zv_87 rfl) ?_
  refine wv (OV.extract 1 rfl rfl) ?_
  refine wv (OV.extract 0 rfl rfl) ?_
  refine WL.nil ?_
  refine KX.go (hK_16' [(1, zI need), (6, zI 4), (15, Tr.val (.minus xa xb)), (20, zB false), (21, Value.agg (wl cs0).toArray)] _ ?_) ⟨rfl, rfl, rfl, rfl, rfl, trivial⟩
  refine wc_condF rfl ?_
  refine wc_seq (fun K0_17' hK_17' => ?_)
  refine wc_region ?_
  refine wv (OV.assertNo (t2 := 164) (v := Value.agg [Tr.val xa, Tr.val xb].toArray) rfl tf_cc_165 tf_zv_165 rfl) ?_
  refine wv (OV.extract 1 rfl rfl) ?_
  refine wv (OV.extract 0 rfl rfl) ?_
  refine WL.nil ?_
  refine KX.go (hK_17' [(1, zI need), (6, zI 4), (15, Tr.val (.minus xa xb)), (26, zB false), (27, Value.agg [Tr.val Tr.none, Tr.val Tr.none].toArray)] _ ?_) ⟨rfl, rfl, rfl, rfl, rfl, trivial⟩
  refine wc_condF rfl ?_
  refine wc_seq (fun K0_18' hK_18' => ?_)
  refine wc_region ?_
  refine wv (OV.assertNo (t2 := 164) (v := Value.agg [Tr.val xa, Tr.val xb].toArray) rfl tf_cc_163 tf_zv_163 rfl) ?_
  refine wv (OV.extract 1 rfl rfl) ?_
  refine wv (OV.extract 0 rfl rfl) ?_
  refine WL.nil ?_
  refine KX.go (hK_18' [(1, zI need), (6, zI 4), (15, Tr.val (.minus xa xb)), (37, zB false), (38, Value.agg [Tr.val Tr.none, Tr.val Tr.none].toArray)] _ ?_) ⟨rfl, rfl, rfl, rfl, rfl, trivial⟩
  refine wc_condF rfl ?_
  refine wc_seq (fun K0_19' hK_19' => ?_)
  refine wc_region ?_
  refine wv (OV.assertYes (t' := 164) (v := Value.agg [Tr.val xa, Tr.val xb].toArray) rfl tf_cc_164) ?_
  refine wv (OV.extract 1 rfl rfl) ?_
  refine wv (OV.extract 0 rfl rfl) ?_
  refine WL.nil ?_
  refine KX.go (hK_19' [(1, zI need), (6, zI 4), (15, Tr.val (.minus xa xb)), (48, zB true), (49, Value.agg [Tr.val xa, Tr.val xb].toArray)] _ ?_) ⟨rfl, rfl, rfl, rfl, rfl, trivial⟩
  refine wc_condT rfl ?_
  refine wc_seq (fun K0_20' hK_20' => ?_)
  refine wc_region ?_
  refine WL.make (MV.alloc tf_zero_164) rfl rfl rfl (fun b_1' => ?_)
  refine WL.storeW (vs := [Tr.val xa, Tr.val xb]) 0 rfl rfl rfl rfl rfl tf_size_164 rfl (one_cons (Tr.val_one _) (one_cons (Tr.val_one _) one_nil)) rfl ?_
  refine WL.nil ?_
  refine KX.go (hK_20' [(1, zI need), (11, zP b_1')] _ ?_) ⟨rfl, rfl, trivial⟩
  refine wc_draw 7 [] tf_mixed (by kernel_rfl) rfl (fun T_1' hT_1' => ?_)
  refine FL.val (fun _ => OV.fieldAddr0 rfl tf_field_164_0) rfl (fun _ => rfl) rfl rfl ?_
  refine FL.val (fun _ => OV.load rfl (At.own 0 rfl) rfl tf_scal_23) rfl (fun _ => rfl) rfl rfl ?_
  obtain ⟨o_6', h⟩ := h
  refine FL.call tf_ent_51 (fun _ => rfl) (o_6') ⟨.inr (List.mem_of_getElem? (i := 0) rfl), trivial⟩ rfl (fun _ => rfl) rfl ?_
  obtain ⟨o_7', h⟩ := h
  refine FL.val (fun _ => OV.cat rfl rfl o_7') rfl (fun _ => rfl) rfl rfl ?_
  refine FL.val (fun _ => OV.fieldAddr0 rfl tf_field_164_1) rfl (fun _ => rfl) rfl rfl ?_
  refine FL.val (fun _ => OV.load rfl (At.own 0 rfl) rfl tf_scal_23) rfl (fun _ => rfl) rfl rfl ?_
  obtain ⟨o_8', h⟩ := h
  refine FL.call tf_ent_51 (fun _ => rfl) (o_8') ⟨.inr (List.mem_of_getElem? (i := 0) rfl), trivial⟩ rfl (fun _ => rfl) rfl ?_
  refine FL.weak (L' := fun γ => [(1, zI need), (53, st ((showT xa 1) ++ ([45] : List UInt8))), (56, st (showT xb 2))]) (fun γ => ⟨rfl, rfl, rfl, trivial⟩) (FL.nil (hT_1' (fun γ => [(1, zI need), (53, st ((showT xa 1) ++ ([45] : List UInt8))), (56, st (showT xb 2))]) (fun γ => ?_)))
  obtain ⟨o_9', h⟩ := h
  refine wv (OV.cat rfl rfl o_9') ?_
  refine wv (OV.assign rfl) ?_
  refine wv (OV.assign rfl) ?_
  refine WL.nil ?_
  exact KX.goH (hK_9' () h) ⟨rfl, rfl, rfl, trivial⟩ [] rfl rfl

theorem same_does (a b : Tr) (h : a.high ≤ 4000) : Does Tryd.prog 26 [a.val, b.val] [] [] (Ret (.bool (decide (a.whole = b.whole))) []) :=
 Does.one (same_wp a b (fun v => v = decide (a.whole = b.whole)) ⟨whole_does a, whole_does b, ⟨Tr.whole_some a, by rw [Tr.whole_high]; exact h⟩, rfl⟩)
theorem showO_len : ∀ x : Tr, (showO x).length ≤ 4102 * x.size
 | .none | .eps => by simp [showO, Tr.size]
 | .cls s => by have := showL_len s; simp only [showO, Tr.size]; omega
 | .cat a b | .alt a b | .and a b | .minus a b => by
  have h1 := showO_len a; have h2 := showO_len b
  simp only [showO, Tr.size, List.length_append, List.length_cons, List.length_nil]
  have h3 := fun n => parT_len a n (showO a); have h4 := fun n => parT_len b n (showO b)
  have h5 := h3 0; have h6 := h3 1; have h7 := h3 2; have h8 := h4 1; have h9 := h4 2; have h10 := h4 3
  omega
 | .star a => by
  have h1 := showO_len a; have h3 := parT_len a 3 (showO a)
  simp only [showO, Tr.size, List.length_append, List.length_cons, List.length_nil]
  omega
theorem showT_len (x : Tr) (n : Int) : (showT x n).length ≤ 4104 * x.size := by
 have h1 := showO_len x; have h2 := parT_len x n (showO x); have h3 := x.size_pos
 unfold showT; omega
theorem showT_of {x : Tr} {n r : Int} (h : rankT x = r) : showT x n = if decide (r < n) = true then ([40] ++ showO x) ++ [41] else showO x := by
 unfold showT parT; rw [h]; simp
theorem show_end {x : Tr} {n r : Int} {s : List UInt8} (hr : rankT x = r) (hs : showO x = s) (hb : x.size ≤ 1099511627776) : if decide (r < n) = true then ([40] : List UInt8).length + s.length ≤ 9223372036854775807 ∧ (([40] : List UInt8) ++ s).length + ([41] : List UInt8).length ≤ 9223372036854775807 ∧ (([40] : List UInt8) ++ s) ++ ([41] : List UInt8) = showT x n else s = showT x n := by
 have hl := showO_len x
 rw [showT_of hr, ← hs]
 split
 ·simp only [List.length_append, List.length_cons, List.length_nil]
  exact ⟨by omega, by omega, trivial⟩
 ·rfl
theorem show_does (te : TypeId) (fre : Nat × Nat) : ∀ (x : Tr) (n : Int), x.size ≤ 1099511627776 → Does Tryd.prog 51 [x.val, .int .i64 n] (escTab te fre) [] (Ret (st (showT x n)) [])
 | .none, n, hb => Does.one (showNone_wp te fre n (fun v => v = showT .none n) ⟨True, fun _ _ => show_end rfl rfl hb, trivial⟩)
 | .eps, n, hb => Does.one (showEps_wp te fre n (fun v => v = showT .eps n) ⟨True, fun _ _ => show_end rfl rfl hb, trivial⟩)
 | .cls s, n, hb => Does.one (showCls_wp te fre s n (fun v => v = showT (.cls s) n) ⟨True, fun _ _ => show_end rfl rfl hb, trivial⟩)
 | .cat a b, n, hb => Does.one (showCat_wp te fre a b n (fun v => v = showT (.cat a b) n) (by
   have hb' := hb; simp only [Tr.size] at hb'
   have h1 := showT_len a 2; have h2 := showT_len b 3
   exact ⟨True, fun _ _ => show_end rfl rfl hb, show_does te fre a 2 (by omega), show_does te fre b 3 (by omega), by omega, trivial⟩))
 | .alt a b, n, hb => Does.one (showAlt_wp te fre a b n (fun v => v = showT (.alt a b) n) (by
   have hb' := hb; simp only [Tr.size] at hb'
   have h1 := showT_len a 0; have h2 := showT_len b 1
   exact ⟨True, fun _ _ => show_end rfl rfl hb, show_does te fre a 0 (by omega), by simp only [List.length_cons, List.length_nil]; omega, show_does te fre b 1 (by omega), by simp only [List.length_append, List.length_cons, List.length_nil]; omega, trivial⟩))
 | .and a b, n, hb => Does.one (showAnd_wp te fre a b n (fun v => v = showT (.and a b) n) (by
   have hb' := hb; simp only [Tr.size] at hb'
   have h1 := showT_len a 1; have h2 := showT_len b 2
   exact ⟨True, fun _ _ => show_end rfl rfl hb, show_does te fre a 1 (by omega), by simp only [List.length_cons, List.length_nil]; omega, show_does te fre b 2 (by omega), by simp only [List.length_append, List.length_cons, List.length_nil]; omega, trivial⟩))
 | .minus a b, n, hb => Does.one (showMinus_wp te fre a b n (fun v => v = showT (.minus a b) n) (by
   have hb' := hb; simp only [Tr.size] at hb'
   have h1 := showT_len a 1; have h2 := showT_len b 2
   exact ⟨True, fun _ _ => show_end rfl rfl hb, show_does te fre a 1 (by omega), by simp only [List.length_cons, List.length_nil]; omega, show_does te fre b 2 (by omega), by simp only [List.length_append, List.length_cons, List.length_nil]; omega, trivial⟩))
 | .star a, n, hb => Does.one (showStar_wp te fre a n (fun v => v = showT (.star a) n) (by
   have hb' := hb; simp only [Tr.size] at hb'
   have h1 := showT_len a 3
   exact ⟨True, fun _ _ => show_end rfl rfl hb, show_does te fre a 3 (by omega), by simp only [List.length_cons, List.length_nil]; omega, trivial⟩))

end Go.Proofs.YtohnchdnkbadaaaDoor
