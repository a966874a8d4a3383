/-
  Merged: RxW, RxS, RxN, RxLawSigns.
-/
import Derived.Test.YtohnchdnkbadaaaDoorPs5
set_option maxRecDepth 100000
namespace Go.Proofs.YtohnchdnkbadaaaDoor
open Go Go.RowKit
theorem an1 : n5 Tryd.prog 19 = true := by kernel_rfl
theorem aoi : n5 Tryd.prog 20 = true := by kernel_rfl
theorem ahs : l3 Tryd.prog 26 0 = some 0 := by kernel_rfl
theorem aih : n5 Tryd.prog 25 = true := by kernel_rfl
def aeo (s : List UInt8) (t : List UInt8) (sign : Int) (K : Bool → Prop) : Prop :=
 (((!g7 [decide ((d9 s).1 = 0), decide ((d9 s).2 = 0), decide (([] : List UInt8) = [])]) || (!g7 [decide ((d9 t).1 = 0), decide ((d9 t).2 = 0), decide (([] : List UInt8) = [])])) = false → (I64 ((s.length : Int) + (t.length : Int)))) ∧
 (if (((!g7 [decide ((d9 s).1 = 0), decide ((d9 s).2 = 0), decide (([] : List UInt8) = [])]) || (!g7 [decide ((d9 t).1 = 0), decide ((d9 t).2 = 0), decide (([] : List UInt8) = [])])) || (decide (524288 < (s.length : Int) + (t.length : Int)))) = true then
  K true
 else
  (m9 Tryd.prog (Tr.val (a8 s)) "Nullable" [] (zB ((a8 s).null))) ∧
  (((a8 s).null) = true → (m9 Tryd.prog (Tr.val (a8 t)) "Nullable" [] (zB ((a8 t).null)))) ∧
  ∃ (J0 : (List UInt8) → Bool → Prop),
   (∀ (mark : List UInt8) (null : Bool), J0 mark null →
    (([40] : List UInt8).length + s.length ≤ 9223372036854775807) ∧
    ((([40] : List UInt8) ++ s).length + ([41] : List UInt8).length ≤ 9223372036854775807) ∧
    (((([40] : List UInt8) ++ s) ++ ([41] : List UInt8)).length + mark.length ≤ 9223372036854775807) ∧
    ((((([40] : List UInt8) ++ s) ++ ([41] : List UInt8)) ++ mark).length + ([40] : List UInt8).length ≤ 9223372036854775807) ∧
    (((((([40] : List UInt8) ++ s) ++ ([41] : List UInt8)) ++ mark) ++ ([40] : List UInt8)).length + t.length ≤ 9223372036854775807) ∧
    ((((((([40] : List UInt8) ++ s) ++ ([41] : List UInt8)) ++ mark) ++ ([40] : List UInt8)) ++ t).length + ([41] : List UInt8).length ≤ 9223372036854775807) ∧
    (if (decide ((d9 ((((((([40] : List UInt8) ++ s) ++ ([41] : List UInt8)) ++ mark) ++ ([40] : List UInt8)) ++ t) ++ ([41] : List UInt8))).1 = 23)) = true then
     (((a8 ((((((([40] : List UInt8) ++ s) ++ ([41] : List UInt8)) ++ mark) ++ ([40] : List UInt8)) ++ t) ++ ([41] : List UInt8))).isNone) = true → (s.length ≤ 9223372036854775807) ∧ (t.length ≤ 9223372036854775807) ∧ (I64 ((j7 s) + (j7 t)))) ∧
     K (((a8 ((((((([40] : List UInt8) ++ s) ++ ([41] : List UInt8)) ++ mark) ++ ([40] : List UInt8)) ++ t) ++ ([41] : List UInt8))).isNone) && (decide (1000 ≤ (j7 s) + (j7 t))))
    else
     (m9 Tryd.prog (Tr.val (a8 s)) "Size" [] (zI (((a8 s).size : Nat) : Int))) ∧
     (m9 Tryd.prog (Tr.val (a8 t)) "Size" [] (zI (((a8 t).size : Nat) : Int))) ∧
     (I64 ((((a8 s).size : Nat) : Int) + (((a8 t).size : Nat) : Int))) ∧
     (if (decide (2000 ≤ (((a8 s).size : Nat) : Int) + (((a8 t).size : Nat) : Int))) = true then
      K (g7 [decide ((d9 ((((((([40] : List UInt8) ++ s) ++ ([41] : List UInt8)) ++ mark) ++ ([40] : List UInt8)) ++ t) ++ ([41] : List UInt8))).1 = 24), decide ((d9 ((((((([40] : List UInt8) ++ s) ++ ([41] : List UInt8)) ++ mark) ++ ([40] : List UInt8)) ++ t) ++ ([41] : List UInt8))).2 = 0), decide (([] : List UInt8) = [])])
     else
      ((g7 [decide ((d9 ((((((([40] : List UInt8) ++ s) ++ ([41] : List UInt8)) ++ mark) ++ ([40] : List UInt8)) ++ t) ++ ([41] : List UInt8))).1 = 0), decide ((d9 ((((((([40] : List UInt8) ++ s) ++ ([41] : List UInt8)) ++ mark) ++ ([40] : List UInt8)) ++ t) ++ ([41] : List UInt8))).2 = 0), decide (([] : List UInt8) = [])]) = true → (m9 Tryd.prog (Tr.val (a8 ((((((([40] : List UInt8) ++ s) ++ ([41] : List UInt8)) ++ mark) ++ ([40] : List UInt8)) ++ t) ++ ([41] : List UInt8)))) "Size" [] (zI (((a8 ((((((([40] : List UInt8) ++ s) ++ ([41] : List UInt8)) ++ mark) ++ ([40] : List UInt8)) ++ t) ++ ([41] : List UInt8))).size : Nat) : Int))) ∧ (m9 Tryd.prog (Tr.val (a8 s)) "Size" [] (zI (((a8 s).size : Nat) : Int))) ∧ (m9 Tryd.prog (Tr.val (a8 t)) "Size" [] (zI (((a8 t).size : Nat) : Int))) ∧ (I64 ((((a8 s).size : Nat) : Int) + (((a8 t).size : Nat) : Int))) ∧ (I64 (((((a8 s).size : Nat) : Int) + (((a8 t).size : Nat) : Int)) + 1))) ∧
      (((g7 [decide ((d9 ((((((([40] : List UInt8) ++ s) ++ ([41] : List UInt8)) ++ mark) ++ ([40] : List UInt8)) ++ t) ++ ([41] : List UInt8))).1 = 0), decide ((d9 ((((((([40] : List UInt8) ++ s) ++ ([41] : List UInt8)) ++ mark) ++ ([40] : List UInt8)) ++ t) ++ ([41] : List UInt8))).2 = 0), decide (([] : List UInt8) = [])]) && (decide ((((a8 ((((((([40] : List UInt8) ++ s) ++ ([41] : List UInt8)) ++ mark) ++ ([40] : List UInt8)) ++ t) ++ ([41] : List UInt8))).size : Nat) : Int) = ((((a8 s).size : Nat) : Int) + (((a8 t).size : Nat) : Int)) + 1))) = true → (m9 Tryd.prog (Tr.val (a8 ((((((([40] : List UInt8) ++ s) ++ ([41] : List UInt8)) ++ mark) ++ ([40] : List UInt8)) ++ t) ++ ([41] : List UInt8)))) "Nullable" [] (zB ((a8 ((((((([40] : List UInt8) ++ s) ++ ([41] : List UInt8)) ++ mark) ++ ([40] : List UInt8)) ++ t) ++ ([41] : List UInt8))).null)))) ∧
      K (((g7 [decide ((d9 ((((((([40] : List UInt8) ++ s) ++ ([41] : List UInt8)) ++ mark) ++ ([40] : List UInt8)) ++ t) ++ ([41] : List UInt8))).1 = 0), decide ((d9 ((((((([40] : List UInt8) ++ s) ++ ([41] : List UInt8)) ++ mark) ++ ([40] : List UInt8)) ++ t) ++ ([41] : List UInt8))).2 = 0), decide (([] : List UInt8) = [])]) && (decide ((((a8 ((((((([40] : List UInt8) ++ s) ++ ([41] : List UInt8)) ++ mark) ++ ([40] : List UInt8)) ++ t) ++ ([41] : List UInt8))).size : Nat) : Int) = ((((a8 s).size : Nat) : Int) + (((a8 t).size : Nat) : Int)) + 1))) && (((a8 ((((((([40] : List UInt8) ++ s) ++ ([41] : List UInt8)) ++ mark) ++ ([40] : List UInt8)) ++ t) ++ ([41] : List UInt8))).null) == null))))) ∧
   (0 ≤ sign ∧ 0 < (4 : Int)) ∧
   (if (decide (sign % 4 = 0)) = true then
    (m9 Tryd.prog (Tr.val (a8 s)) "Nullable" [] (zB ((a8 s).null))) ∧
    (((a8 s).null) = false → (m9 Tryd.prog (Tr.val (a8 t)) "Nullable" [] (zB ((a8 t).null)))) ∧
    J0 ([124] : List UInt8) (((a8 s).null) || ((a8 t).null))
   else
    (if (decide (sign % 4 = 1)) = true then
     J0 ([38] : List UInt8) (((a8 s).null) && ((a8 t).null))
    else
     (if (decide (sign % 4 = 2)) = true then
      (m9 Tryd.prog (Tr.val (a8 s)) "Nullable" [] (zB ((a8 s).null))) ∧
      (((a8 s).null) = true → (m9 Tryd.prog (Tr.val (a8 t)) "Nullable" [] (zB ((a8 t).null)))) ∧
      J0 ([45] : List UInt8) (((a8 s).null) && (!((a8 t).null)))
     else
      J0 [] (((a8 s).null) && ((a8 t).null))))))
theorem anv (te : TypeId) (fre : Nat × Nat) (s : List UInt8) (t : List UInt8) (sign : Int) (K : Bool → Prop) (h : aeo s t sign K) :
  c9 Tryd.prog 5 [st s, st t, zU sign] [(1, .cells [zU 110, zU 10, zU 114, zU 13, zU 116, zU 9].toArray te fre)] [] (fun o => (∃ (v : Bool), K v ∧ o = .ret (zB v) []) ∨ (False)) := by
 unfold aeo at h
 refine b5 (n := 125) (L0 := [(0, st s), (1, st t), (2, zU sign)]) Tryd.func5 rfl rfl rfl rfl (fun w0 M Q hE => ?_)
 refine a6 (fun _ hK => ?_)
 refine a4 ?_
 refine wa ?_
 refine WL.nil ?_
 refine kg (hK [(0, st s), (1, st t), (2, zU sign)] _ ?_)
 refine a6 (fun _ hK_1' => ?_)
 refine a6 (fun _ hK_2' => ?_)
 refine a4 ?_
 refine WL.call (A := []) an1 rfl (aj5 te fre) rfl ⟨.inr (List.mem_of_getElem? (i := 0) rfl), trivial⟩ rfl rfl ?_
 refine wv (OV.not rfl) ?_
 refine WL.nil ?_
 refine kg (hK_2' [(0, st s), (1, st t), (2, zU sign), (16, zB false)] _ ?_)
 refine g9 rfl ?_
 refine d4 ?_
 refine kg (hK_1' [(0, st s), (1, st t), (2, zU sign)] _ ?_)
 refine a6 (fun _ hK_3' => ?_)
 refine a4 ?_
 refine wm ?_
 refine WL.call (A := []) ac7 rfl (ab5 te fre s) rfl ⟨.inr (List.mem_of_getElem? (i := 0) rfl), trivial⟩ rfl rfl ?_
 refine wm ?_
 refine wv (OV.extract 0 rfl rfl) ?_
 refine wv (OV.extract 1 rfl rfl) ?_
 refine WL.make (MV.alloc u9) rfl rfl rfl (fun b => ?_)
 refine wa ?_
 refine WL.storeW (vs := [zI ((d9 s).1), zI ((d9 s).2), st []]) 0 rfl rfl rfl rfl rfl n6 rfl rfl rfl ?_
 refine WL.nil ?_
 refine kg (hK_3' [(0, st s), (1, st t), (2, zU sign), (7, Tr.val (a8 s)), (8, zP b)] _ ?_)
 refine a6 (fun _ hK_4' => ?_)
 refine a4 ?_
 refine wm ?_
 refine WL.call (A := []) ac7 rfl (ab5 te fre t) rfl ⟨.inr (List.mem_of_getElem? (i := 0) rfl), trivial⟩ rfl rfl ?_
 refine wm ?_
 refine wv (OV.extract 0 rfl rfl) ?_
 refine wv (OV.extract 1 rfl rfl) ?_
 refine WL.make (MV.alloc u9) rfl rfl rfl (fun b_1' => ?_)
 refine wa ?_
 refine WL.storeW (vs := [zI ((d9 t).1), zI ((d9 t).2), st []]) 0 rfl rfl rfl rfl rfl n6 rfl rfl rfl ?_
 refine WL.nil ?_
 refine kg (hK_4' [(0, st s), (1, st t), (2, zU sign), (7, Tr.val (a8 s)), (8, zP b), (9, Tr.val (a8 t)), (10, zP b_1')] _ ?_)
 refine a6 (fun _ hK_5' => ?_)
 refine a6 (fun _ hK_6' => ?_)
 refine a4 ?_
 refine wv (OV.loadR rfl (At.own 1 rfl) m7) ?_
 refine wv (OV.build rfl (cs := [zI 0, zI 0, st []]) rfl) ?_
 refine wv (OV.neqF (rs := [decide ((d9 s).1 = 0), decide ((d9 s).2 = 0), decide (([] : List UInt8) = [])]) rfl rfl Tryd.underlying26 x4 aaj ⟨rfl, w9, ⟨_, _, rfl, rfl, o7.int Tryd.underlying24⟩, ⟨rfl, b8, ⟨_, _, rfl, rfl, o7.int Tryd.underlying3⟩, ⟨rfl, q7, ⟨_, _, rfl, rfl, o7.str Tryd.underlying9⟩, trivial⟩⟩⟩) ?_
 refine wm ?_
 refine WL.cut 4 [(0, st s), (1, st t), (2, zU sign), (7, Tr.val (a8 s)), (9, Tr.val (a8 t)), (34, zB ((!g7 [decide ((d9 s).1 = 0), decide ((d9 s).2 = 0), decide (([] : List UInt8) = [])]) || (!g7 [decide ((d9 t).1 = 0), decide ((d9 t).2 = 0), decide (([] : List UInt8) = [])])))] ?_ (fun K0_7' hK_7' => ?_)
 rotate_left
 ·refine WL.split (!g7 [decide ((d9 s).1 = 0), decide ((d9 s).2 = 0), decide (([] : List UInt8) = [])]) (fun hb => ?_) (fun hb => ?_)
  ·refine WL.set 30 rfl (congrArg zB hb) ?_
   refine wk ?_
   refine wk ?_
   refine wk ?_
   refine wv (OV.pickT rfl rfl) ?_
   refine WL.set 34 rfl (oT (v := !g7 [decide ((d9 t).1 = 0), decide ((d9 t).2 = 0), decide (([] : List UInt8) = [])]) hb) ?_
   exact WL.end_ (kg hK_7')
  ·refine WL.set 30 rfl (congrArg zB hb) ?_
   refine wv (OV.loadR rfl (At.own 0 rfl) m7) ?_
   refine wv (OV.build rfl (cs := [zI 0, zI 0, st []]) rfl) ?_
   refine wv (OV.neqF (rs := [decide ((d9 t).1 = 0), decide ((d9 t).2 = 0), decide (([] : List UInt8) = [])]) rfl rfl Tryd.underlying26 x4 aaj ⟨rfl, w9, ⟨_, _, rfl, rfl, o7.int Tryd.underlying24⟩, ⟨rfl, b8, ⟨_, _, rfl, rfl, o7.int Tryd.underlying3⟩, ⟨rfl, q7, ⟨_, _, rfl, rfl, o7.str Tryd.underlying9⟩, trivial⟩⟩⟩) ?_
   refine wv (OV.pickF rfl rfl) ?_
   refine WL.set 34 rfl (oF (v := !g7 [decide ((d9 t).1 = 0), decide ((d9 t).2 = 0), decide (([] : List UInt8) = [])]) hb) ?_
   exact WL.end_ (kg hK_7')
 refine wm ?_
 obtain ⟨o_2', h⟩ := h
 refine WL.cut 7 [(0, st s), (1, st t), (2, zU sign), (7, Tr.val (a8 s)), (9, Tr.val (a8 t)), (42, zB (((!g7 [decide ((d9 s).1 = 0), decide ((d9 s).2 = 0), decide (([] : List UInt8) = [])]) || (!g7 [decide ((d9 t).1 = 0), decide ((d9 t).2 = 0), decide (([] : List UInt8) = [])])) || (decide (524288 < (s.length : Int) + (t.length : Int)))))] ?_ (fun K0_8' hK_8' => ?_)
 rotate_left
 ·refine WL.split ((!g7 [decide ((d9 s).1 = 0), decide ((d9 s).2 = 0), decide (([] : List UInt8) = [])]) || (!g7 [decide ((d9 t).1 = 0), decide ((d9 t).2 = 0), decide (([] : List UInt8) = [])])) (fun hb => ?_) (fun hb => ?_)
  ·refine WL.set 35 rfl (congrArg zB hb) ?_
   refine wk ?_
   refine wk ?_
   refine wk ?_
   refine wk ?_
   refine wk ?_
   refine wk ?_
   refine wv (OV.pickT rfl rfl) ?_
   refine WL.set 42 rfl (oT (v := decide (524288 < (s.length : Int) + (t.length : Int))) hb) ?_
   exact WL.end_ (kg hK_8')
  ·have o_1' := o_2' hb
   refine WL.set 35 rfl (congrArg zB hb) ?_
   refine wm ?_
   refine wv (OV.len rfl t0) ?_
   refine wm ?_
   refine wv (OV.len rfl t0) ?_
   refine wv (OV.add rfl rfl o_1') ?_
   refine wv (OV.gtr rfl rfl) ?_
   refine wv (OV.pickF rfl rfl) ?_
   refine WL.set 42 rfl (oF (v := decide (524288 < (s.length : Int) + (t.length : Int))) hb) ?_
   exact WL.end_ (kg hK_8')
 refine WL.nil ?_
 refine kg (hK_6' [(0, st s), (1, st t), (2, zU sign), (7, Tr.val (a8 s)), (9, Tr.val (a8 t)), (42, zB (((!g7 [decide ((d9 s).1 = 0), decide ((d9 s).2 = 0), decide (([] : List UInt8) = [])]) || (!g7 [decide ((d9 t).1 = 0), decide ((d9 t).2 = 0), decide (([] : List UInt8) = [])])) || (decide (524288 < (s.length : Int) + (t.length : Int)))))] _ ?_)
 refine c6 (b := ((!g7 [decide ((d9 s).1 = 0), decide ((d9 s).2 = 0), decide (([] : List UInt8) = [])]) || (!g7 [decide ((d9 t).1 = 0), decide ((d9 t).2 = 0), decide (([] : List UInt8) = [])])) || (decide (524288 < (s.length : Int) + (t.length : Int)))) rfl (fun hb => ?_) (fun hb => ?_)
 ·replace h := k9 h hb
  refine a6 (fun _ hK_9' => ?_)
  refine a4 ?_
  refine wa ?_
  refine WL.nil ?_
  refine kg (hK_9' [(6, zB true)] _ ?_)
  refine c7 ?_
  exact hE.ret [] rfl rfl (.inl ⟨_, h, rfl⟩) (e9.of1 rfl (RV.tmp rfl))
 ·replace h := l0 h hb
  refine d4 ?_
  refine kg (hK_5' [(0, st s), (1, st t), (2, zU sign), (7, Tr.val (a8 s)), (9, Tr.val (a8 t))] _ ?_)
  refine a6 (fun _ hK_10' => ?_)
  refine a4 ?_
  refine wm ?_
  obtain ⟨o_3', h⟩ := h
  refine WL.cv (CV.meth rfl o_3' rfl) rfl rfl rfl ?_
  refine wm ?_
  obtain ⟨o_5', h⟩ := h
  refine WL.cut 3 [(0, st s), (1, st t), (2, zU sign), (7, Tr.val (a8 s)), (9, Tr.val (a8 t)), (48, zB (((a8 s).null) && ((a8 t).null)))] ?_ (fun K0_11' hK_11' => ?_)
  rotate_left
  ·refine WL.split ((a8 s).null) (fun hb => ?_) (fun hb => ?_)
   ·have o_4' := o_5' hb
    refine WL.set 45 rfl (congrArg zB hb) ?_
    refine wm ?_
    refine WL.cv (CV.meth rfl o_4' rfl) rfl rfl rfl ?_
    refine wv (OV.pickT rfl rfl) ?_
    refine WL.set 48 rfl (bT (v := (a8 t).null) hb) ?_
    exact WL.end_ (kg hK_11')
   ·refine WL.set 45 rfl (congrArg zB hb) ?_
    refine wk ?_
    refine wk ?_
    refine wv (OV.pickF rfl rfl) ?_
    refine WL.set 48 rfl (bF (v := (a8 t).null) hb) ?_
    exact WL.end_ (kg hK_11')
  refine wa ?_
  refine wa ?_
  refine WL.nil ?_
  refine kg (hK_10' [(0, st s), (1, st t), (2, zU sign), (7, Tr.val (a8 s)), (9, Tr.val (a8 t)), (11, st []), (12, zB (((a8 s).null) && ((a8 t).null)))] _ ?_)
  obtain ⟨J0, hJ, h⟩ := h
  refine q9 (X := (List UInt8) × Bool) (fun σ => J0 σ.1 σ.2) (fun σ => [(0, st s), (1, st t), (7, Tr.val (a8 s)), (9, Tr.val (a8 t)), (11, st σ.1), (12, zB σ.2)]) (fun σ => []) ?_ (fun K0_18' hK_18' => ?_)
  ·rintro ⟨mark, null⟩ hj
   replace h := hJ mark null hj
   show WC _ _ _ _ [(0, st s), (1, st t), (7, Tr.val (a8 s)), (9, Tr.val (a8 t)), (11, st mark), (12, zB null)] []
   refine a6 (fun _ hK_19' => ?_)
   refine a4 ?_
   refine wm ?_
   obtain ⟨o_13', h⟩ := h
   refine wv (OV.cat rfl rfl o_13') ?_
   obtain ⟨o_14', h⟩ := h
   refine wv (OV.cat rfl rfl o_14') ?_
   refine wm ?_
   obtain ⟨o_15', h⟩ := h
   refine wv (OV.cat rfl rfl o_15') ?_
   obtain ⟨o_16', h⟩ := h
   refine wv (OV.cat rfl rfl o_16') ?_
   refine wm ?_
   obtain ⟨o_17', h⟩ := h
   refine wv (OV.cat rfl rfl o_17') ?_
   obtain ⟨o_18', h⟩ := h
   refine wv (OV.cat rfl rfl o_18') ?_
   refine WL.call (A := []) ac7 rfl (ab5 te fre ((((((([40] : List UInt8) ++ s) ++ ([41] : List UInt8)) ++ mark) ++ ([40] : List UInt8)) ++ t) ++ ([41] : List UInt8))) rfl ⟨.inr (List.mem_of_getElem? (i := 0) rfl), trivial⟩ rfl rfl ?_
   refine wm ?_
   refine wv (OV.extract 0 rfl rfl) ?_
   refine wv (OV.extract 1 rfl rfl) ?_
   refine WL.make (MV.alloc u9) rfl rfl rfl (fun b_2' => ?_)
   refine wa ?_
   refine WL.storeW (vs := [zI ((d9 ((((((([40] : List UInt8) ++ s) ++ ([41] : List UInt8)) ++ mark) ++ ([40] : List UInt8)) ++ t) ++ ([41] : List UInt8))).1), zI ((d9 ((((((([40] : List UInt8) ++ s) ++ ([41] : List UInt8)) ++ mark) ++ ([40] : List UInt8)) ++ t) ++ ([41] : List UInt8))).2), st []]) 0 rfl rfl rfl rfl rfl n6 rfl rfl rfl ?_
   refine WL.nil ?_
   refine kg (hK_19' [(0, st s), (1, st t), (7, Tr.val (a8 s)), (9, Tr.val (a8 t)), (12, zB null), (13, Tr.val (a8 ((((((([40] : List UInt8) ++ s) ++ ([41] : List UInt8)) ++ mark) ++ ([40] : List UInt8)) ++ t) ++ ([41] : List UInt8)))), (14, zP b_2')] _ ?_)
   refine a6 (fun _ hK_20' => ?_)
   refine a6 (fun _ hK_21' => ?_)
   refine a4 ?_
   refine wv (OV.fieldAddr0 rfl ahs) ?_
   refine wv (OV.load rfl (At.own 0 rfl) rfl w9) ?_
   refine wv (OV.eql rfl rfl) ?_
   refine WL.nil ?_
   refine kg (hK_21' [(0, st s), (1, st t), (7, Tr.val (a8 s)), (9, Tr.val (a8 t)), (12, zB null), (13, Tr.val (a8 ((((((([40] : List UInt8) ++ s) ++ ([41] : List UInt8)) ++ mark) ++ ([40] : List UInt8)) ++ t) ++ ([41] : List UInt8)))), (14, zP b_2'), (85, zB (decide ((d9 ((((((([40] : List UInt8) ++ s) ++ ([41] : List UInt8)) ++ mark) ++ ([40] : List UInt8)) ++ t) ++ ([41] : List UInt8))).1 = 23)))] _ ?_)
   refine c6 (b := decide ((d9 ((((((([40] : List UInt8) ++ s) ++ ([41] : List UInt8)) ++ mark) ++ ([40] : List UInt8)) ++ t) ++ ([41] : List UInt8))).1 = 23)) rfl (fun hb => ?_) (fun hb => ?_)
   ·replace h := k9 h hb
    refine a6 (fun _ hK_22' => ?_)
    refine a4 ?_
    refine wm ?_
    refine wv (OV.eqlTr rfl Tryd.underlying23) ?_
    refine wm ?_
    obtain ⟨o_22', h⟩ := h
    refine WL.cut 7 [(95, zB (((a8 ((((((([40] : List UInt8) ++ s) ++ ([41] : List UInt8)) ++ mark) ++ ([40] : List UInt8)) ++ t) ++ ([41] : List UInt8))).isNone) && (decide (1000 ≤ (j7 s) + (j7 t)))))] ?_ (fun K0_23' hK_23' => ?_)
    rotate_left
    ·refine WL.split ((a8 ((((((([40] : List UInt8) ++ s) ++ ([41] : List UInt8)) ++ mark) ++ ([40] : List UInt8)) ++ t) ++ ([41] : List UInt8))).isNone) (fun hb => ?_) (fun hb => ?_)
     ·obtain ⟨o_19', o_20', o_21'⟩ := o_22' hb
      refine WL.set 88 rfl (congrArg zB hb) ?_
      refine wm ?_
      refine WL.call (A := []) aih rfl (aff s o_19') rfl trivial rfl rfl ?_
      refine wm ?_
      refine WL.call (A := []) aih rfl (aff t o_20') rfl trivial rfl rfl ?_
      refine wv (OV.add rfl rfl o_21') ?_
      refine wv (OV.geq rfl rfl) ?_
      refine wv (OV.pickT rfl rfl) ?_
      refine WL.set 95 rfl (bT (v := decide (1000 ≤ (j7 s) + (j7 t))) hb) ?_
      exact WL.end_ (kg hK_23')
     ·refine WL.set 88 rfl (congrArg zB hb) ?_
      refine wk ?_
      refine wk ?_
      refine wk ?_
      refine wk ?_
      refine wk ?_
      refine wk ?_
      refine wv (OV.pickF rfl rfl) ?_
      refine WL.set 95 rfl (bF (v := decide (1000 ≤ (j7 s) + (j7 t))) hb) ?_
      exact WL.end_ (kg hK_23')
    refine wa ?_
    refine WL.nil ?_
    refine kg (hK_22' [(6, zB (((a8 ((((((([40] : List UInt8) ++ s) ++ ([41] : List UInt8)) ++ mark) ++ ([40] : List UInt8)) ++ t) ++ ([41] : List UInt8))).isNone) && (decide (1000 ≤ (j7 s) + (j7 t)))))] _ ?_)
    refine c7 ?_
    exact hE.ret [] rfl rfl (.inl ⟨_, h, rfl⟩) (e9.of1 rfl (RV.tmp rfl))
   ·replace h := l0 h hb
    refine d4 ?_
    refine kg (hK_20' [(7, Tr.val (a8 s)), (9, Tr.val (a8 t)), (12, zB null), (13, Tr.val (a8 ((((((([40] : List UInt8) ++ s) ++ ([41] : List UInt8)) ++ mark) ++ ([40] : List UInt8)) ++ t) ++ ([41] : List UInt8)))), (14, zP b_2')] _ ?_)
    refine a6 (fun _ hK_24' => ?_)
    refine a6 (fun _ hK_25' => ?_)
    refine a4 ?_
    refine wm ?_
    obtain ⟨o_23', h⟩ := h
    refine WL.cv (CV.meth rfl o_23' rfl) rfl rfl rfl ?_
    refine wm ?_
    obtain ⟨o_24', h⟩ := h
    refine WL.cv (CV.meth rfl o_24' rfl) rfl rfl rfl ?_
    obtain ⟨o_25', h⟩ := h
    refine wv (OV.add rfl rfl o_25') ?_
    refine wv (OV.geq rfl rfl) ?_
    refine WL.nil ?_
    refine kg (hK_25' [(7, Tr.val (a8 s)), (9, Tr.val (a8 t)), (12, zB null), (13, Tr.val (a8 ((((((([40] : List UInt8) ++ s) ++ ([41] : List UInt8)) ++ mark) ++ ([40] : List UInt8)) ++ t) ++ ([41] : List UInt8)))), (14, zP b_2'), (101, zB (decide (2000 ≤ (((a8 s).size : Nat) : Int) + (((a8 t).size : Nat) : Int))))] _ ?_)
    refine c6 (b := decide (2000 ≤ (((a8 s).size : Nat) : Int) + (((a8 t).size : Nat) : Int))) rfl (fun hb => ?_) (fun hb => ?_)
    ·replace h := k9 h hb
     refine a6 (fun _ hK_26' => ?_)
     refine o5 2 [] g8 (by kernel_rfl) rfl (fun T hT => ?_)
     refine fv (fun _ => OV.loadR rfl (At.own 0 rfl) m7) ?_
     refine FL.call aoi (fun _ => rfl) (alo 24 0) trivial rfl (fun _ => rfl) rfl ?_
     refine FL.weak (L' := fun γ => [(102, Value.agg [zI ((d9 ((((((([40] : List UInt8) ++ s) ++ ([41] : List UInt8)) ++ mark) ++ ([40] : List UInt8)) ++ t) ++ ([41] : List UInt8))).1), zI ((d9 ((((((([40] : List UInt8) ++ s) ++ ([41] : List UInt8)) ++ mark) ++ ([40] : List UInt8)) ++ t) ++ ([41] : List UInt8))).2), st []].toArray), (103, Value.agg [zI 24, zI 0, st []].toArray)]) (fun γ => ⟨rfl, rfl, trivial⟩) (FL.nil (hT (fun γ => [(102, Value.agg [zI ((d9 ((((((([40] : List UInt8) ++ s) ++ ([41] : List UInt8)) ++ mark) ++ ([40] : List UInt8)) ++ t) ++ ([41] : List UInt8))).1), zI ((d9 ((((((([40] : List UInt8) ++ s) ++ ([41] : List UInt8)) ++ mark) ++ ([40] : List UInt8)) ++ t) ++ ([41] : List UInt8))).2), st []].toArray), (103, Value.agg [zI 24, zI 0, st []].toArray)]) (fun γ => ?_)))
     refine wv (OV.eqlF (rs := [decide ((d9 ((((((([40] : List UInt8) ++ s) ++ ([41] : List UInt8)) ++ mark) ++ ([40] : List UInt8)) ++ t) ++ ([41] : List UInt8))).1 = 24), decide ((d9 ((((((([40] : List UInt8) ++ s) ++ ([41] : List UInt8)) ++ mark) ++ ([40] : List UInt8)) ++ t) ++ ([41] : List UInt8))).2 = 0), decide (([] : List UInt8) = [])]) rfl rfl Tryd.underlying26 x4 aaj ⟨rfl, w9, ⟨_, _, rfl, rfl, o7.int Tryd.underlying24⟩, ⟨rfl, b8, ⟨_, _, rfl, rfl, o7.int Tryd.underlying3⟩, ⟨rfl, q7, ⟨_, _, rfl, rfl, o7.str Tryd.underlying9⟩, trivial⟩⟩⟩) ?_
     refine wa ?_
     refine WL.nil ?_
     refine kg (hK_26' [(6, zB (g7 [decide ((d9 ((((((([40] : List UInt8) ++ s) ++ ([41] : List UInt8)) ++ mark) ++ ([40] : List UInt8)) ++ t) ++ ([41] : List UInt8))).1 = 24), decide ((d9 ((((((([40] : List UInt8) ++ s) ++ ([41] : List UInt8)) ++ mark) ++ ([40] : List UInt8)) ++ t) ++ ([41] : List UInt8))).2 = 0), decide (([] : List UInt8) = [])]))] _ ?_)
     refine c7 ?_
     exact hE.ret [] rfl rfl (.inl ⟨_, h, rfl⟩) (e9.of1 rfl (RV.tmp rfl))
    ·replace h := l0 h hb
     refine d4 ?_
     refine kg (hK_24' [(7, Tr.val (a8 s)), (9, Tr.val (a8 t)), (12, zB null), (13, Tr.val (a8 ((((((([40] : List UInt8) ++ s) ++ ([41] : List UInt8)) ++ mark) ++ ([40] : List UInt8)) ++ t) ++ ([41] : List UInt8)))), (14, zP b_2')] _ ?_)
     refine a6 (fun _ hK_27' => ?_)
     refine a4 ?_
     refine wv (OV.loadR rfl (At.own 0 rfl) m7) ?_
     refine wv (OV.build rfl (cs := [zI 0, zI 0, st []]) rfl) ?_
     refine wv (OV.eqlF (rs := [decide ((d9 ((((((([40] : List UInt8) ++ s) ++ ([41] : List UInt8)) ++ mark) ++ ([40] : List UInt8)) ++ t) ++ ([41] : List UInt8))).1 = 0), decide ((d9 ((((((([40] : List UInt8) ++ s) ++ ([41] : List UInt8)) ++ mark) ++ ([40] : List UInt8)) ++ t) ++ ([41] : List UInt8))).2 = 0), decide (([] : List UInt8) = [])]) rfl rfl Tryd.underlying26 x4 aaj ⟨rfl, w9, ⟨_, _, rfl, rfl, o7.int Tryd.underlying24⟩, ⟨rfl, b8, ⟨_, _, rfl, rfl, o7.int Tryd.underlying3⟩, ⟨rfl, q7, ⟨_, _, rfl, rfl, o7.str Tryd.underlying9⟩, trivial⟩⟩⟩) ?_
     refine wm ?_
     obtain ⟨o_31', h⟩ := h
     refine WL.cut 10 [(12, zB null), (13, Tr.val (a8 ((((((([40] : List UInt8) ++ s) ++ ([41] : List UInt8)) ++ mark) ++ ([40] : List UInt8)) ++ t) ++ ([41] : List UInt8)))), (118, zB ((g7 [decide ((d9 ((((((([40] : List UInt8) ++ s) ++ ([41] : List UInt8)) ++ mark) ++ ([40] : List UInt8)) ++ t) ++ ([41] : List UInt8))).1 = 0), decide ((d9 ((((((([40] : List UInt8) ++ s) ++ ([41] : List UInt8)) ++ mark) ++ ([40] : List UInt8)) ++ t) ++ ([41] : List UInt8))).2 = 0), decide (([] : List UInt8) = [])]) && (decide ((((a8 ((((((([40] : List UInt8) ++ s) ++ ([41] : List UInt8)) ++ mark) ++ ([40] : List UInt8)) ++ t) ++ ([41] : List UInt8))).size : Nat) : Int) = ((((a8 s).size : Nat) : Int) + (((a8 t).size : Nat) : Int)) + 1))))] ?_ (fun K0_28' hK_28' => ?_)
     rotate_left
     ·refine WL.split (g7 [decide ((d9 ((((((([40] : List UInt8) ++ s) ++ ([41] : List UInt8)) ++ mark) ++ ([40] : List UInt8)) ++ t) ++ ([41] : List UInt8))).1 = 0), decide ((d9 ((((((([40] : List UInt8) ++ s) ++ ([41] : List UInt8)) ++ mark) ++ ([40] : List UInt8)) ++ t) ++ ([41] : List UInt8))).2 = 0), decide (([] : List UInt8) = [])]) (fun hb => ?_) (fun hb => ?_)
      ·obtain ⟨o_26', o_27', o_28', o_29', o_30'⟩ := o_31' hb
       refine WL.set 108 rfl (congrArg zB hb) ?_
       refine wm ?_
       refine WL.cv (CV.meth rfl o_26' rfl) rfl rfl rfl ?_
       refine wm ?_
       refine WL.cv (CV.meth rfl o_27' rfl) rfl rfl rfl ?_
       refine wm ?_
       refine WL.cv (CV.meth rfl o_28' rfl) rfl rfl rfl ?_
       refine wv (OV.add rfl rfl o_29') ?_
       refine wv (OV.add rfl rfl o_30') ?_
       refine wv (OV.eql rfl rfl) ?_
       refine wv (OV.pickT rfl rfl) ?_
       refine WL.set 118 rfl (bT (v := decide ((((a8 ((((((([40] : List UInt8) ++ s) ++ ([41] : List UInt8)) ++ mark) ++ ([40] : List UInt8)) ++ t) ++ ([41] : List UInt8))).size : Nat) : Int) = ((((a8 s).size : Nat) : Int) + (((a8 t).size : Nat) : Int)) + 1)) hb) ?_
       exact WL.end_ (kg hK_28')
      ·refine WL.set 108 rfl (congrArg zB hb) ?_
       refine wk ?_
       refine wk ?_
       refine wk ?_
       refine wk ?_
       refine wk ?_
       refine wk ?_
       refine wk ?_
       refine wk ?_
       refine wk ?_
       refine wv (OV.pickF rfl rfl) ?_
       refine WL.set 118 rfl (bF (v := decide ((((a8 ((((((([40] : List UInt8) ++ s) ++ ([41] : List UInt8)) ++ mark) ++ ([40] : List UInt8)) ++ t) ++ ([41] : List UInt8))).size : Nat) : Int) = ((((a8 s).size : Nat) : Int) + (((a8 t).size : Nat) : Int)) + 1)) hb) ?_
       exact WL.end_ (kg hK_28')
     refine wm ?_
     obtain ⟨o_33', h⟩ := h
     refine WL.cut 5 [(124, zB (((g7 [decide ((d9 ((((((([40] : List UInt8) ++ s) ++ ([41] : List UInt8)) ++ mark) ++ ([40] : List UInt8)) ++ t) ++ ([41] : List UInt8))).1 = 0), decide ((d9 ((((((([40] : List UInt8) ++ s) ++ ([41] : List UInt8)) ++ mark) ++ ([40] : List UInt8)) ++ t) ++ ([41] : List UInt8))).2 = 0), decide (([] : List UInt8) = [])]) && (decide ((((a8 ((((((([40] : List UInt8) ++ s) ++ ([41] : List UInt8)) ++ mark) ++ ([40] : List UInt8)) ++ t) ++ ([41] : List UInt8))).size : Nat) : Int) = ((((a8 s).size : Nat) : Int) + (((a8 t).size : Nat) : Int)) + 1))) && (((a8 ((((((([40] : List UInt8) ++ s) ++ ([41] : List UInt8)) ++ mark) ++ ([40] : List UInt8)) ++ t) ++ ([41] : List UInt8))).null) == null)))] ?_ (fun K0_29' hK_29' => ?_)
     rotate_left
     ·refine WL.split ((g7 [decide ((d9 ((((((([40] : List UInt8) ++ s) ++ ([41] : List UInt8)) ++ mark) ++ ([40] : List UInt8)) ++ t) ++ ([41] : List UInt8))).1 = 0), decide ((d9 ((((((([40] : List UInt8) ++ s) ++ ([41] : List UInt8)) ++ mark) ++ ([40] : List UInt8)) ++ t) ++ ([41] : List UInt8))).2 = 0), decide (([] : List UInt8) = [])]) && (decide ((((a8 ((((((([40] : List UInt8) ++ s) ++ ([41] : List UInt8)) ++ mark) ++ ([40] : List UInt8)) ++ t) ++ ([41] : List UInt8))).size : Nat) : Int) = ((((a8 s).size : Nat) : Int) + (((a8 t).size : Nat) : Int)) + 1))) (fun hb => ?_) (fun hb => ?_)
      ·have o_32' := o_33' hb
       refine WL.set 119 rfl (congrArg zB hb) ?_
       refine wm ?_
       refine WL.cv (CV.meth rfl o_32' rfl) rfl rfl rfl ?_
       refine wm ?_
       refine wv (OV.eqlB rfl rfl Tryd.underlying4) ?_
       refine wv (OV.pickT rfl rfl) ?_
       refine WL.set 124 rfl (bT (v := ((a8 ((((((([40] : List UInt8) ++ s) ++ ([41] : List UInt8)) ++ mark) ++ ([40] : List UInt8)) ++ t) ++ ([41] : List UInt8))).null) == null) hb) ?_
       exact WL.end_ (kg hK_29')
      ·refine WL.set 119 rfl (congrArg zB hb) ?_
       refine wk ?_
       refine wk ?_
       refine wk ?_
       refine wk ?_
       refine wv (OV.pickF rfl rfl) ?_
       refine WL.set 124 rfl (bF (v := ((a8 ((((((([40] : List UInt8) ++ s) ++ ([41] : List UInt8)) ++ mark) ++ ([40] : List UInt8)) ++ t) ++ ([41] : List UInt8))).null) == null) hb) ?_
       exact WL.end_ (kg hK_29')
     refine wa ?_
     refine WL.nil ?_
     refine kg (hK_27' [(6, zB (((g7 [decide ((d9 ((((((([40] : List UInt8) ++ s) ++ ([41] : List UInt8)) ++ mark) ++ ([40] : List UInt8)) ++ t) ++ ([41] : List UInt8))).1 = 0), decide ((d9 ((((((([40] : List UInt8) ++ s) ++ ([41] : List UInt8)) ++ mark) ++ ([40] : List UInt8)) ++ t) ++ ([41] : List UInt8))).2 = 0), decide (([] : List UInt8) = [])]) && (decide ((((a8 ((((((([40] : List UInt8) ++ s) ++ ([41] : List UInt8)) ++ mark) ++ ([40] : List UInt8)) ++ t) ++ ([41] : List UInt8))).size : Nat) : Int) = ((((a8 s).size : Nat) : Int) + (((a8 t).size : Nat) : Int)) + 1))) && (((a8 ((((((([40] : List UInt8) ++ s) ++ ([41] : List UInt8)) ++ mark) ++ ([40] : List UInt8)) ++ t) ++ ([41] : List UInt8))).null) == null)))] _ ?_)
     refine c7 ?_
     exact hE.ret [] rfl rfl (.inl ⟨_, h, rfl⟩) (e9.of1 rfl (RV.tmp rfl))
  ·skip
   refine a6 (fun _ hK_30' => ?_)
   refine a4 ?_
   refine wm ?_
   obtain ⟨o_34', h⟩ := h
   refine wv (OV.rem rfl rfl o_34') ?_
   refine WL.nil ?_
   refine kg (hK_30' [(0, st s), (1, st t), (7, Tr.val (a8 s)), (9, Tr.val (a8 t)), (11, st []), (12, zB (((a8 s).null) && ((a8 t).null))), (50, zU (sign % 4))] _ ?_)
   refine f0 ?_
   refine a6 (fun _ hK_31' => ?_)
   refine a4 ?_
   refine wv (OV.eql rfl rfl) ?_
   refine wa ?_
   refine WL.nil ?_
   refine kg (hK_31' [(0, st s), (1, st t), (7, Tr.val (a8 s)), (9, Tr.val (a8 t)), (11, st []), (12, zB (((a8 s).null) && ((a8 t).null))), (50, zU (sign % 4)), (51, zB (decide (sign % 4 = 0)))] _ ?_)
   refine c6 (b := decide (sign % 4 = 0)) rfl (fun hb => ?_) (fun hb => ?_)
   ·replace h := k9 h hb
    refine a4 ?_
    refine wm ?_
    obtain ⟨o_35', h⟩ := h
    refine WL.cv (CV.meth rfl o_35' rfl) rfl rfl rfl ?_
    refine wm ?_
    obtain ⟨o_37', h⟩ := h
    refine WL.cut 3 [(0, st s), (1, st t), (7, Tr.val (a8 s)), (9, Tr.val (a8 t)), (11, st []), (12, zB (((a8 s).null) && ((a8 t).null))), (58, zB (((a8 s).null) || ((a8 t).null)))] ?_ (fun K0_32' hK_32' => ?_)
    rotate_left
    ·refine WL.split ((a8 s).null) (fun hb => ?_) (fun hb => ?_)
     ·refine WL.set 55 rfl (congrArg zB hb) ?_
      refine wk ?_
      refine wk ?_
      refine wv (OV.pickT rfl rfl) ?_
      refine WL.set 58 rfl (oT (v := (a8 t).null) hb) ?_
      exact WL.end_ (kg hK_32')
     ·have o_36' := o_37' hb
      refine WL.set 55 rfl (congrArg zB hb) ?_
      refine wm ?_
      refine WL.cv (CV.meth rfl o_36' rfl) rfl rfl rfl ?_
      refine wv (OV.pickF rfl rfl) ?_
      refine WL.set 58 rfl (oF (v := (a8 t).null) hb) ?_
      exact WL.end_ (kg hK_32')
    refine wa ?_
    refine wa ?_
    refine WL.nil ?_
    exact kh (hK_18' (([124] : List UInt8), ((a8 s).null) || ((a8 t).null)) h) []
   ·replace h := l0 h hb
    refine a6 (fun _ hK_33' => ?_)
    refine a4 ?_
    refine wv (OV.eql rfl rfl) ?_
    refine wa ?_
    refine WL.nil ?_
    refine kg (hK_33' [(0, st s), (1, st t), (7, Tr.val (a8 s)), (9, Tr.val (a8 t)), (11, st []), (12, zB (((a8 s).null) && ((a8 t).null))), (50, zU (sign % 4)), (59, zB (decide (sign % 4 = 1)))] _ ?_)
    refine c6 (b := decide (sign % 4 = 1)) rfl (fun hb => ?_) (fun hb => ?_)
    ·replace h := k9 h hb
     refine a4 ?_
     refine wa ?_
     refine WL.nil ?_
     exact kh (hK_18' (([38] : List UInt8), ((a8 s).null) && ((a8 t).null)) h) []
    ·replace h := l0 h hb
     refine a6 (fun _ hK_34' => ?_)
     refine a4 ?_
     refine wv (OV.eql rfl rfl) ?_
     refine wa ?_
     refine WL.nil ?_
     refine kg (hK_34' [(0, st s), (1, st t), (7, Tr.val (a8 s)), (9, Tr.val (a8 t)), (11, st []), (12, zB (((a8 s).null) && ((a8 t).null))), (61, zB (decide (sign % 4 = 2)))] _ ?_)
     refine c6 (b := decide (sign % 4 = 2)) rfl (fun hb => ?_) (fun hb => ?_)
     ·replace h := k9 h hb
      refine a4 ?_
      refine wm ?_
      obtain ⟨o_38', h⟩ := h
      refine WL.cv (CV.meth rfl o_38' rfl) rfl rfl rfl ?_
      refine wm ?_
      obtain ⟨o_40', h⟩ := h
      refine WL.cut 4 [(0, st s), (1, st t), (7, Tr.val (a8 s)), (9, Tr.val (a8 t)), (11, st []), (12, zB (((a8 s).null) && ((a8 t).null))), (69, zB (((a8 s).null) && (!((a8 t).null))))] ?_ (fun K0_35' hK_35' => ?_)
      rotate_left
      ·refine WL.split ((a8 s).null) (fun hb => ?_) (fun hb => ?_)
       ·have o_39' := o_40' hb
        refine WL.set 65 rfl (congrArg zB hb) ?_
        refine wm ?_
        refine WL.cv (CV.meth rfl o_39' rfl) rfl rfl rfl ?_
        refine wv (OV.not rfl) ?_
        refine wv (OV.pickT rfl rfl) ?_
        refine WL.set 69 rfl (bT (v := !((a8 t).null)) hb) ?_
        exact WL.end_ (kg hK_35')
       ·refine WL.set 65 rfl (congrArg zB hb) ?_
        refine wk ?_
        refine wk ?_
        refine wk ?_
        refine wv (OV.pickF rfl rfl) ?_
        refine WL.set 69 rfl (bF (v := !((a8 t).null)) hb) ?_
        exact WL.end_ (kg hK_35')
      refine wa ?_
      refine wa ?_
      refine WL.nil ?_
      exact kh (hK_18' (([45] : List UInt8), ((a8 s).null) && (!((a8 t).null))) h) []
     ·replace h := l0 h hb
      refine d4 ?_
      exact kh (hK_18' ([], ((a8 s).null) && ((a8 t).null)) h) []
theorem aso (t : List UInt8) : g7 [decide ((d9 t).1 = 0), decide ((d9 t).2 = 0), decide (([] : List UInt8) = [])] = decide ((d9 t).1 = 0) := by
 by_cases h : (d9 t).1 = 0
 ·obtain ⟨x, hx, _⟩ := aem h
  rw [(afw hx).1]; rfl
 ·simp [g7, h]
theorem acu {t : List UInt8} {x : Tr} (h : o4 t = .ok x) : x.isNone = false := (abo h).2.2.1 |> Tr.solid_some
end Go.Proofs.YtohnchdnkbadaaaDoor
namespace Go.Proofs.YtohnchdnkbadaaaDoor
open Go Go.RowKit
structure Emb (s T : List UInt8) (o : Int) : Prop where
 o0 : 0 ≤ o
 ch : ∀ j : Int, 0 ≤ j → j < s.length → nx T (j + o) = nx s j
 len : s.length + o < T.length
 end_ : nx T (s.length + o) = 41
section
variable {s T : List UInt8} {o : Int}
theorem Emb.at (h : Emb s T o) {j : Int} (h0 : 0 ≤ j) (h1 : j ≤ s.length) : j + o < T.length ∧ (j < s.length ∧ nx T (j + o) = nx s j ∨ ¬ j < s.length ∧ nx T (j + o) = 41) := by
 have hl := h.len
 refine ⟨by omega, ?_⟩
 by_cases hj : j < s.length
 ·exact .inl ⟨hj, h.ch j h0 hj⟩
 ·refine .inr ⟨hj, ?_⟩
  rw [show j = (s.length : Int) by omega]; exact h.end_
theorem am5 {t : List UInt8} {a : Int} (h : a < t.length) : a7 t a = nx t a := by unfold a7; rw [if_pos h]; rfl
theorem Emb.peek (h : Emb s T o) {a : Int} (h0 : 0 ≤ a) (h1 : a < s.length) : a + o < T.length ∧ a7 T (a + o) = a7 s a := by
 have hl := h.len
 refine ⟨by omega, ?_⟩
 rw [am5 h1, am5 (by omega)]; exact h.ch a h0 h1
theorem Emb.hex (h : Emb s T o) {a r q : Int} (h0 : 0 ≤ a) (hm : ad2 s a = .ok (r, q)) : ad2 T (a + o) = .ok (r, q + o) := by
 unfold ad2 at hm ⊢
 split at hm
 ·rename_i hc
  obtain ⟨p1, p2⟩ := h.peek h0 hc.1
  rw [p2, if_pos ⟨p1, hc.2⟩]
  simp only [Except.ok.injEq, Prod.mk.injEq] at hm ⊢
  omega
 ·cases hm
theorem Emb.esc (h : Emb s T o) {a r q : Int} (h0 : 0 ≤ a) (hm : afm s a = .ok (r, q)) : afm T (a + o) = .ok (r, q + o) := by
 unfold afm at hm ⊢
 split at hm
 ·rename_i hc
  obtain ⟨p1, p2⟩ := h.peek h0 hc
  rw [if_pos p1, p2]
  simp only at hm ⊢
  split at hm
  ·rename_i c; rw [if_pos c]; simp only [Except.ok.injEq, Prod.mk.injEq] at hm ⊢; omega
  rename_i c1; rw [if_neg c1]
  split at hm
  ·rename_i c; rw [if_pos c]; simp only [Except.ok.injEq, Prod.mk.injEq] at hm ⊢; omega
  rename_i c2; rw [if_neg c2]
  split at hm
  ·rename_i c; rw [if_pos c]; simp only [Except.ok.injEq, Prod.mk.injEq] at hm ⊢; omega
  rename_i c3; rw [if_neg c3]
  split at hm
  ·rename_i c; rw [if_pos c]
   split at hm
   ·rename_i hi p hp
    have e1 := h.hex (by omega) hp
    have e0 := ac6 hp
    rw [show a + o + 1 = a + 1 + o by omega, e1]
    simp only
    split at hm
    ·rename_i lo q' hq
     rw [h.hex (by omega) hq]
     simp only [Except.ok.injEq, Prod.mk.injEq] at hm ⊢; omega
    ·cases hm
   ·cases hm
  rename_i c4; rw [if_neg c4]
  split at hm
  ·cases hm
  rename_i c5; rw [if_neg c5]
  simp only [Except.ok.injEq, Prod.mk.injEq] at hm ⊢; omega
 ·cases hm
theorem Emb.one (h : Emb s T o) {a r q : Int} {bar : List UInt8} (h0 : 0 ≤ a) (hm : aca s a bar = .ok (r, q)) : aca T (a + o) bar = .ok (r, q + o) := by
 unfold aca at hm ⊢
 split at hm
 ·rename_i hc
  obtain ⟨p1, p2⟩ := h.peek h0 hc
  rw [if_pos p1, p2]
  simp only at hm ⊢
  split at hm
  ·rename_i c; rw [if_pos c, show a + o + 1 = a + 1 + o by omega]; exact h.esc (by omega) hm
  rename_i c1; rw [if_neg c1]
  split at hm
  ·cases hm
  rename_i c2; rw [if_neg c2]
  simp only [Except.ok.injEq, Prod.mk.injEq] at hm ⊢; omega
 ·cases hm
theorem Emb.mem (h : Emb s T o) : ∀ (n m : Nat), n ≤ m → ∀ {S S' : CS} {a q : Int}, 0 ≤ a → adu s n S a = .ok (S', q) → adu T m S (a + o) = .ok (S', q + o)
 | 0, _, _, _, _, _, _, _, hm => by cases hm
 | n + 1, m, hnm, S, S', a, q, h0, hm => by
  obtain ⟨m, rfl⟩ : ∃ k, m = k + 1 := ⟨m - 1, by omega⟩
  have hb := ab4 _ hm
  unfold adu at hm ⊢
  obtain ⟨p1, p2⟩ := h.peek h0 (by omega)
  rw [p2]
  split at hm
  ·rename_i c
   rw [if_pos ⟨p1, c.2⟩]
   simp only [Except.ok.injEq, Prod.mk.injEq] at hm ⊢
   exact ⟨hm.1, by omega⟩
  ·rename_i c
   rw [if_neg (fun x => c ⟨by omega, x.2⟩)]
   split at hm
   ·cases hm
   ·rename_i lo p hp
    have hpo := aba hp
    rw [h.one h0 hp]
    simp only
    split at hm
    ·rename_i c2
     obtain ⟨q1, q2⟩ := h.peek (a := p) (by omega) c2.1
     rw [q2, if_pos ⟨q1, c2.2⟩]
     split at hm
     ·cases hm
     ·rename_i hi q' hq
      have hqo := aba hq
      rw [show p + o + 1 = p + 1 + o by omega, h.one (by omega) hq]
      simp only
      split at hm
      ·cases hm
      ·rename_i c3
       rw [if_neg c3]
       exact h.mem n m (by omega) (by omega) hm
    ·rename_i c2
     have hp2 := ab4 _ hm
     obtain ⟨q1, q2⟩ := h.peek (a := p) (by omega) (by omega)
     rw [q2, if_neg (fun x => c2 ⟨by omega, x.2⟩)]
     exact h.mem n m (by omega) (by omega) hm
theorem Emb.item (h : Emb s T o) {S : CS} {a q : Int} (h0 : 0 ≤ a) (h1 : a < s.length) (hm : aao s a = .ok (S, q)) : aao T (a + o) = .ok (S, q + o) := by
 obtain ⟨p1, p2⟩ := h.peek h0 h1
 have hl := h.len
 have ho := h.o0
 unfold aao at hm ⊢
 rw [p2]
 split at hm
 ·rename_i c; rw [if_pos c]
  simp only [Except.ok.injEq, Prod.mk.injEq] at hm ⊢
  exact ⟨hm.1, by omega⟩
 rename_i c1; rw [if_neg c1]
 split at hm
 ·rename_i c; rw [if_pos c]
  unfold afq at hm ⊢
  rw [show a + o + 1 = a + 1 + o by omega]
  split at hm
  ·rename_i c3
   obtain ⟨q1, q2⟩ := h.peek (a := a + 1) (by omega) c3.1
   rw [q2, if_pos ⟨q1, c3.2⟩]
   split at hm
   ·rename_i S2 q' hf
    rw [show a + 1 + o + 1 = a + 1 + 1 + o by omega, h.mem _ (T.length + 1) (by omega) (by omega) hf]
    simp only [Except.ok.injEq, Prod.mk.injEq] at hm ⊢
    exact ⟨hm.1, by omega⟩
   ·cases hm
  ·rename_i c3
   have hb := ab4 _ hm
   obtain ⟨q1, q2⟩ := h.peek (a := a + 1) (by omega) (by omega)
   rw [q2, if_neg (fun x => c3 ⟨by omega, x.2⟩)]
   exact h.mem _ _ (by omega) (by omega) hm
 rename_i c2; rw [if_neg c2]
 split at hm
 ·rename_i b q' hb
  rw [h.one h0 hb]
  simp only [Except.ok.injEq, Prod.mk.injEq] at hm ⊢
  exact ⟨hm.1, by omega⟩
 ·cases hm
theorem Emb.read (h : Emb s T o) {S : CS} {j k : Int} (h0 : 0 ≤ j) (h1 : j < s.length) (hm : k5 s j = (S, k, 0, 0)) : k5 T (j + o) = (S, k + o, 0, 0) := by
 have hl := h.len
 have ho := h.o0
 unfold k5 at hm ⊢
 rw [if_neg (by omega)] at hm ⊢
 split at hm
 ·rename_i S2 q hi
  rw [h.item h0 h1 hi]
  simp only [Prod.mk.injEq, and_true] at hm ⊢
  exact ⟨hm.1, by omega⟩
 ·simp at hm
theorem Emb.num (h : Emb s T o) : ∀ (f : Nat) {n j m k : Int}, aco s f n j = (m, k) → 0 ≤ j → k < s.length → aco T f n (j + o) = (m, k + o)
 | 0, n, j, m, k, hm, h0, hk => by
  simp only [aco, Prod.mk.injEq] at hm ⊢; omega
 | f + 1, n, j, m, k, hm, h0, hk => by
  unfold aco at hm ⊢
  split at hm
  ·rename_i c
   obtain ⟨q1, q2⟩ := h.at h0 (by omega)
   rcases q2 with ⟨_, q2⟩ | ⟨q3, _⟩
   ·rw [q2, if_pos ⟨q1, c.2⟩, show j + o + 1 = j + 1 + o by omega]
    exact h.num f hm (by omega) hk
   ·omega
  ·rename_i c
   simp only [Prod.mk.injEq] at hm
   obtain ⟨q1, q2⟩ := h.at h0 (by omega)
   rcases q2 with ⟨q3, q2⟩ | ⟨q3, _⟩
   ·rw [q2, if_neg (fun x => c ⟨q3, x.2⟩)]
    simp only [Prod.mk.injEq]; omega
   ·omega
theorem Emb.numM (h : Emb s T o) {j m k : Int} (hm : numM s j = .ok (m, k)) (h0 : 0 ≤ j) (hk : k < s.length) : numM T (j + o) = .ok (m, k + o) := by
 unfold Go.Proofs.YtohnchdnkbadaaaDoor.numM at hm ⊢
 split at hm
 ·cases hm
 ·rename_i hne
  have h2 : aco s 3 0 j = (m, k) := by injection hm
  have h3 := h.num 3 h2 h0 hk
  rw [h2] at hne
  rw [h3, if_neg (by simp only at hne ⊢; omega)]
theorem Emb.com (h : Emb s T o) {m j n k : Int} (hm : ace s m j = .ok (n, k)) (h0 : 0 ≤ j) (hj : j ≤ s.length) (hk : k < s.length) : ace T m (j + o) = .ok (n, k + o) := by
 unfold ace at hm ⊢
 split at hm
 ·rename_i c
  obtain ⟨q1, q2⟩ := h.at h0 hj
  rcases q2 with ⟨_, q2⟩ | ⟨q3, _⟩
  ·rw [q2, if_pos ⟨q1, c.2⟩, show j + o + 1 = j + 1 + o by omega]
   split at hm
   ·rename_i c2
    obtain ⟨r1, r2⟩ := h.at (j := j + 1) (by omega) (by omega)
    rcases r2 with ⟨_, r2⟩ | ⟨r3, _⟩
    ·rw [r2, if_pos ⟨r1, c2.2⟩]
     simp only [Except.ok.injEq, Prod.mk.injEq] at hm ⊢; omega
    ·omega
   ·rename_i c2
    have hb := ab0 hm (by omega) (by omega)
    obtain ⟨r1, r2⟩ := h.at (j := j + 1) (by omega) (by omega)
    rcases r2 with ⟨r3, r2⟩ | ⟨r3, _⟩
    ·rw [r2, if_neg (fun x => c2 ⟨r3, x.2⟩)]
     exact h.numM hm (by omega) hk
    ·omega
  ·omega
 ·rename_i c
  simp only [Except.ok.injEq, Prod.mk.injEq] at hm
  obtain ⟨q1, q2⟩ := h.at h0 hj
  rcases q2 with ⟨q3, q2⟩ | ⟨q3, _⟩
  ·rw [q2, if_neg (fun x => c ⟨q3, x.2⟩)]
   simp only [Except.ok.injEq, Prod.mk.injEq]; omega
  ·omega
theorem Emb.braces (h : Emb s T o) {x y : Tr} {j k : Int} (hm : p8 s x j = .ok (y, k)) (h0 : 0 ≤ j) (hj : j < s.length) : p8 T x (j + o) = .ok (y, k + o) := by
 unfold p8 at hm ⊢
 split at hm
 ·cases hm
 ·rename_i m p hp
  have h1 := ab0 hp (by omega) (by omega)
  split at hm
  ·cases hm
  ·rename_i n q hq
   have h2 : p ≤ q ∧ q ≤ s.length := by
    unfold ace at hq
    split at hq
    ·split at hq
     ·simp only [Except.ok.injEq, Prod.mk.injEq] at hq; omega
     ·have := ab0 hq (by omega) (by omega); omega
    ·simp only [Except.ok.injEq, Prod.mk.injEq] at hq; omega
   split at hm
   ·rename_i c
    obtain ⟨q1, q2⟩ := h.at (j := q) (by omega) (by omega)
    rcases q2 with ⟨q3, q2⟩ | ⟨q3, _⟩
    ·rw [show j + o + 1 = j + 1 + o by omega, h.numM hp (by omega) (by omega)]
     simp only
     rw [h.com hq (by omega) (by omega) (by omega)]
     simp only
     rw [q2, if_pos ⟨q1, c.2⟩]
     split at hm
     ·cases hm
     ·rename_i c2
      rw [if_neg c2]
      simp only [Except.ok.injEq, Prod.mk.injEq] at hm ⊢
      exact ⟨hm.1, by omega⟩
    ·omega
   ·cases hm
theorem RP.emb (h : Emb s T o) {x : Tr} {j : Int} {r : aab} (hr : RP s x j r) : 0 ≤ j → j ≤ s.length → ∀ y k, r = .ok (y, k) → RP T x (j + o) (.ok (y, k + o)) := by
 induction hr with
 | zero n =>
  intro h0 h1 y k e
  cases e
  refine .zero ?_
  rcases (h.at h0 h1).2 with ⟨a, b⟩ | ⟨a, b⟩ <;> omega
 | @one x j r hl hc _ ih =>
  intro h0 h1 y k e
  have hb := h.ch j h0 hl
  have hlen := h.len
  refine .one (by omega) (by omega) ?_
  rw [hb, show j + o + 1 = j + 1 + o by omega]
  exact ih (by omega) (by omega) y k e
 | @brace x j y' k' r hl hc hm _ ih =>
  intro h0 h1 y k e
  have hb := h.ch j h0 hl
  have hlen := h.len
  have hk := ads hm h0 hl
  exact .brace (by omega) (by omega) (h.braces hm h0 hl) (ih (by omega) (by omega) y k e)
 | braceE => intro _ _ y k e; cases e
def aea (s : List UInt8) (i : Int) : Nat := (s.take i.toNat).countP (· = 40)
theorem v4 {i j : Int} (h : i ≤ j) : aea s i ≤ aea s j := by
 unfold aea
 obtain ⟨k, hk⟩ : ∃ k, j.toNat = i.toNat + k := ⟨j.toNat - i.toNat, by omega⟩
 rw [hk, List.take_add, List.countP_append]; omega
theorem ani (i : Int) : (aea s i : Int) ≤ j7 s := by
 unfold aea j7
 have := List.countP_append (p := fun x : UInt8 => decide (x = 40)) (l₁ := s.take i.toNat) (l₂ := s.drop i.toNat)
 rw [List.take_append_drop] at this
 omega
theorem alc {j : Int} (h0 : 0 ≤ j) (h1 : j < s.length) (hc : nx s j = 40) : aea s (j + 1) = aea s j + 1 := by
 unfold aea
 have hlt : j.toNat < s.length := by omega
 have hg : s[j.toNat] = 40 := by
  unfold nx at hc
  rw [List.getD_eq_getElem?_getD, List.getElem?_eq_getElem hlt] at hc
  exact UInt8.toNat_inj.1 (by simpa using (Int.ofNat.inj hc))
 rw [show (j + 1).toNat = j.toNat + 1 by omega, List.take_add_one, List.getElem?_eq_getElem hlt, List.countP_append]
 simp [hg]
def ar3 (s T : List UInt8) (o : Int) (m : Md) (d : Nat) (i : Int) (x : Tr) (k : Int) : Prop := PR T m (d + 1) (i + o) (.ok (x, k + o)) ∨ (∃ p, PR T m (d + 1) (i + o) (.error (23, p))) ∧ 1000 ≤ j7 s
theorem PR.emb (h : Emb s T o) {m : Md} {d : Nat} {i : Int} {r : aab} (hr : PR s m d i r) : 0 ≤ i → i ≤ s.length → d ≤ aea s i → ∀ x k, r = .ok (x, k) → ar3 s T o m d i x k := by
 have hlen := h.len
 induction hr with
 | @alt d i x' j r h1 _ ih1 ih2 =>
  intro h0 hl hd x k e
  have hb := h1.ends h0 hl _ _ rfl
  rcases ih1 h0 hl hd _ _ rfl with a | ⟨⟨p, a⟩, hp⟩
  ·rcases ih2 (by omega) (by omega) (Nat.le_trans hd (v4 hb.1)) x k e with b | ⟨⟨p, b⟩, hp⟩
   ·exact .inl (.alt a b)
   ·exact .inr ⟨⟨p, .alt a b⟩, hp⟩
  ·exact .inr ⟨⟨p, .altE a⟩, hp⟩
 | @altL d x' j y k' r hj hc h1 _ ih1 ih2 =>
  intro h0 hl hd x k e
  have hb := h1.ends (by omega) (by omega) _ _ rfl
  have hch := h.ch j h0 hj
  have ej : j + o + 1 = j + 1 + o := by omega
  rcases ih1 (by omega) (by omega) (Nat.le_trans hd (v4 (by omega))) _ _ rfl with a | ⟨⟨p, a⟩, hp⟩
  ·rcases ih2 (by omega) (by omega) (Nat.le_trans hd (v4 (by omega))) x k e with b | ⟨⟨p, b⟩, hp⟩
   ·exact .inl (.altL (by omega) (by omega) (by rw [ej]; exact a) b)
   ·exact .inr ⟨⟨p, .altL (by omega) (by omega) (by rw [ej]; exact a) b⟩, hp⟩
  ·exact .inr ⟨⟨p, .altLE (by omega) (by omega) (by rw [ej]; exact a)⟩, hp⟩
 | altZ n =>
  intro h0 hl hd x k e
  cases e
  exact .inl (.altZ (by rcases (h.at h0 hl).2 with ⟨a, b⟩ | ⟨a, b⟩ <;> omega))
 | @«meet» d i x' j r h1 _ ih1 ih2 =>
  intro h0 hl hd x k e
  have hb := h1.ends h0 hl _ _ rfl
  rcases ih1 h0 hl hd _ _ rfl with a | ⟨⟨p, a⟩, hp⟩
  ·rcases ih2 (by omega) (by omega) (Nat.le_trans hd (v4 hb.1)) x k e with b | ⟨⟨p, b⟩, hp⟩
   ·exact .inl (.meet a b)
   ·exact .inr ⟨⟨p, .meet a b⟩, hp⟩
  ·exact .inr ⟨⟨p, .meetE a⟩, hp⟩
 | @meetL d x' j y k' r hj hc h1 _ ih1 ih2 =>
  intro h0 hl hd x k e
  have hb := h1.ends (by omega) (by omega) _ _ rfl
  have hch := h.ch j h0 hj
  have ej : j + o + 1 = j + 1 + o := by omega
  rcases ih1 (by omega) (by omega) (Nat.le_trans hd (v4 (by omega))) _ _ rfl with a | ⟨⟨p, a⟩, hp⟩
  ·rcases ih2 (by omega) (by omega) (Nat.le_trans hd (v4 (by omega))) x k e with b | ⟨⟨p, b⟩, hp⟩
   ·exact .inl (.meetL (by omega) (by omega) (by rw [ej]; exact a) (by rw [hch]; exact b))
   ·exact .inr ⟨⟨p, .meetL (by omega) (by omega) (by rw [ej]; exact a) (by rw [hch]; exact b)⟩, hp⟩
  ·exact .inr ⟨⟨p, .meetLE (by omega) (by omega) (by rw [ej]; exact a)⟩, hp⟩
 | meetZ n =>
  intro h0 hl hd x k e
  cases e
  exact .inl (.meetZ (by rcases (h.at h0 hl).2 with ⟨a, b⟩ | ⟨a, b⟩ <;> omega))
 | rowZ n =>
  intro h0 hl hd x k e
  cases e
  exact .inl (.rowZ (by rcases (h.at h0 hl).2 with ⟨a, b⟩ | ⟨a, b⟩ <;> omega))
 | @rowC d acc j S k' y l r hj hc hm h4 _ ih =>
  intro h0 hl hd x k e
  have hk := aci hm h0
  have hl2 := h4.ends (by omega) (by omega) _ _ rfl
  have hch := h.ch j h0 hj
  have hcT : nx T (j + o) ∉ [124, 38, 45, 41, 42, 43, 63, 123, 40] := by rw [hch]; exact hc
  have hq := h4.emb h (by omega) (by omega) _ _ rfl
  rcases ih (by omega) (by omega) (Nat.le_trans hd (v4 (by omega))) x k e with b | ⟨⟨p, b⟩, hp⟩
  ·exact .inl (.rowC (by omega) hcT (h.read h0 hj hm) hq b)
  ·exact .inr ⟨⟨p, .rowC (by omega) hcT (h.read h0 hj hm) hq b⟩, hp⟩
 | @rowP d acc j x' k' y l r hj hc h3 h1 h5 h6 _ ih1 ih2 =>
  intro h0 hl hd x k e
  have hch := h.ch j h0 hj
  have hop := alc h0 hj hc
  have ej : j + o + 1 = j + 1 + o := by omega
  by_cases hdeep : d + 1 < 1000
  ·have hb := h1.ends (by omega) (by omega) _ _ rfl
   have hl2 := h6.ends (by omega) (by omega) _ _ rfl
   have hq := h6.emb h (by omega) (by omega) _ _ rfl
   have ek : k' + 1 + o = k' + o + 1 := by omega
   rw [ek] at hq
   rcases ih1 (by omega) (by omega) (by omega) _ _ rfl with a | ⟨⟨p, a⟩, hp⟩
   ·rcases ih2 (by omega) (by omega) (Nat.le_trans hd (v4 (by omega))) x k e with b | ⟨⟨p, b⟩, hp⟩
    ·exact .inl (.rowP (by omega) (by omega) hdeep (by rw [ej]; exact a) (by omega) hq b)
    ·exact .inr ⟨⟨p, .rowP (by omega) (by omega) hdeep (by rw [ej]; exact a) (by omega) hq b⟩, hp⟩
   ·exact .inr ⟨⟨p, .rowPE (by omega) (by omega) hdeep (by rw [ej]; exact a)⟩, hp⟩
  ·have := ani (s := s) (j + 1)
   exact .inr ⟨⟨_, .rowN (by omega) (by omega) (by omega)⟩, by omega⟩
 | _ => intro _ _ _ x k e; cases e
end
end Go.Proofs.YtohnchdnkbadaaaDoor
namespace Go.Proofs.YtohnchdnkbadaaaDoor
open Go Go.RowKit
theorem amw {a b : List UInt8} {j : Int} (h0 : 0 ≤ j) (h : j < a.length) : nx (a ++ b) j = nx a j := by
 unfold nx
 rw [List.getD_eq_getElem?_getD, List.getElem?_append_left (by omega), ← List.getD_eq_getElem?_getD]
theorem acd {a b : List UInt8} {j : Int} (h0 : 0 ≤ j) : nx (a ++ b) (a.length + j) = nx b j := by
 unfold nx
 rw [List.getD_eq_getElem?_getD, List.getElem?_append_right (by omega), ← List.getD_eq_getElem?_getD, show ((a.length : Int) + j).toNat - a.length = j.toNat by omega]
theorem Emb.mk' (a s b : List UInt8) : Emb s (a ++ (s ++ 41 :: b)) a.length := by
 refine ⟨by omega, fun j h0 h1 => ?_, by simp; omega, ?_⟩
 ·rw [show j + (a.length : Int) = a.length + j by omega, acd h0, amw h0 h1]
 ·rw [show (s.length : Int) + a.length = a.length + s.length by omega, acd (by omega), show (s.length : Int) = s.length + 0 by omega, acd (by omega)]; rfl
def ae9 (m : Int) (x y : Tr) : Tr := if m = 124 then .alt x y else if m = 38 then .and x y else if m = 45 then .minus x y else .cat x y
def l8 (m : Int) : List UInt8 := if m = 124 then [124] else if m = 38 then [38] else if m = 45 then [45] else []
def l9 (s t : List UInt8) (m : Int) : List UInt8 := 40 :: (s ++ 41 :: (l8 m ++ 40 :: (t ++ [41])))
theorem agp (m : Int) (x y : Tr) : (ae9 m x y).size = x.size + y.size + 1 := by
 unfold ae9
 split
 ·simp only [Tr.size]; omega
 split
 ·simp only [Tr.size]; omega
 split <;> (simp only [Tr.size]; omega)
theorem akc (s t : List UInt8) (m : Int) : (l9 s t m).length = s.length + t.length + (l8 m).length + 4 := by
 unfold l9; simp; omega
theorem anu (s t : List UInt8) (m : Int) : Emb s (l9 s t m) 1 := Emb.mk' [40] s (l8 m ++ 40 :: (t ++ [41]))
theorem anx (s t : List UInt8) (m : Int) : Emb t (l9 s t m) (s.length + (l8 m).length + 3 : Nat) := by
 have h := Emb.mk' (40 :: (s ++ 41 :: (l8 m ++ [40]))) t []
 have e : 40 :: (s ++ 41 :: (l8 m ++ [40])) ++ (t ++ [41]) = l9 s t m := by unfold l9; simp
 have e2 : (40 :: (s ++ 41 :: (l8 m ++ [40]))).length = s.length + (l8 m).length + 3 := by simp; omega
 rw [e, e2] at h; exact h
theorem aks (s t : List UInt8) (m : Int) {j : Int} (h0 : 0 ≤ j) (h1 : j ≤ (l8 m).length) : nx (l9 s t m) (s.length + 2 + j) = nx (l8 m ++ [40]) j := by
 have e : l9 s t m = (40 :: (s ++ [41])) ++ ((l8 m ++ [40]) ++ (t ++ [41])) := by unfold l9; simp
 have e2 : (s.length : Int) + 2 + j = ((40 :: (s ++ [41])).length : Nat) + j := by simp; omega
 rw [e, e2, acd h0, amw h0 (by simp; omega)]
theorem PR.unit {T : List UInt8} {j k : Int} {acc : Option Tr} {x : Tr} {r : aab} (hj : j < T.length) (hc : nx T j = 40) (h1 : PR T .alt 1 (j + 1) (.ok (x, k))) (hk : k < T.length) (hz : ¬ (k + 1 < T.length ∧ (nx T (k + 1) = 42 ∨ nx T (k + 1) = 43 ∨ nx T (k + 1) = 63 ∨ nx T (k + 1) = 123))) (h2 : PR T (.row (aes acc x)) 0 (k + 1) r) : PR T (.row acc) 0 j r := .rowP hj hc (by omega) h1 hk (.zero hz) h2
theorem amd {s t : List UInt8} {x y : Tr} (m : Int) (hx : PR s .alt 0 0 (.ok (x, s.length))) (hy : PR t .alt 0 0 (.ok (y, t.length))) : PR (l9 s t m) .alt 0 0 (.ok (ae9 m x y, (l9 s t m).length)) ∨ (∃ p, PR (l9 s t m) .alt 0 0 (.error (23, p))) ∧ 1000 ≤ j7 s + j7 t := by
 have hl := akc s t m
 have ps : 0 ≤ j7 s := by unfold j7; omega
 have pt : 0 ≤ j7 t := by unfold j7; omega
 have h1 := hx.emb (anu s t m) (by omega) (by omega) (Nat.zero_le _) _ _ rfl
 have h2 := hy.emb (anx s t m) (by omega) (by omega) (Nat.zero_le _) _ _ rfl
 have hz := aks s t m (j := 0) (by omega) (by omega)
 have hn := aks s t m (j := (l8 m).length) (by omega) (by omega)
 have hn2 : nx (l8 m ++ [40]) ((l8 m).length : Int) = 40 := by rw [show ((l8 m).length : Int) = (l8 m).length + 0 by omega, acd (by omega)]; rfl
 rw [hn2] at hn
 have hT0 : nx (l9 s t m) 0 = 40 := rfl
 generalize hT : l9 s t m = T at *
 have hend : ¬ ((s.length : Int) + (l8 m).length + 4 + t.length < T.length) := by omega
 rcases h1 with a | ⟨⟨p, a⟩, hp⟩
 ·have a' : PR T .alt 1 (0 + 1) (.ok (x, s.length + 1)) := a
  have b0 : 0 + ((s.length + (l8 m).length + 3 : Nat) : Int) = (s.length : Int) + 2 + (l8 m).length + 1 := by omega
  have b1 : (t.length : Int) + ((s.length + (l8 m).length + 3 : Nat) : Int) = (s.length : Int) + (l8 m).length + 3 + t.length := by omega
  have fst : ∀ {r : aab}, (nx (l8 m ++ [40]) 0 = 124 ∨ nx (l8 m ++ [40]) 0 = 38 ∨ nx (l8 m ++ [40]) 0 = 45 ∨ nx (l8 m ++ [40]) 0 = 40) → PR T (.row (some x)) 0 (s.length + 2) r → PR T (.row none) 0 0 r := fun hc hr => by
   rw [show (s.length : Int) + 2 + 0 = s.length + 1 + 1 by omega] at hz
   exact PR.unit (by omega) hT0 a' (by omega) (by rw [hz]; omega) (by rw [show (s.length : Int) + 1 + 1 = s.length + 2 by omega]; exact hr)
  rw [show (s.length : Int) + 2 + 0 = s.length + 2 by omega] at hz
  rcases h2 with b | ⟨⟨p, b⟩, hp⟩
  ·rw [b0, b1] at b
   have snd : ∀ {acc : Option Tr}, PR T (.row acc) 0 (s.length + 2 + (l8 m).length) (.ok ((aes acc y).getD .eps, T.length)) := fun {acc} => by
    have e : (s.length : Int) + (l8 m).length + 3 + t.length + 1 = T.length := by omega
    refine PR.unit (by omega) hn b (by omega) (by omega) ?_
    rw [e]; exact .rowZ (by omega)
   left
   by_cases c1 : m = 124
   ·subst c1
    have em : l8 124 = [124] := rfl
    rw [em] at hz fst snd
    rw [show nx ([124] ++ [40]) 0 = 124 by rfl] at hz fst
    refine .alt (.meet (fst (by omega) (.rowZ (by rw [hz]; omega))) (.meetZ (by rw [hz]; omega))) ?_
    exact .altL (by omega) hz (.meet snd (.meetZ (by omega))) (.altZ (by omega))
   by_cases c2 : m = 38
   ·subst c2
    have em : l8 38 = [38] := rfl
    rw [em] at hz fst snd
    rw [show nx ([38] ++ [40]) 0 = 38 by rfl] at hz fst
    refine .alt (.meet (fst (by omega) (.rowZ (by rw [hz]; omega))) (.meetL (by omega) (.inl hz) snd (.meetZ (by omega)))) ?_
    rw [hz]; exact .altZ (by omega)
   by_cases c3 : m = 45
   ·subst c3
    have em : l8 45 = [45] := rfl
    rw [em] at hz fst snd
    rw [show nx ([45] ++ [40]) 0 = 45 by rfl] at hz fst
    refine .alt (.meet (fst (by omega) (.rowZ (by rw [hz]; omega))) (.meetL (by omega) (.inr hz) snd (.meetZ (by omega)))) ?_
    rw [hz]; exact .altZ (by omega)
   ·have em : l8 m = [] := by unfold l8; rw [if_neg c1, if_neg c2, if_neg c3]
    rw [em] at hz fst snd
    have es : ae9 m x y = .cat x y := by unfold ae9; rw [if_neg c1, if_neg c2, if_neg c3]
    have snd' : PR T (.row (some x)) 0 (s.length + 2) (.ok (.cat x y, T.length)) := by
     have := snd (acc := some x)
     rw [show (s.length : Int) + 2 + (([] : List UInt8).length : Nat) = s.length + 2 by simp] at this
     exact this
    rw [es]
    exact .alt (.meet (fst (.inr (.inr (.inr rfl))) snd') (.meetZ (by omega))) (.altZ (by omega))
  ·rw [b0] at b
   refine .inr ⟨⟨p, ?_⟩, by omega⟩
   have snd : ∀ {acc : Option Tr}, PR T (.row acc) 0 (s.length + 2 + (l8 m).length) (.error (23, p)) := fun {acc} => .rowPE (by omega) hn (by omega) b
   by_cases c1 : m = 124
   ·subst c1
    have em : l8 124 = [124] := rfl
    rw [em] at hz fst snd
    rw [show nx ([124] ++ [40]) 0 = 124 by rfl] at hz fst
    refine .alt (.meet (fst (by omega) (.rowZ (by rw [hz]; omega))) (.meetZ (by rw [hz]; omega))) ?_
    exact .altLE (by omega) hz (.meetE snd)
   by_cases c2 : m = 38
   ·subst c2
    have em : l8 38 = [38] := rfl
    rw [em] at hz fst snd
    rw [show nx ([38] ++ [40]) 0 = 38 by rfl] at hz fst
    exact .altE (.meet (fst (by omega) (.rowZ (by rw [hz]; omega))) (.meetLE (by omega) (.inl hz) snd))
   by_cases c3 : m = 45
   ·subst c3
    have em : l8 45 = [45] := rfl
    rw [em] at hz fst snd
    rw [show nx ([45] ++ [40]) 0 = 45 by rfl] at hz fst
    exact .altE (.meet (fst (by omega) (.rowZ (by rw [hz]; omega))) (.meetLE (by omega) (.inr hz) snd))
   ·have em : l8 m = [] := by unfold l8; rw [if_neg c1, if_neg c2, if_neg c3]
    rw [em] at hz fst snd
    have snd' : PR T (.row (some x)) 0 (s.length + 2) (.error (23, p)) := by
     have := snd (acc := some x)
     rw [show (s.length : Int) + 2 + (([] : List UInt8).length : Nat) = s.length + 2 by simp] at this
     exact this
    exact .altE (.meetE (fst (.inr (.inr (.inr rfl))) snd'))
 ·exact .inr ⟨⟨p, .altE (.meetE (.rowPE (by omega) hT0 (by omega) a))⟩, by omega⟩
theorem al8 {s t : List UInt8} {x y : Tr} (m : Int) (hx : o4 s = .ok x) (hy : o4 t = .ok y) (hl : s.length + t.length ≤ 524288) :
  ((∃ p, o4 (l9 s t m) = .error (23, p)) ∧ 1000 ≤ j7 s + j7 t) ∨ o4 (l9 s t m) = (if 2000 ≤ x.size + y.size then .error (24, 0) else .ok (ae9 m x y)) := by
 obtain ⟨_, _, _, p1⟩ := abo hx
 obtain ⟨_, _, _, p2⟩ := abo hy
 have hm : (l8 m).length ≤ 1 := by unfold l8; (repeat' split) <;> simp
 have hlen := akc s t m
 have hs := agp m x y
 rcases amd m p1 p2 with h | ⟨⟨p, h⟩, hp⟩
 ·right
  unfold o4
  rw [if_neg (by omega), acz (R := .ok (ae9 m x y)) ⟨_, h, by simp⟩]
  simp only
  rw [hs]
  by_cases h2 : 2000 ≤ x.size + y.size
  ·rw [if_pos (by omega), if_pos h2]
  ·rw [if_neg (by omega), if_neg h2]
 ·left
  refine ⟨⟨p, ?_⟩, hp⟩
  unfold o4
  rw [if_neg (by omega), acz (R := .error (23, p)) ⟨_, h, rfl⟩]
theorem ajy (s t : List UInt8) (m : Int) : (((((([40] ++ s) ++ [41]) ++ l8 m) ++ [40]) ++ t) ++ [41]) = l9 s t m := by unfold l9; simp
theorem af8 (s : List UInt8) : 0 ≤ j7 s ∧ j7 s ≤ s.length := by
 unfold j7
 have := List.countP_le_length (p := fun x : UInt8 => decide (x = 40)) (l := s)
 omega
theorem akl (te : TypeId) (fre : Nat × Nat) (s t : List UInt8) (sign : Int) (h0 : 0 ≤ sign) : c9 Tryd.prog 5 [st s, st t, .int .u8 sign] (o8 te fre) [] (Ret (.bool true) []) := by
 refine c9.one (e := fun v => .bool v) (anv te fre s t sign (fun v => v = true) ?_)
 unfold aeo
 simp only [↓aso]
 by_cases he : (d9 s).1 = 0 ∧ (d9 t).1 = 0
 ·obtain ⟨x, hx, hT⟩ := aem he.1
  obtain ⟨y, hy, hU⟩ := aem he.2
  obtain ⟨ls, hs, hsol, _⟩ := abo hx
  obtain ⟨lt, hs', hsol', _⟩ := abo hy
  have hn := acu hx
  have hn' := acu hy
  rw [hT, hU]
  refine ⟨fun _ => by unfold I64; omega, ?_⟩
  by_cases hl : 524288 < (s.length : Int) + t.length
  ·rw [if_pos (by simp [hl])]; trivial
  rw [if_neg (by simp [he.1, he.2]; omega)]
  refine ⟨n7 x hn, fun _ => n7 y hn', fun mark null => ∃ m, mark = l8 m ∧ null = (ae9 m x y).null, ?_, ⟨h0, by omega⟩, ?_⟩
  ·rintro _ _ ⟨m, rfl, rfl⟩
   have hm : (l8 m).length ≤ 1 := by unfold l8; (repeat' split) <;> simp
   have q1 := af8 s
   have q2 := af8 t
   rw [ajy]
   refine ⟨by simp; omega, by simp; omega, by simp; omega, by simp; omega, by simp; omega, by simp; omega, ?_⟩
   have z1 := agp m x y
   rcases al8 m hx hy (by omega) with ⟨⟨p, hp⟩, hq⟩ | hp
   ·have e1 : d9 (l9 s t m) = (23, p) := by unfold d9; rw [hp]
    have e2 : a8 (l9 s t m) = .none := by unfold a8; rw [hp]
    rw [e1, e2, if_pos (by simp)]
    exact ⟨fun _ => ⟨by omega, by omega, by unfold I64; omega⟩, by simp [Tr.isNone, hq]⟩
   ·by_cases h2 : 2000 ≤ x.size + y.size
    ·rw [if_pos h2] at hp
     have e1 : d9 (l9 s t m) = (24, 0) := by unfold d9; rw [hp]
     rw [e1, if_neg (by simp)]
     refine ⟨m8 x hn (by omega), m8 y hn' (by omega), by unfold I64; omega, ?_⟩
     rw [if_pos (by simp; omega)]; rfl
    ·rw [if_neg h2] at hp
     obtain ⟨e1, e2⟩ := afw hp
     have hn2 := acu hp
     rw [e1, e2, if_neg (by simp)]
     refine ⟨m8 x hn (by omega), m8 y hn' (by omega), by unfold I64; omega, ?_⟩
     rw [if_neg (by simp; omega)]
     refine ⟨fun _ => ⟨m8 _ hn2 (by omega), m8 x hn (by omega), m8 y hn' (by omega), by unfold I64; omega, by unfold I64; omega⟩, fun _ => n7 _ hn2, ?_⟩
     rw [z1]; simp
  ·by_cases c0 : sign % 4 = 0
   ·rw [if_pos (by simp [c0])]
    exact ⟨n7 x hn, fun _ => n7 y hn', 124, rfl, rfl⟩
   rw [if_neg (by simp [c0])]
   by_cases c1 : sign % 4 = 1
   ·rw [if_pos (by simp [c1])]
    exact ⟨38, rfl, rfl⟩
   rw [if_neg (by simp [c1])]
   by_cases c2 : sign % 4 = 2
   ·rw [if_pos (by simp [c2])]
    exact ⟨n7 x hn, fun _ => n7 y hn', 45, rfl, rfl⟩
   rw [if_neg (by simp [c2])]
   exact ⟨0, rfl, rfl⟩
 ·have hb : (!decide ((d9 s).1 = 0) || !decide ((d9 t).1 = 0)) = true := by
   simp only [Bool.or_eq_true, Bool.not_eq_true', decide_eq_false_iff_not]
   by_cases h1 : (d9 s).1 = 0
   ·exact .inr fun h2 => he ⟨h1, h2⟩
   ·exact .inl h1
  rw [hb]
  exact ⟨fun h => absurd h (by decide), by simp⟩
end Go.Proofs.YtohnchdnkbadaaaDoor
namespace Go.Proofs.YtohnchdnkbadaaaDoor
open Go Go.ChangeShapes Go.WideShapes Go.ChangeAt Go.RowKit
theorem afo (s t : ByteArray) (b : Nat) (_h : s.data.toList.length ≤ reachBytes) (_h' : t.data.toList.length ≤ reachBytes) : ad8 5 #[.string s, .string t, .int .u8 b] (.bool true) :=
 c9.pureE (vs := [st s.data.toList, st t.data.toList, .int .u8 b]) fun te fre => akl te fre _ _ _ (by omega)
set_option maxRecDepth 100000 in
theorem aec (os : Os) (started : os.Started) (H : Type) (enc : TypeId × Value → H) :
  ReturnsInHanded {} Tryd.checked os 5 .any (fun w args => (Rows.regexSignsSpec.pre enc Tryd.prog Tryd.f5 [] false w args ∧ laidMetH Tryd.prog aa9 w) ∧ sizedMet enc Tryd.prog Tryd.f5 (OpenSpec.ofChange Rows.regexSignsSpec) false w args)
   (Rows.regexSignsSpec.post enc Tryd.prog Tryd.f5 false true false false) := by
 refine returnsInHanded_of_change_and (C := Tryd.checked) (X := fun w _ => laidMetH Tryd.prog aa9 w) (fun _ _ _ hh h => h.of_heap hh) ao8 started (by kernel_rfl) Tryd.func5
  (ChangeSpec.witness_at (enc := enc) (C := Tryd.checked) (os := os) (X := fun w _ => laidMetH Tryd.prog aa9 w) false (aet os) #[.string ByteArray.empty, .string ByteArray.empty, .int .u8 0] 8 rfl (by kernel_rfl) (by kernel_rfl) (by kernel_rfl) (by kernel_rfl) (by kernel_rfl) (ahq os _)) ?_
 intro W base args ds gs before hval0 hW _ hwt0 hL _
 have hval : ∀ (j : Nat) t v, Tryd.f5.params[j]? = some t → args[j]? = some v → Value.okWide Tryd.prog W .any base t v := hval0
 have hW' := hW
 obtain ⟨p, q, hA0, hV, rfl, _, _⟩ := hW
 have hA : DataW.TrodAll enc Tryd.prog W 0 (fun _ => true) true Tryd.f5.params.toList args.toList ds p := hA0
 have hwt : (DataW.weightsEach Tryd.prog (Tryd.f5.params.toList ++ Rows.regexSignsSpec.plain.varTypes Tryd.prog) (ds ++ gs)).all (· ≤ reachBytes) = true := hwt0
 rw [Tryd.params5] at hA hval hwt
 obtain ⟨v0, v1, v2, d0, d1, d2, p0, p1, p2, rfl, rfl, rfl, h0, h1, h2⟩ := trodAll_three hA
 obtain ⟨rfl, rfl⟩ := trodVars_none hV
 obtain ⟨a0, rfl, e0, _, _⟩ := ChangeMaps.open_string Tryd.underlying9 (hval 0 _ v0 rfl rfl) h0
 have z0 : a0.data.toList.length ≤ reachBytes := sized_string hwt (j := 0) (t := 9) rfl (by rw [e0]; rfl)
 obtain ⟨a1, rfl, e1, _, _⟩ := ChangeMaps.open_string Tryd.underlying9 (hval 1 _ v1 rfl rfl) h1
 have z1 : a1.data.toList.length ≤ reachBytes := sized_string hwt (j := 1) (t := 9) rfl (by rw [e1]; rfl)
 obtain ⟨n2, rfl, _, _, wm2⟩ := open_int Tryd.underlying5 (hval 2 _ v2 rfl rfl) h2
 obtain ⟨a2, rfl, b2⟩ := ap9 wm2
 refine (afo a0 a1 a2 z0 z1 W (aka hL)).mono fun e W' ⟨he, hb⟩ => ?_
 subst he
 exact ⟨_, rfl, apu ap5 rfl Tryd.underlying4 (by kernel_rfl) rfl hW' rfl hb⟩
theorem afp : Rows.RegexSignsSaid :=
 OpenClaim.holds_of_wide 5 Tryd.f5 rfl rfl rfl rfl rfl rfl rfl ⟨rfl, rfl, rfl, rfl, rfl⟩ rfl rfl rfl rfl rfl (by kernel_rfl) Tryd.func5 (by kernel_rfl)
  (of_decide_eq_true (by kernel_rfl)) (by unfold Func.isWrapper; rw [if_neg (of_decide_eq_false (by kernel_rfl))]; exact ⟨rfl, rfl⟩)
  (fun os started H enc _ => aec os started H enc)
theorem regexSigns_card_holds : Rows.RegexSignsCardSaid :=
 Claim7.holds_tied_plain_at .later [] _ _ _ _ afp (fun _ h => by cases h) (by kernel_rfl) (fun _ h => by cases h) regexSigns_row_tie rfl ⟨rfl, rfl⟩ (by kernel_rfl) rfl
  (fun f fn hf hfn => by
   obtain rfl : f = 5 := Option.some.inj ((show Tryd.prog.funcNamed "loupe/loupelaw02.RegexSigns" = some 5 by kernel_rfl).symm.trans hf) |>.symm
   obtain rfl : fn = Tryd.f5 := (Option.some.inj (Tryd.func5.symm.trans hfn)).symm
   refine ⟨by kernel_rfl, fun j t ht => ?_⟩
   rw [Tryd.params5] at ht
   have h3 : t = 9 ∨ t = 9 ∨ t = 5 := by simpa using Array.mem_of_getElem? ht
   rcases h3 with rfl | rfl | rfl
   ·exact (show Tryd.prog.wantsStandIn 9 = false by kernel_rfl)
   ·exact (show Tryd.prog.wantsStandIn 9 = false by kernel_rfl)
   ·exact (show Tryd.prog.wantsStandIn 5 = false by kernel_rfl))
  (by kernel_rfl)
end Go.Proofs.YtohnchdnkbadaaaDoor
