/-
  The law ClassShows: its walk.
-/
import Derived.Test.YtkjnhjhkaaampaaDoorRefShow
namespace Go.Proofs.YtkjnhjhkaaampaaDoor
open Go Go.RowKit

theorem show_pure (s : CS) : PureE 8 #[.agg (words s)] (.string (bs (showL s))) := by
  by_cases h : countS s = 1
  · exact show_one s h
  · exact show_many s h

theorem litA : words (mkS fun i => i == 97) = #[Value.int .u64 0, .int .u64 8589934592, .int .u64 0, .int .u64 0] := by kernel_rfl
theorem litAC : words (mkS fun i => decide (97 ≤ i ∧ i ≤ 99)) = #[Value.int .u64 0, .int .u64 60129542144, .int .u64 0, .int .u64 0] := by kernel_rfl
theorem showA : showL (mkS fun i => i == 97) = [97] := by kernel_rfl
theorem showAC : showL (mkS fun i => decide (97 ≤ i ∧ i ≤ 99)) = [91, 97, 45, 99, 93] := by kernel_rfl

theorem speaks_pure : PureE 7 #[] (.bool true) := by
  intro w hE
  have c1 := show_pure (mkS fun i => i == 97)
  have c2 := show_pure (mkS fun i => decide (97 ≤ i ∧ i ≤ 99))
  rw [litA, showA] at c1
  rw [litAC, showAC] at c2
  have C1 := Lib.hid c1; clear c1
  have C2 := Lib.hid c2; clear c2
  go_enter Tryd.func7, Tryd.ntmps7
  go_wp2_with fail
  refine (C1.out w hE).mono ?_
  rintro e0 W1 ⟨rfl, hv⟩
  have hE1 := hE.below hv
  have hT1 : (bs [97]).toList = [97] := by kernel_rfl
  have hT2 : (bs [91, 97, 45, 99, 93]).toList = [91, 97, 45, 99, 93] := by kernel_rfl
  go_wp2_with fail
  refine (C2.out W1 hE1).mono ?_
  rintro e0 W2 ⟨rfl, hv2⟩
  go_wp2
  go_ret
  exact ⟨rfl, hv.trans (hv2.mono hv.size)⟩

theorem wpFlow_callE {ops : Array Oper} {w0 : World} {Q : Act → Prop} {a : Act} {rest : List Oper} {d : Tmp} {f : FuncId} {xs : Array Operand} {at_ : Array TypeId} {ty : TypeId} {pos : String} {after : Array Edge} {g : Option (Nat × Bool)}
    (args : Array Value) {v : Value} (he : entB Tryd.prog f = true) (hp : PureE f args v) (hE : Esc w0)
    (hw : Region.wanted ⟨some d, .call ⟨.value (.func f), xs, at_⟩, ty, pos, after, g⟩ (yielded ops a.tmps) = true) (ha : xs.toList.map a.eval = args.toList)
    (h : wpFlow Tryd.prog ops (Below w0.heap.size w0) Q rest (a.put (some d) v)) : wpFlow Tryd.prog ops (Below w0.heap.size w0) Q (⟨some d, .call ⟨.value (.func f), xs, at_⟩, ty, pos, after, g⟩ :: rest) a := by
  refine wpFlow_step v hw (fun w hS => ?_) h
  have ha' : xs.map a.eval = args := by apply Array.toList_inj.1; rw [Array.toList_map, ha]
  rw [exec_call _ _ _ _ _ _ _ _ _ _ he, ha']
  exact gives_enter ((hp w (hE.below hS)).mono fun _ _ ⟨he, hw⟩ => ⟨he, hS.trans (hw.mono hS.size)⟩)

set_option maxRecDepth 100000 in
theorem shows_walk (s : CS) : PureE 3 #[.agg (words s)] (.bool true) := by
  intro w hE
  have C0 := Lib.hid speaks_pure
  have C1 := Lib.hid (show_pure s)
  have C2 := Lib.hid (from_pure s)
  have C3 := Lib.hid (show_ref s)
  go_enter Tryd.func3, Tryd.ntmps3
  have H0 := Lib.hid (heap_alloc_new w (.cells (words s) 23))
  have hb0 : Below w.heap.size w (w.alloc (.cells (words s) 23)) := (Below.refl _ _).alloc (Nat.le_refl _) _
  have hE0 := hE.alloc (.cells (words s) 23)
  generalize showL s = t at C1 C3
  go_wp2_with fail
  generalize w.alloc (.cells (words s) 23) = W at H0 hb0 hE0 ⊢
  have hl0 : w.heap.size < W.drew.heap.size := lt_of_blk H0.out
  have hE1 : Esc W.drew := hE0
  refine wp_region_flow (Below W.drew.heap.size W.drew) (by kernel_rfl) (by kernel_rfl) (Below.refl _ _) ?_
  refine wpFlow_callE _ (by kernel_rfl) C0.out hE1 rfl rfl ?_
  simp only [Act.put, List.setIfInBounds_toArray, List.set_cons_zero, List.set_cons_succ]
  refine wpFlow_step ?_ rfl (fun w' hS => ?_) ?_
  rotate_left
  · have hcc := (bcell hS).1
    go_simp
    try go_bits
    exact gives_value (P := Tryd.prog) hS
  simp only [Act.put, List.setIfInBounds_toArray, List.set_cons_zero, List.set_cons_succ]
  refine wpFlow_load_row w.heap.size 23 (fun w' hS => blk hS H0.out hl0) (wordT _) rfl rfl ?_
  simp only [Act.put, List.setIfInBounds_toArray, List.set_cons_zero, List.set_cons_succ]
  refine wpFlow_callE _ (by kernel_rfl) C1.out hE1 rfl rfl ?_
  simp only [Act.put, List.setIfInBounds_toArray, List.set_cons_zero, List.set_cons_succ]
  refine wpFlow_load_row w.heap.size 23 (fun w' hS => blk hS H0.out hl0) (wordT _) rfl rfl ?_
  simp only [Act.put, List.setIfInBounds_toArray, List.set_cons_zero, List.set_cons_succ]
  refine wpFlow_call _ (by kernel_rfl) C2.out (Nat.le_refl _) rfl rfl ?_
  simp only [Act.put, List.setIfInBounds_toArray, List.set_cons_zero, List.set_cons_succ]
  refine wpFlow_call _ (by kernel_rfl) C3.out (Nat.le_refl _) rfl rfl ?_
  simp only [Act.put, List.setIfInBounds_toArray, List.set_cons_zero, List.set_cons_succ]
  repeat
    refine wpFlow_step ?_ rfl (fun w' hS => ?_) ?_
    rotate_left
    · have hcc := (bcell hS).1
      go_simp
      try go_bits
      exact gives_value (P := Tryd.prog) hS
    simp only [Act.put, List.setIfInBounds_toArray, List.set_cons_zero, List.set_cons_succ]
  refine wpFlow_nil ?_
  intro w' hS
  go_wp2
  go_ret
  exact ⟨rfl, hb0.drew.trans (hS.mono hb0.size)⟩
end Go.Proofs.YtkjnhjhkaaampaaDoor
