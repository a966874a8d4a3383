/-
  ClassOneText: the tied card.
-/
import Derived.Test.YtkjnhjhkaaampaaDoorTied
namespace Go.Proofs.YtkjnhjhkaaampaaDoor
open Go Go.ChangeShapes Go.WideShapes Go.ChangeAt Go.RowKit

theorem oneText_walk (t : ByteArray) (x y : CS) (h : t.data.toList.length ≤ reachBytes) : PureE 6 #[.string t, .agg (words x), .agg (words y)] (.bool true) :=
  Does.pureE (vs := [st t.data.toList, .agg (wl x).toArray, .agg (wl y).toArray]) fun te fre => lone_does te fre _ x y (by have := reach63 h; omega)

set_option maxRecDepth 100000 in
theorem classOneText_lifted (os : Os) (started : os.Started) (H : Type) (enc : TypeId × Value → H) :
    ReturnsInHanded {} Tryd.checked os 6 .any (fun w args => (Rows.classOneTextSpec.pre enc Tryd.prog Tryd.f6 [] false w args ∧ laidMetH Tryd.prog escLaid w) ∧ sizedMet enc Tryd.prog Tryd.f6 (OpenSpec.ofChange Rows.classOneTextSpec) false w args)
      (Rows.classOneTextSpec.post enc Tryd.prog Tryd.f6 false true false false) := by
  refine returnsInHanded_of_change_and (C := Tryd.checked) (X := fun w _ => laidMetH Tryd.prog escLaid w) (fun _ _ _ hh h => h.of_heap hh) own_none started (by kernel_rfl) Tryd.func6
    (ChangeSpec.witness_at (enc := enc) (C := Tryd.checked) (os := os) (X := fun w _ => laidMetH Tryd.prog escLaid w) false (laidWorld os) #[.string ByteArray.empty, .agg #[.int .u64 0, .int .u64 0, .int .u64 0, .int .u64 0], .agg #[.int .u64 0, .int .u64 0, .int .u64 0, .int .u64 0]] 8 rfl (by kernel_rfl) (by kernel_rfl) (by kernel_rfl) (by kernel_rfl) (by kernel_rfl) (laidWorld_met os _)) ?_
  intro W base args ds gs before hval0 hW _ hwt0 hL _
  have hval : ∀ (j : Nat) t v, Tryd.f6.params[j]? = some t → args[j]? = some v → Value.okWide Tryd.prog W .any base t v := hval0
  have hW' := hW
  obtain ⟨p, q, hA0, hV, rfl, _, _⟩ := hW
  have hA : DataW.TrodAll enc Tryd.prog W 0 (fun _ => true) true Tryd.f6.params.toList args.toList ds p := hA0
  have hwt : (DataW.weightsEach Tryd.prog (Tryd.f6.params.toList ++ Rows.classOneTextSpec.plain.varTypes Tryd.prog) (ds ++ gs)).all (· ≤ reachBytes) = true := hwt0
  rw [Tryd.params6] at hA hval hwt
  obtain ⟨v0, v1, v2, d0, d1, d2, p0, p1, p2, rfl, rfl, rfl, h0, h1, h2⟩ := trodAll_three hA
  obtain ⟨rfl, rfl⟩ := trodVars_none hV
  obtain ⟨a0, rfl, e0, _, _⟩ := ChangeMaps.open_string Tryd.underlying9 (hval 0 _ v0 rfl rfl) h0
  have z0 : a0.data.toList.length ≤ reachBytes := sized_string hwt (j := 0) (t := 9) rfl (by rw [e0]; rfl)
  obtain ⟨a1, rfl⟩ := open_words (hval 1 _ v1 rfl rfl) h1
  obtain ⟨a2, rfl⟩ := open_words (hval 2 _ v2 rfl rfl) h2
  refine (oneText_walk a0 a1 a2 z0 W (esc_of_laid hL)).mono fun e W' ⟨he, hb⟩ => ?_
  subst he
  exact ⟨_, rfl, law_post laid_out rfl Tryd.underlying4 (by kernel_rfl) rfl hW' rfl hb⟩

theorem classOneText_said : Rows.ClassOneTextSaid :=
  OpenClaim.holds_of_wide 6 Tryd.f6 rfl rfl rfl rfl rfl rfl rfl ⟨rfl, rfl, rfl, rfl, rfl⟩ rfl rfl rfl rfl rfl (by kernel_rfl) Tryd.func6 (by kernel_rfl)
    (of_decide_eq_true (by kernel_rfl)) (by unfold Func.isWrapper; rw [if_neg (of_decide_eq_false (by kernel_rfl))]; exact ⟨rfl, rfl⟩)
    (fun os started H enc _ => classOneText_lifted os started H enc)

theorem classOneText_card_holds : Rows.ClassOneTextCardSaid :=
  Claim7.holds_tied_plain_at .later [] _ _ _ _ classOneText_said (fun _ h => by cases h) (by kernel_rfl) (fun _ h => by cases h) classOneText_row_tie rfl ⟨rfl, rfl⟩ (by kernel_rfl) rfl
    (fun f fn hf hfn => by
      obtain rfl : f = 6 := Option.some.inj ((show Tryd.prog.funcNamed "loupe/loupelaw01.ClassOneText" = some 6 by kernel_rfl).symm.trans hf) |>.symm
      obtain rfl : fn = Tryd.f6 := (Option.some.inj (Tryd.func6.symm.trans hfn)).symm
      refine ⟨by kernel_rfl, fun j t ht => ?_⟩
      rw [Tryd.params6] at ht
      have h3 : t = 9 ∨ t = 23 ∨ t = 23 := by simpa using Array.mem_of_getElem? ht
      rcases h3 with rfl | rfl | rfl
      · exact (show Tryd.prog.wantsStandIn 9 = false by kernel_rfl)
      · exact (show Tryd.prog.wantsStandIn 23 = false by kernel_rfl)
      · exact (show Tryd.prog.wantsStandIn 23 = false by kernel_rfl))
    (by kernel_rfl)

end Go.Proofs.YtkjnhjhkaaampaaDoor
