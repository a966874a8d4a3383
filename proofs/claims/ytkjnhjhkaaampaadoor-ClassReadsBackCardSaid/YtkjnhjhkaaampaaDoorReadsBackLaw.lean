/-
  ClassReadsBack: the tied card.
-/
import Derived.Test.YtkjnhjhkaaampaaDoorTied
namespace Go.Proofs.YtkjnhjhkaaampaaDoor
open Go Go.ChangeShapes Go.WideShapes Go.ChangeAt Go.RowKit

theorem back_walk (x : CS) (t r : ByteArray) (h : t.data.toList.length ≤ reachBytes) (h2 : r.data.toList.length ≤ reachBytes) : PureE 5 #[.agg (words x), .string t, .string r] (.bool true) :=
  Does.pureE (vs := [.agg (wl x).toArray, st t.data.toList, st r.data.toList]) fun te fre => back_does te fre x _ _ (by have := reach63 h; omega) (by have := reach63 h2; omega)

set_option maxRecDepth 100000 in
theorem classReadsBack_lifted (os : Os) (started : os.Started) (H : Type) (enc : TypeId × Value → H) :
    ReturnsInHanded {} Tryd.checked os 5 .any (fun w args => (Rows.classReadsBackSpec.pre enc Tryd.prog Tryd.f5 [] false w args ∧ laidMetH Tryd.prog escLaid w) ∧ sizedMet enc Tryd.prog Tryd.f5 (OpenSpec.ofChange Rows.classReadsBackSpec) false w args)
      (Rows.classReadsBackSpec.post enc Tryd.prog Tryd.f5 false true false false) := by
  refine returnsInHanded_of_change_and (C := Tryd.checked) (X := fun w _ => laidMetH Tryd.prog escLaid w) (fun _ _ _ hh h => h.of_heap hh) own_none started (by kernel_rfl) Tryd.func5
    (ChangeSpec.witness_at (enc := enc) (C := Tryd.checked) (os := os) (X := fun w _ => laidMetH Tryd.prog escLaid w) false (laidWorld os) #[.agg #[.int .u64 0, .int .u64 0, .int .u64 0, .int .u64 0], .string ByteArray.empty, .string ByteArray.empty] 8 rfl (by kernel_rfl) (by kernel_rfl) (by kernel_rfl) (by kernel_rfl) (by kernel_rfl) (laidWorld_met os _)) ?_
  intro W base args ds gs before hval0 hW _ hwt0 hL _
  have hval : ∀ (j : Nat) t v, Tryd.f5.params[j]? = some t → args[j]? = some v → Value.okWide Tryd.prog W .any base t v := hval0
  have hW' := hW
  obtain ⟨p, q, hA0, hV, rfl, _, _⟩ := hW
  have hA : DataW.TrodAll enc Tryd.prog W 0 (fun _ => true) true Tryd.f5.params.toList args.toList ds p := hA0
  have hwt : (DataW.weightsEach Tryd.prog (Tryd.f5.params.toList ++ Rows.classReadsBackSpec.plain.varTypes Tryd.prog) (ds ++ gs)).all (· ≤ reachBytes) = true := hwt0
  rw [Tryd.params5] at hA hval hwt
  obtain ⟨v0, v1, v2, d0, d1, d2, p0, p1, p2, rfl, rfl, rfl, h0, h1, h2⟩ := trodAll_three hA
  obtain ⟨rfl, rfl⟩ := trodVars_none hV
  obtain ⟨a0, rfl⟩ := open_words (hval 0 _ v0 rfl rfl) h0
  obtain ⟨a1, rfl, e1, _, _⟩ := ChangeMaps.open_string Tryd.underlying9 (hval 1 _ v1 rfl rfl) h1
  have z1 : a1.data.toList.length ≤ reachBytes := sized_string hwt (j := 1) (t := 9) rfl (by rw [e1]; rfl)
  obtain ⟨a2, rfl, e2, _, _⟩ := ChangeMaps.open_string Tryd.underlying9 (hval 2 _ v2 rfl rfl) h2
  have z2 : a2.data.toList.length ≤ reachBytes := sized_string hwt (j := 2) (t := 9) rfl (by rw [e2]; rfl)
  refine (back_walk a0 a1 a2 z1 z2 W (esc_of_laid hL)).mono fun e W' ⟨he, hb⟩ => ?_
  subst he
  exact ⟨_, rfl, law_post laid_out rfl Tryd.underlying4 (by kernel_rfl) rfl hW' rfl hb⟩

theorem classReadsBack_said : Rows.ClassReadsBackSaid :=
  OpenClaim.holds_of_wide 5 Tryd.f5 rfl rfl rfl rfl rfl rfl rfl ⟨rfl, rfl, rfl, rfl, rfl⟩ rfl rfl rfl rfl rfl (by kernel_rfl) Tryd.func5 (by kernel_rfl)
    (of_decide_eq_true (by kernel_rfl)) (by unfold Func.isWrapper; rw [if_neg (of_decide_eq_false (by kernel_rfl))]; exact ⟨rfl, rfl⟩)
    (fun os started H enc _ => classReadsBack_lifted os started H enc)

theorem classReadsBack_card_holds : Rows.ClassReadsBackCardSaid :=
  Claim7.holds_tied_plain_at .later [] _ _ _ _ classReadsBack_said (fun _ h => by cases h) (by kernel_rfl) (fun _ h => by cases h) classReadsBack_row_tie rfl ⟨rfl, rfl⟩ (by kernel_rfl) rfl
    (fun f fn hf hfn => by
      obtain rfl : f = 5 := Option.some.inj ((show Tryd.prog.funcNamed "loupe/loupelaw01.ClassReadsBack" = some 5 by kernel_rfl).symm.trans hf) |>.symm
      obtain rfl : fn = Tryd.f5 := (Option.some.inj (Tryd.func5.symm.trans hfn)).symm
      refine ⟨by kernel_rfl, fun j t ht => ?_⟩
      rw [Tryd.params5] at ht
      have h3 : t = 23 ∨ t = 9 ∨ t = 9 := by simpa using Array.mem_of_getElem? ht
      rcases h3 with rfl | rfl | rfl
      · exact (show Tryd.prog.wantsStandIn 23 = false by kernel_rfl)
      · exact (show Tryd.prog.wantsStandIn 9 = false by kernel_rfl)
      · exact (show Tryd.prog.wantsStandIn 9 = false by kernel_rfl))
    (by kernel_rfl)

end Go.Proofs.YtkjnhjhkaaampaaDoor
