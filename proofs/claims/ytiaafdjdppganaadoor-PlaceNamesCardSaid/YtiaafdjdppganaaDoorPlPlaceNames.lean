/-
  PlaceNames returns true for every input; its tables are tied to the program's text.
-/
import Derived.Test.YtiaafdjdppganaaDoorPlT
namespace Go.Proofs.YtiaafdjdppganaaDoor
open Go Go.ChangeShapes Go.WideShapes Go.ChangeAt Go.RowKit

theorem placeNames_met (os : Os) : laidMet Tryd.prog Rows.placeNamesRow.laid ((laidWorld os).forCall (fun _ _ => 0) ⟨#[], #[.int .i64 0], []⟩).memory :=
  laidMet_of_run' 8 (by kernel_rfl) (by kernel_rfl)
theorem placeNames_reads (os : Os) {H : Type} (enc : TypeId × Value → H) : ∃ places, DataW.whole enc Tryd.prog ((laidWorld os).forCall (fun _ _ => 0) ⟨#[], #[.int .i64 0], []⟩).memory Tryd.f5.params.toList Rows.placeNamesSpec.vars false (#[.int .i64 0] : Array Value).toList 8 = some ([.lit (.int .i64 0)], [], places) :=
  ⟨[], by kernel_rfl⟩
set_option maxRecDepth 100000 in
theorem placeNames_lifted (os : Os) (started : os.Started) (H : Type) (enc : TypeId × Value → H) (F : Stop.Interp) :
    ReturnsInHanded {} Tryd.checked os 5 .any ((OpenSpec.ofChange Rows.placeNamesSpec).preRow enc Tryd.prog Tryd.f5 Rows.placeNamesRow.domain false Rows.placeNamesRow.laid) (((OpenSpec.ofChange Rows.placeNamesSpec).at F).post enc Tryd.prog Tryd.f5 false true false false) := by
  obtain ⟨places, hx⟩ := placeNames_reads os enc
  refine returnsInHanded_of_row (C := Tryd.checked) (s := OpenSpec.ofChange Rows.placeNamesSpec) own_none started (by kernel_rfl) Tryd.func5
    (witness_row_at (enc := enc) (C := Tryd.checked) false (laidWorld os) #[.int .i64 0] rfl (by kernel_rfl) (by kernel_rfl) (by kernel_rfl)
      (OpenSpec.preRow_of_cond 8 hx (by kernel_rfl) (fun k hk => by cases hk) (by kernel_rfl) (placeNames_met os))) ?_
  intro W base args ds gs before hval0 hW _ hcond hwt0 hL _ _
  have hval : ∀ (j : Nat) t v, Tryd.f5.params[j]? = some t → args[j]? = some v → Value.okWide Tryd.prog W .any base t v := hval0
  have hW' : DataW.Whole enc Tryd.prog Tryd.f5.params.toList Rows.placeNamesSpec.vars false W args.toList ds gs before := hW
  obtain ⟨p, q, hA0, hV, rfl, _, _⟩ := hW'
  have hA : DataW.TrodAll enc Tryd.prog W 0 (fun _ => true) true Tryd.f5.params.toList args.toList ds p := hA0
  have hwt : (DataW.weightsEach Tryd.prog (Tryd.f5.params.toList ++ Rows.placeNamesSpec.plain.varTypes Tryd.prog) (ds ++ gs)).all (· ≤ reachBytes) = true := hwt0
  rw [Tryd.params5] at hA hval hwt
  obtain ⟨v0, d0, rfl, rfl, h0⟩ := trodAll_one hA
  obtain ⟨rfl, rfl⟩ := trodVars_none hV
  obtain ⟨a0, rfl, e0, _, wm0⟩ := open_int Tryd.underlying3 (hval 0 _ v0 rfl rfl) h0
  have b0 := int_bd wm0
  refine (does_under hL (fun te fre => names_does te fre a0 b0)).mono fun e W' ⟨he, hb⟩ => ?_
  subst he
  exact ⟨_, rfl, law_post laid_out rfl Tryd.underlying4 (by kernel_rfl) rfl hW rfl hb⟩

theorem placeNames_said : Rows.PlaceNamesSaid :=
  OpenClaim.holds_of_cond 5 Tryd.f5 rfl rfl rfl rfl rfl rfl rfl ⟨rfl, rfl, rfl, rfl, rfl⟩ rfl rfl rfl rfl rfl (by kernel_rfl) Tryd.func5 (by kernel_rfl)
    (of_decide_eq_true (by kernel_rfl)) (by unfold Func.isWrapper; rw [if_neg (of_decide_eq_false (by kernel_rfl))]; exact ⟨rfl, rfl⟩)
    (fun os started H enc _ F => by rw [OpenClaim.pre_eq_preRow]; exact placeNames_lifted os started H enc F)

theorem placeNames_card_holds : Rows.PlaceNamesCardSaid :=
  Claim7.holds_tied_plain_at .later [] _ _ _ _ placeNames_said (fun _ h => by cases h) (by kernel_rfl) (fun _ h => by cases h) placeNames_row_tie rfl ⟨rfl, rfl⟩ (by kernel_rfl) rfl
    (fun f fn hf hfn => by
      obtain rfl : f = 5 := Option.some.inj ((show Tryd.prog.funcNamed "loupe/loupelaw11.PlaceNames" = some 5 by kernel_rfl).symm.trans hf) |>.symm
      obtain rfl : fn = Tryd.f5 := (Option.some.inj (Tryd.func5.symm.trans hfn)).symm
      refine ⟨by kernel_rfl, fun j t ht => ?_⟩
      rw [Tryd.params5] at ht
      have h3 : t = 3 := by simpa using Array.mem_of_getElem? ht
      rcases h3 with rfl
      · exact (show Tryd.prog.wantsStandIn 3 = false by kernel_rfl))
    (by kernel_rfl)

end Go.Proofs.YtiaafdjdppganaaDoor
