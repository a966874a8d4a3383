/-
  PlaceSays returns true for every input of bulk at most 1048576; its tables are tied to the program's text.
-/
import Derived.Test.YtiaafdjdppganaaDoorPlT
namespace Go.Proofs.YtiaafdjdppganaaDoor
open Go Go.ChangeShapes Go.WideShapes Go.ChangeAt Go.RowKit

theorem placeSays_met (os : Os) : laidMet Tryd.prog Rows.placeSaysUptoRow.laid ((laidWorld os).forCall (fun _ _ => 0) ⟨#[], #[.string ByteArray.empty, .int .i64 0, .agg #[.int .i64 0, .int .i64 0, .string ByteArray.empty]], []⟩).memory :=
  laidMet_of_run' 8 (by kernel_rfl) (by kernel_rfl)
theorem placeSays_reads (os : Os) {H : Type} (enc : TypeId × Value → H) : ∃ places, DataW.whole enc Tryd.prog ((laidWorld os).forCall (fun _ _ => 0) ⟨#[], #[.string ByteArray.empty, .int .i64 0, .agg #[.int .i64 0, .int .i64 0, .string ByteArray.empty]], []⟩).memory Tryd.f6.params.toList Rows.placeSaysSpec.vars false (#[.string ByteArray.empty, .int .i64 0, .agg #[.int .i64 0, .int .i64 0, .string ByteArray.empty]] : Array Value).toList 8 = some ([.lit (.string []), .lit (.int .i64 0), .agg [.lit (.int .i64 0), .lit (.int .i64 0), .lit (.string [])]], [], places) :=
  ⟨[], by kernel_rfl⟩
set_option maxRecDepth 100000 in
theorem placeSaysUpto_lifted (os : Os) (started : os.Started) (H : Type) (enc : TypeId × Value → H) (F : Stop.Interp) :
    ReturnsInHanded {} Tryd.checked os 6 .any ((Rows.OpenSpec.upto Rows.placeSaysSpec).preRow enc Tryd.prog Tryd.f6 Rows.placeSaysUptoRow.domain false Rows.placeSaysUptoRow.laid) (((Rows.OpenSpec.upto Rows.placeSaysSpec).at F).post enc Tryd.prog Tryd.f6 false true false false) := by
  obtain ⟨places, hx⟩ := placeSays_reads os enc
  refine returnsInHanded_of_row (C := Tryd.checked) (s := Rows.OpenSpec.upto Rows.placeSaysSpec) own_none started (by kernel_rfl) Tryd.func6
    (witness_row_at (enc := enc) (C := Tryd.checked) false (laidWorld os) #[.string ByteArray.empty, .int .i64 0, .agg #[.int .i64 0, .int .i64 0, .string ByteArray.empty]] rfl (by kernel_rfl) (by kernel_rfl) (by kernel_rfl)
      (OpenSpec.preRow_of_cond 8 hx (by kernel_rfl) (fun k hk => by cases hk; kernel_rfl) (by kernel_rfl) (placeSays_met os))) ?_
  intro W base args ds gs before hval0 hW _ hcond hwt0 hL _ _
  have hval : ∀ (j : Nat) t v, Tryd.f6.params[j]? = some t → args[j]? = some v → Value.okWide Tryd.prog W .any base t v := hval0
  have hW' : DataW.Whole enc Tryd.prog Tryd.f6.params.toList Rows.placeSaysSpec.vars false W args.toList ds gs before := hW
  obtain ⟨p, q, hA0, hV, rfl, _, _⟩ := hW'
  have hA : DataW.TrodAll enc Tryd.prog W 0 (fun _ => true) true Tryd.f6.params.toList args.toList ds p := hA0
  have hwt : (DataW.weightsEach Tryd.prog (Tryd.f6.params.toList ++ Rows.placeSaysSpec.plain.varTypes Tryd.prog) (ds ++ gs)).all (· ≤ reachBytes) = true := hwt0
  rw [Tryd.params6] at hA hval hwt
  obtain ⟨v0, v1, v2, d0, d1, d2, p0, p1, p2, rfl, rfl, rfl, h0, h1, h2⟩ := trodAll_three hA
  obtain ⟨rfl, rfl⟩ := trodVars_none hV
  obtain ⟨a0, rfl, e0, _, _⟩ := ChangeMaps.open_string Tryd.underlying9 (hval 0 _ v0 rfl rfl) h0
  have y0 : a0.data.toList.length ≤ reachBytes := sized_string hwt (j := 0) (t := 9) rfl (by rw [e0]; rfl)
  obtain ⟨a1, rfl, e1, _, wm1⟩ := open_int Tryd.underlying3 (hval 1 _ v1 rfl rfl) h1
  have b1 := int_bd wm1
  obtain ⟨a2, c2, w2, rfl, b2, b2c, e2⟩ := open_fault (hval 2 _ v2 rfl rfl) h2
  have hk := of_decide_eq_true (hcond _ rfl)
  rw [e0, e2] at hk
  simp only [List.append_nil, Rows.uptoBulkAll, Rows.uptoBulk] at hk
  have z0 : a0.data.toList.length ≤ 1048576 := by omega
  have z2 : w2.length ≤ 1048576 := by omega
  have r0 : a0.data.toList.length ≤ 140737488351232 := y0
  refine (does_under hL (fun te fre => says_does te fre a0.data.toList a1 a2 c2 w2 ⟨r0, b1, b2c, z2⟩)).mono fun e W' ⟨he, hb⟩ => ?_
  subst he
  exact ⟨_, rfl, law_post laid_out rfl Tryd.underlying4 (by kernel_rfl) rfl hW rfl hb⟩

theorem placeSaysUpto_said : Rows.PlaceSaysUptoSaid :=
  OpenClaim.holds_of_cond 6 Tryd.f6 rfl rfl rfl rfl rfl rfl rfl ⟨rfl, rfl, rfl, rfl, rfl⟩ rfl rfl rfl rfl rfl (by kernel_rfl) Tryd.func6 (by kernel_rfl)
    (of_decide_eq_true (by kernel_rfl)) (by unfold Func.isWrapper; rw [if_neg (of_decide_eq_false (by kernel_rfl))]; exact ⟨rfl, rfl⟩)
    (fun os started H enc _ F => by rw [OpenClaim.pre_eq_preRow]; exact placeSaysUpto_lifted os started H enc F)

theorem placeSaysUpto_card_holds : Rows.PlaceSaysUptoCardSaid :=
  Claim7.holds_tied_plain_at .later [] _ _ _ _ placeSaysUpto_said (fun _ h => by cases h) (by kernel_rfl) (fun _ h => by cases h) placeSaysUpto_row_tie rfl ⟨rfl, rfl⟩ (by kernel_rfl) rfl
    (fun f fn hf hfn => by
      obtain rfl : f = 6 := Option.some.inj ((show Tryd.prog.funcNamed "loupe/loupelaw11.PlaceSays" = some 6 by kernel_rfl).symm.trans hf) |>.symm
      obtain rfl : fn = Tryd.f6 := (Option.some.inj (Tryd.func6.symm.trans hfn)).symm
      refine ⟨by kernel_rfl, fun j t ht => ?_⟩
      rw [Tryd.params6] at ht
      have h3 : t = 9 ∨ t = 3 ∨ t = 33 := by simpa using Array.mem_of_getElem? ht
      rcases h3 with rfl | rfl | rfl
      · exact (show Tryd.prog.wantsStandIn 9 = false by kernel_rfl)
      · exact (show Tryd.prog.wantsStandIn 3 = false by kernel_rfl)
      · exact (show Tryd.prog.wantsStandIn 33 = false by kernel_rfl))
    (by kernel_rfl)

end Go.Proofs.YtiaafdjdppganaaDoor
