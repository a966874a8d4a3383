/-
  Merged: ArLawOrder.
-/
import Derived.Test.YtaaepdlajkdneaaDoorPo4
namespace Go.Proofs.YtaaepdlajkdneaaDoor
open Go Go.ChangeShapes Go.WideShapes Go.ChangeAt Go.RowKit
theorem abl (os : Os) : laidMet Tryd.prog Rows.argsOrderRow.laid ((aae os).forCall (fun _ _ => 0) ⟨#[], #[.int .i64 0, .string ByteArray.empty, .agg #[.string ByteArray.empty, .string ByteArray.empty, .string ByteArray.empty]], []⟩).memory :=
 laidMet_of_run' 8 (by kernel_rfl) (by kernel_rfl)
theorem aap (os : Os) {H : Type} (enc : TypeId × Value → H) : ∃ places, DataW.whole enc Tryd.prog ((aae os).forCall (fun _ _ => 0) ⟨#[], #[.int .i64 0, .string ByteArray.empty, .agg #[.string ByteArray.empty, .string ByteArray.empty, .string ByteArray.empty]], []⟩).memory Tryd.f4.params.toList Rows.argsOrderSpec.vars false (#[.int .i64 0, .string ByteArray.empty, .agg #[.string ByteArray.empty, .string ByteArray.empty, .string ByteArray.empty]] : Array Value).toList 8 = some ([.lit (.int .i64 0), .lit (.string []), .agg [.lit (.string []), .lit (.string []), .lit (.string [])]], [], places) :=
 ⟨[], by kernel_rfl⟩
set_option maxRecDepth 100000 in
theorem aag (os : Os) (started : os.Started) (H : Type) (enc : TypeId × Value → H) (F : Stop.Interp) :
  ReturnsInHanded {} Tryd.checked os 4 .any ((OpenSpec.ofChange Rows.argsOrderSpec).preRow enc Tryd.prog Tryd.f4 Rows.argsOrderRow.domain false Rows.argsOrderRow.laid) (((OpenSpec.ofChange Rows.argsOrderSpec).at F).post enc Tryd.prog Tryd.f4 false true false false) := by
 obtain ⟨places, hx⟩ := aap os enc
 refine returnsInHanded_of_row (C := Tryd.checked) (s := OpenSpec.ofChange Rows.argsOrderSpec) af2 started (by kernel_rfl) Tryd.func4
  (witness_row_atRef (enc := enc) (C := Tryd.checked) false (aae os) #[.int .i64 0, .string ByteArray.empty, .agg #[.string ByteArray.empty, .string ByteArray.empty, .string ByteArray.empty]] rfl (by kernel_rfl) (by kernel_rfl) (by kernel_rfl)
   (OpenSpec.preRow_of_cond 8 hx (by kernel_rfl) (fun k hk => by cases hk) (by kernel_rfl) (abl os))) ?_
 intro W base args ds gs before hval0 hW _ hcond hwt0 hL _ _
 have hval : ∀ (j : Nat) t v, Tryd.f4.params[j]? = some t → args[j]? = some v → Value.okWide Tryd.prog W .any base t v := hval0
 have hW' : DataW.Whole enc Tryd.prog Tryd.f4.params.toList Rows.argsOrderSpec.vars false W args.toList ds gs before := hW
 obtain ⟨p, q, hA0, hV, rfl, _, _⟩ := hW'
 have hA : DataW.TrodAll enc Tryd.prog W 0 (fun _ => true) true Tryd.f4.params.toList args.toList ds p := hA0
 have hwt : (DataW.weightsEach Tryd.prog (Tryd.f4.params.toList ++ Rows.argsOrderSpec.plain.varTypes Tryd.prog) (ds ++ gs)).all (· ≤ reachBytes) = true := hwt0
 rw [Tryd.params4] at hA hval hwt
 obtain ⟨v0, v1, v2, d0, d1, d2, p0, p1, p2, rfl, rfl, rfl, h0, h1, h2⟩ := trodAll_three hA
 obtain ⟨rfl, rfl⟩ := trodVars_none hV
 obtain ⟨a0, rfl, e0, _, wm0⟩ := open_int Tryd.underlying3 (hval 0 _ v0 rfl rfl) h0
 have b0 := ahh wm0
 obtain ⟨a1, rfl, e1, _, _⟩ := ChangeMaps.open_string Tryd.underlying9 (hval 1 _ v1 rfl rfl) h1
 have y1 : a1.data.toList.length ≤ reachBytes := sized_string hwt (j := 1) (t := 9) rfl (by rw [e1]; rfl)
 obtain ⟨a2, c2, w2, rfl, e2⟩ := ado (hval 2 _ v2 rfl rfl) h2
 obtain ⟨r2, r2b, r2c⟩ := act hwt (j := 2) (a := a2) (b := c2) (c := w2) rfl (by rw [e2]; rfl)
 have r1 : a1.data.toList.length ≤ 140737488351232 := y1
 refine (adf hL (fun te fre => adb te fre a0 a1.data.toList a2 c2 w2 r1 r2 r2b r2c)).mono fun e W' ⟨he, hb⟩ => ?_
 subst he
 exact ⟨_, rfl, afe ae8 rfl Tryd.underlying4 (by kernel_rfl) rfl hW rfl hb⟩
theorem aax : Rows.ArgsOrderSaid :=
 OpenClaim.holds_of_cond 4 Tryd.f4 rfl rfl rfl rfl rfl rfl rfl ⟨rfl, rfl, rfl, rfl, rfl⟩ rfl rfl rfl rfl rfl (by kernel_rfl) Tryd.func4 (by kernel_rfl)
  (of_decide_eq_true (by kernel_rfl)) (by unfold Func.isWrapper; rw [if_neg (of_decide_eq_false (by kernel_rfl))]; exact ⟨rfl, rfl⟩)
  (fun os started H enc _ F => by rw [OpenClaim.pre_eq_preRow]; exact aag os started H enc F)
theorem argsOrder_card_holds : Rows.ArgsOrderCardSaid :=
 Claim7.holds_tied_plain_at .later [] _ _ _ _ aax (fun _ h => by cases h) (by kernel_rfl) (fun _ h => by cases h) argsOrder_row_tie rfl ⟨rfl, rfl⟩ (by kernel_rfl) rfl
  (fun f fn hf hfn => by
   obtain rfl : f = 4 := Option.some.inj ((show Tryd.prog.funcNamed "loupe/loupelaw26.ArgsOrder" = some 4 by kernel_rfl).symm.trans hf) |>.symm
   obtain rfl : fn = Tryd.f4 := (Option.some.inj (Tryd.func4.symm.trans hfn)).symm
   refine ⟨by kernel_rfl, fun j t ht => ?_⟩
   rw [Tryd.params4] at ht
   have h3 : t = 3 ∨ t = 9 ∨ t = 37 := by simpa using Array.mem_of_getElem? ht
   rcases h3 with rfl | rfl | rfl
   ·exact (show Tryd.prog.wantsStandIn 3 = false by kernel_rfl)
   ·exact (show Tryd.prog.wantsStandIn 9 = false by kernel_rfl)
   ·exact (show Tryd.prog.wantsStandIn 37 = false by kernel_rfl))
  (by kernel_rfl)
end Go.Proofs.YtaaepdlajkdneaaDoor
