/-
  TokenThereAndBack returns true for every text, and leaves its argument as it was. No condition.
-/
import Derived.Test.YtiaafdjdppganaaRows
import Derived.Test.YtiaafdjdppganaaLiftT
import Derived.Test.YtiaafdjdppganaaTkB
namespace Go.Proofs.Ytiaafdjdppganaa
open Go Go.ChangeShapes Go.WideShapes Go.ChangeAt Go.RowKit

set_option maxRecDepth 100000 in
theorem tokenThereAndBack_lifted (os : Os) (started : os.Started) (H : Type) (enc : TypeId × Value → H) :
    ReturnsInHanded {} Try.checked os 8 .any (Rows.tokenThereAndBackSpec.pre6 enc Try.prog Try.f8 Rows.tokenThereAndBackRow.domain false) (Rows.tokenThereAndBackSpec.post enc Try.prog Try.f8 false true false false) := by
  refine returnsInHanded_of_change_sized (C := Try.checked) own_none started (by kernel_rfl) Try.func8
    (ChangeSpec.witness6 (enc := enc) (C := Try.checked) false ⟨#[], #[.string ByteArray.empty], []⟩ 8 (by kernel_rfl) (by kernel_rfl) (by kernel_rfl) (by kernel_rfl)) ?_
  intro W base args ds gs before hval0 hW _ _ _
  have hval : ∀ (j : Nat) t v, Try.f8.params[j]? = some t → args[j]? = some v → Value.okWide Try.prog W .any base t v := hval0
  have hW' := hW
  obtain ⟨p, q, hA0, hV, rfl, _, _⟩ := hW
  have hA : DataW.TrodAll enc Try.prog W 0 (fun _ => true) true Try.f8.params.toList args.toList ds p := hA0
  rw [Try.params8] at hA hval
  obtain ⟨v0, d0, rfl, rfl, h0⟩ := trodAll_one hA
  obtain ⟨rfl, rfl⟩ := trodVars_none hV
  obtain ⟨a0, rfl, _, _, b0⟩ := ChangeMaps.open_string Try.underlying9 (hval 0 _ v0 rfl rfl) h0
  refine (tokenThereAndBack_walk a0 W).mono fun e W' ⟨he, hb⟩ => ?_
  subst he
  exact ⟨_, rfl, law_post laid_out rfl Try.underlying4 (by kernel_rfl) rfl hW' rfl hb⟩

theorem tokenThereAndBack_holds : Rows.TokenThereAndBackSaid :=
  OpenClaim.holds_of_wide 8 Try.f8 rfl rfl rfl rfl rfl rfl rfl ⟨rfl, rfl, rfl, rfl, rfl⟩ rfl rfl rfl rfl rfl (by kernel_rfl) Try.func8 (by kernel_rfl)
    (of_decide_eq_true (by kernel_rfl)) (by unfold Func.isWrapper; rw [if_neg (of_decide_eq_false (by kernel_rfl))]; exact ⟨rfl, rfl⟩)
    (fun os started H enc _ => tokenThereAndBack_lifted os started H enc)

end Go.Proofs.Ytiaafdjdppganaa
