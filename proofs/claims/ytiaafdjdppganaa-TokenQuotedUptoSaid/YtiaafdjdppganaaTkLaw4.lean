/-
  TokenQuoted returns true for every text of bulk at most 1048576 (the second form), and leaves its argument as it was.
-/
import Derived.Test.YtiaafdjdppganaaRows
import Derived.Test.YtiaafdjdppganaaLiftT
import Derived.Test.YtiaafdjdppganaaQuL
import Derived.JoinedCond
import Derived.OpenShut
import Derived.Deep.CondSized
namespace Go.Proofs.Ytiaafdjdppganaa
open Go Go.ChangeShapes Go.WideShapes Go.ChangeAt Go.RowKit

set_option maxRecDepth 100000 in
theorem tokenQuotedUpto_lifted (os : Os) (started : os.Started) (H : Type) (enc : TypeId × Value → H) (F : Stop.Interp) :
    ReturnsInHanded {} Try.checked os 6 .any ((Rows.OpenSpec.upto Rows.tokenQuotedSpec).pre6 enc Try.prog Try.f6 Rows.tokenQuotedUptoRow.domain false) (((Rows.OpenSpec.upto Rows.tokenQuotedSpec).at F).post enc Try.prog Try.f6 false true false false) := by
  refine returnsInHanded_of_cond (C := Try.checked) (s := Rows.OpenSpec.upto Rows.tokenQuotedSpec) (k := Rows.uptoSmall) rfl own_none started (by kernel_rfl) Try.func6
    (OpenSpec.witness (enc := enc) (C := Try.checked) (s := Rows.OpenSpec.upto Rows.tokenQuotedSpec) (k := Rows.uptoSmall) rfl false ⟨#[], #[.string ByteArray.empty], []⟩ 8 (by kernel_rfl) (by kernel_rfl) (by kernel_rfl)
      (x := ([.lit (.string [])], [], [])) (by kernel_rfl) rfl (by kernel_rfl)) ?_
  intro W base args ds gs before hval0 hW _ hk _
  have hval : ∀ (j : Nat) t v, Try.f6.params[j]? = some t → args[j]? = some v → Value.okWide Try.prog W .any base t v := hval0
  have hW' := hW
  obtain ⟨p, q, hA0, hV, rfl, _, _⟩ := hW
  have hA : DataW.TrodAll enc Try.prog W 0 (fun _ => true) true Try.f6.params.toList args.toList ds p := hA0
  rw [Try.params6] at hA hval
  obtain ⟨v0, d0, rfl, rfl, h0⟩ := trodAll_one hA
  obtain ⟨rfl, rfl⟩ := trodVars_none hV
  obtain ⟨a0, rfl, e0, _, _⟩ := ChangeMaps.open_string Try.underlying9 (hval 0 _ v0 rfl rfl) h0
  have hlen : a0.data.toList.length ≤ 1048576 := by
    have h := of_decide_eq_true hk
    rw [e0] at h
    simp only [List.append_nil, Rows.uptoBulkAll, Rows.uptoBulk] at h
    omega
  refine (tokenQuoted_walk a0 hlen W).mono fun e W' ⟨he, hb⟩ => ?_
  subst he
  exact ⟨_, rfl, law_post laid_out rfl Try.underlying4 (by kernel_rfl) rfl hW' rfl hb⟩

theorem tokenQuotedUpto_holds : Rows.TokenQuotedUptoSaid :=
  OpenClaim.holds_of_cond 6 Try.f6 rfl rfl rfl rfl rfl rfl rfl ⟨rfl, rfl, rfl, rfl, rfl⟩ rfl rfl rfl rfl rfl (by kernel_rfl) Try.func6 (by kernel_rfl)
    (of_decide_eq_true (by kernel_rfl)) (by unfold Func.isWrapper; rw [if_neg (of_decide_eq_false (by kernel_rfl))]; exact ⟨rfl, rfl⟩)
    (fun os started H enc _ F => tokenQuotedUpto_lifted os started H enc F)

end Go.Proofs.Ytiaafdjdppganaa
