/-
  ClassMakes returns true for every text and every two bytes, and leaves its arguments as they were. No condition.
-/
import Derived.Test.YtkjnhjhkaaampaaRows
import Derived.Test.YtkjnhjhkaaampaaLift
import Derived.Test.YtkjnhjhkaaampaaMakes
namespace Go.Proofs.Ytkjnhjhkaaampaa
open Go Go.ChangeShapes Go.WideShapes Go.ChangeAt Go.RowKit

set_option maxRecDepth 100000 in
theorem classMakes_lifted (os : Os) (started : os.Started) (H : Type) (enc : TypeId × Value → H) :
    ReturnsInHanded {} Try.checked os 4 .any (Rows.classMakesSpec.pre6 enc Try.prog Try.f4 Rows.classMakesRow.domain false) (Rows.classMakesSpec.post enc Try.prog Try.f4 false true false false) := by
  refine returnsInHanded_of_change_sized (C := Try.checked) own_none started (by kernel_rfl) Try.func4
    (ChangeSpec.witness6 (enc := enc) (C := Try.checked) false ⟨#[], #[.string ByteArray.empty, .int .u8 0, .int .u8 0], []⟩ 8 (by kernel_rfl) (by kernel_rfl) (by kernel_rfl) (by kernel_rfl)) ?_
  intro W base args ds gs before hval0 hW _ _ _
  have hval : ∀ (j : Nat) t v, Try.f4.params[j]? = some t → args[j]? = some v → Value.okWide Try.prog W .any base t v := hval0
  have hW' := hW
  obtain ⟨p, q, hA0, hV, rfl, _, _⟩ := hW
  have hA : DataW.TrodAll enc Try.prog W 0 (fun _ => true) true Try.f4.params.toList args.toList ds p := hA0
  rw [Try.params4] at hA hval
  obtain ⟨v0, v1, v2, d0, d1, d2, p0, p1, p2, rfl, rfl, rfl, h0, h1, h2⟩ := trodAll_three hA
  obtain ⟨rfl, rfl⟩ := trodVars_none hV
  obtain ⟨a0, rfl, _, _, b0⟩ := ChangeMaps.open_string Try.underlying9 (hval 0 _ v0 rfl rfl) h0
  obtain ⟨n1, rfl, _, _, wm1⟩ := open_int Try.underlying5 (hval 1 _ v1 rfl rfl) h1
  obtain ⟨a1, rfl, b1⟩ := byte_bd wm1
  obtain ⟨n2, rfl, _, _, wm2⟩ := open_int Try.underlying5 (hval 2 _ v2 rfl rfl) h2
  obtain ⟨a2, rfl, b2⟩ := byte_bd wm2
  refine (makes_walk a0 b0 a1 a2 b1 b2 W).mono fun e W' ⟨he, hb⟩ => ?_
  subst he
  exact ⟨_, rfl, law_post laid_out rfl Try.underlying4 (by kernel_rfl) rfl hW' rfl hb⟩

theorem classMakes_holds : Rows.ClassMakesSaid :=
  OpenClaim.holds_of_wide 4 Try.f4 rfl rfl rfl rfl rfl rfl rfl ⟨rfl, rfl, rfl, rfl, rfl⟩ rfl rfl rfl rfl rfl (by kernel_rfl) Try.func4 (by kernel_rfl)
    (of_decide_eq_true (by kernel_rfl)) (by unfold Func.isWrapper; rw [if_neg (of_decide_eq_false (by kernel_rfl))]; exact ⟨rfl, rfl⟩)
    (fun os started H enc _ => classMakes_lifted os started H enc)

end Go.Proofs.Ytkjnhjhkaaampaa
