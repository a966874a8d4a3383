/-
  ClassAtomsPart returns true for all lists of bulk at most 1048576 (the second form), and leaves its arguments as they were.
-/
import Derived.Test.YtkjnhjhkaaampaaAtU
namespace Go.Proofs.Ytkjnhjhkaaampaa
open Go Go.ChangeShapes Go.WideShapes Go.ChangeAt Go.RowKit

set_option maxRecDepth 100000 in
theorem classAtomsPartUpto_lifted (os : Os) (started : os.Started) (H : Type) (enc : TypeId × Value → H) (F : Stop.Interp) :
    ReturnsInHanded {} Try.checked os 8 .any ((Rows.OpenSpec.upto Rows.classAtomsPartSpec).pre6 enc Try.prog Try.f8 Rows.classAtomsPartUptoRow.domain false) (((Rows.OpenSpec.upto Rows.classAtomsPartSpec).at F).post enc Try.prog Try.f8 false true false false) := by
  refine returnsInHanded_of_cond (C := Try.checked) (s := Rows.OpenSpec.upto Rows.classAtomsPartSpec) (k := Rows.uptoSmall) rfl own_none started (by kernel_rfl) Try.func8
    (OpenSpec.witness (enc := enc) (C := Try.checked) (s := Rows.OpenSpec.upto Rows.classAtomsPartSpec) (k := Rows.uptoSmall) rfl false ⟨#[], #[.slice none 0 0], []⟩ 8 (by kernel_rfl) (by kernel_rfl) (by kernel_rfl)
      (x := ([.nil], [], [])) (by kernel_rfl) rfl (by kernel_rfl)) ?_
  intro W base args ds gs before hval0 hW _ hk _
  have hval : ∀ (j : Nat) t v, Try.f8.params[j]? = some t → args[j]? = some v → Value.okWide Try.prog W .any base t v := hval0
  have hW' := hW
  obtain ⟨p, q, hA0, hV, rfl, _, _⟩ := hW
  have hA : DataW.TrodAll enc Try.prog W 0 (fun _ => true) true Try.f8.params.toList args.toList ds p := hA0
  rw [Try.params8] at hA hval
  obtain ⟨v0, d0, rfl, rfl, h0⟩ := trodAll_one hA
  obtain ⟨rfl, rfl⟩ := trodVars_none hV
  obtain ⟨R0, l0, hR0, hRW0, hd0⟩ := open_in Try.underlying41 (show Try.prog.cellsOf 23 = 4 by kernel_rfl) (by decide) wl_len (G := fun _ _ => True) (fun n cs y hy => words_el n cs y hy) (hval 0 _ v0 rfl rfl) h0
  have hk2 := of_decide_eq_true hk
  simp only [List.append_nil, Rows.uptoBulkAll] at hk2
  have z0 := list_bulk hd0
  refine (part_does v0 l0 (by omega) R0 hR0 W [] rfl List.nodup_nil (fun k hk => by cases hk) (fun q hq => And.intro (by
      rcases List.mem_append.1 hq with hq | hq
      · exact hRW0 q hq
      · cases hq) (by simp))).mono ?_
  rintro e W' ⟨H', hS, hp⟩
  rcases hS with ⟨r, rfl, hS⟩ | ⟨c, rfl, hS⟩
  · cases hS
    exact ⟨_, rfl, law_post laid_out rfl Try.underlying4 (by kernel_rfl) rfl hW' rfl hp.toBelow⟩
  · cases hS

theorem classAtomsPartUpto_holds : Rows.ClassAtomsPartUptoSaid :=
  OpenClaim.holds_of_cond 8 Try.f8 rfl rfl rfl rfl rfl rfl rfl ⟨rfl, rfl, rfl, rfl, rfl⟩ rfl rfl rfl rfl rfl (by kernel_rfl) Try.func8 (by kernel_rfl)
    (of_decide_eq_true (by kernel_rfl)) (by unfold Func.isWrapper; rw [if_neg (of_decide_eq_false (by kernel_rfl))]; exact ⟨rfl, rfl⟩)
    (fun os started H enc _ F => classAtomsPartUpto_lifted os started H enc F)

end Go.Proofs.Ytkjnhjhkaaampaa
