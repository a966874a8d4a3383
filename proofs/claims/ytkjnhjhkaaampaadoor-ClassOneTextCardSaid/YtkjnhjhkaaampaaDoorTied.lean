/-
  The world that the witness of a tied card lies in.
-/
import Derived.Test.YtkjnhjhkaaampaaDoorRows
import Derived.Test.YtkjnhjhkaaampaaDoorCards
import Derived.Test.YtkjnhjhkaaampaaDoorTie
import Derived.Test.YtkjnhjhkaaampaaDoorLift
import Derived.Test.YtkjnhjhkaaampaaDoorEsc
import Derived.Test.YtkjnhjhkaaampaaDoorLwR
namespace Go.Proofs.YtkjnhjhkaaampaaDoor
open Go Go.ChangeShapes Go.WideShapes Go.ChangeAt Go.RowKit

theorem laidWorld_met (os : Os) (args : Array Value) : laidMetH Tryd.prog escLaid ((laidWorld os).forCall (fun _ _ => 0) ⟨#[], args, []⟩).memory := by
  rw [laid_plain]
  exact ⟨_, ⟨0, 61, escCells, 8, [], [], by kernel_rfl, by kernel_rfl, by kernel_rfl, by kernel_rfl, rfl, rfl⟩, by decide, fun b off h => by
        have h' : MemPlace.cell b off ∈ [MemPlace.cell 0 0, .cell 0 1, .cell 0 2, .cell 0 3, .cell 0 4, .cell 0 5] := h
        have hb : b = 0 := by
          simp at h'
          omega
        subst hb
        refine ⟨⟨_, _, laidWorld_row os _⟩, fun u v hc => ?_⟩
        simp only [World.cell?, laidWorld_row os] at hc
        simp at h'
        rcases h' with rfl | rfl | rfl | rfl | rfl | rfl <;> simp [escCells] at hc⟩


/-- A contract of the calculus of walks under the table is one of the elder form. -/
theorem Does.pureE {f : FuncId} {vs : List Value} {v : Value} (h : ∀ te fre, Does Tryd.prog f vs (escTab te fre) [] (Ret v [])) : PureE f vs.toArray v := fun w ⟨te, fre, he⟩ => by
  refine (h te fre w [] rfl List.nodup_nil (fun k hk => by cases hk) (fun p hp => by obtain rfl := List.mem_singleton.1 hp; exact ⟨he, fun hx => by cases hx⟩)).mono ?_
  rintro en w' ⟨H', hS, hh⟩
  rcases hS with ⟨r, rfl, hS⟩ | ⟨c, rfl, hS⟩
  · cases hS; exact ⟨rfl, hh.toBelow⟩
  · cases hS
theorem reach63 {n : Nat} (h : n ≤ reachBytes) : n ≤ 140737488351232 := h
end Go.Proofs.YtkjnhjhkaaampaaDoor
