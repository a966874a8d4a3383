/-
  What the row's list of variables gives: the table of powers; a world in which the tables are laid.
-/
import Derived.Test.YtlfolgbaageknaaDoorCards
import Derived.Test.YtlfolgbaageknaaDoorTie
import Derived.Test.YtlfolgbaageknaaDoorLiftT
import Derived.Test.YtlfolgbaageknaaDoorTpL
import Derived.OpenShut
import Derived.Deep.DeepHandedRow
import Derived.Lib.LaidTab
namespace Go.Proofs.YtlfolgbaageknaaDoor
open Go Go.ChangeShapes Go.WideShapes Go.ChangeAt Go.RowKit

theorem laidMet_tail {P : Program} {x : String × DataW Unit} {r : List (String × DataW Unit)} {W : World} (h : laidMet P (x :: r) W) : laidMet P r W := by
  obtain ⟨ps, ⟨g, t, cs, fuel, p, q, _, _, _, _, hr, rfl⟩, hn, hc⟩ := h
  exact ⟨q, hr, (List.nodup_append.1 hn).2.1, fun b off hm => hc b off (List.mem_append.2 (.inr hm))⟩
theorem pow_type : (Tryd.prog.globals[1]?).map (·.type) = some 79 := by kernel_rfl
theorem pow_cells : Tryd.prog.cellsOf 79 = 20 := by kernel_rfl
theorem pow_cell1 : Tryd.prog.cellsOf 72 = 1 := by kernel_rfl
abbrev laids : List (String × DataW Unit) := [("math/bits.deBruijn32tab", Rows.laid_math_bits_deBruijn32tab), ("math/bits.deBruijn64tab", Rows.laid_math_bits_deBruijn64tab), ("internal/strconv.uint64pow10", Rows.laid_internal_strconv_uint64pow10)]
theorem laids_plain (W : World) : laidMetH Tryd.prog laids W = laidMet Tryd.prog laids W := by kernel_rfl
theorem pow_of_laid {W : World} (h : laidMetH Tryd.prog laids W) : ∃ te fre, W.heap[1]? = some (.cells powCells.toArray te fre) := by
  rw [laids_plain] at h
  have h2 : Lib.TabIs Tryd.prog W "internal/strconv.uint64pow10" .u64 Lib.pow10Tab :=
    Lib.tabIs_of_head (rest := []) pow_global pow_type Tryd.underlying79 Tryd.underlying72 pow_cell1 pow_cells (laidMet_tail (laidMet_tail h))
  unfold Lib.TabIs World.var? at h2
  rw [pow_global, pow_tab] at h2
  simp only [Option.bind_some] at h2
  split at h2
  · rename_i cs t fr hg
    obtain rfl := Option.some.inj h2
    exact ⟨t, fr, hg⟩
  · cases h2
noncomputable def layIn (g : Nat) (c : Array Value) (w : World) : World := { w with heap := w.heap.modify g fun
      | .cells _ t frozen => .cells c t frozen
      | o => o }
noncomputable def laidWorld (os : Os) : World :=
  layIn 2 #[.int .u8 0, .int .u8 1, .int .u8 28, .int .u8 2, .int .u8 29, .int .u8 14, .int .u8 24, .int .u8 3, .int .u8 30, .int .u8 22, .int .u8 20, .int .u8 15, .int .u8 25, .int .u8 17, .int .u8 4, .int .u8 8, .int .u8 31, .int .u8 27, .int .u8 13, .int .u8 23, .int .u8 21, .int .u8 19, .int .u8 16, .int .u8 7, .int .u8 26, .int .u8 12, .int .u8 18, .int .u8 6, .int .u8 11, .int .u8 5, .int .u8 10, .int .u8 9] (layIn 3 #[.int .u8 0, .int .u8 1, .int .u8 56, .int .u8 2, .int .u8 57, .int .u8 49, .int .u8 28, .int .u8 3, .int .u8 61, .int .u8 58, .int .u8 42, .int .u8 50, .int .u8 38, .int .u8 29, .int .u8 17, .int .u8 4, .int .u8 62, .int .u8 47, .int .u8 59, .int .u8 36, .int .u8 45, .int .u8 43, .int .u8 51, .int .u8 22, .int .u8 53, .int .u8 39, .int .u8 33, .int .u8 30, .int .u8 24, .int .u8 18, .int .u8 12, .int .u8 5, .int .u8 63, .int .u8 55, .int .u8 48, .int .u8 27, .int .u8 60, .int .u8 41, .int .u8 37, .int .u8 16, .int .u8 46, .int .u8 35, .int .u8 44, .int .u8 21, .int .u8 52, .int .u8 32, .int .u8 23, .int .u8 11, .int .u8 54, .int .u8 26, .int .u8 40, .int .u8 15, .int .u8 34, .int .u8 20, .int .u8 31, .int .u8 10, .int .u8 25, .int .u8 14, .int .u8 19, .int .u8 9, .int .u8 13, .int .u8 8, .int .u8 7, .int .u8 6] (layIn 1 powCells.toArray (World.holding Tryd.prog os ⟨#[], #[], []⟩)))
/-- A contract under the table is one of the elder form. -/
theorem does_under {f : FuncId} {vs : List Value} {v : Value} {W : World} (hL : laidMetH Tryd.prog laids W) (h : ∀ te fre, Does Tryd.prog f vs [(1, .cells powCells.toArray te fre)] [] (Ret v [])) :
    Calls Tryd.prog f vs.toArray W fun e W' => e = .returned v ∧ Below W.heap.size W W' := by
  obtain ⟨te, fre, he⟩ := pow_of_laid hL
  refine (h te fre W [] rfl List.nodup_nil (fun k hk => by cases hk) (fun p hp => by obtain rfl := List.mem_singleton.1 hp; exact ⟨he, fun hx => by cases hx⟩)).mono ?_
  rintro en w' ⟨H', hS, hh⟩
  rcases hS with ⟨r, rfl, hS⟩ | ⟨c, rfl, hS⟩
  · cases hS; exact ⟨rfl, hh.toBelow⟩
  · cases hS
section
variable {H : Type}
theorem bulk_lit (w : List UInt8) : Rows.uptoBulk (DataW.lit (H := H) (.string w)) = w.length + 1 := by simp [Rows.uptoBulk]
end
end Go.Proofs.YtlfolgbaageknaaDoor
