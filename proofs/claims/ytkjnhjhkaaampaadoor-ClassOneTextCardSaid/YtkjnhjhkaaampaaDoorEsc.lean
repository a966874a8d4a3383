/-
  From the row's condition on the laid variable to the table of letters in the heap.
-/
import Derived.Test.YtkjnhjhkaaampaaDoorRows
import Derived.Test.YtkjnhjhkaaampaaDoorText
import Derived.ChangeSame
import Derived.ChangeVars
import Derived.JoinedOf
import Derived.RowKit
namespace Go.Proofs.YtkjnhjhkaaampaaDoor
open Go Go.ChangeShapes Go.WideShapes Go.RowKit

abbrev escLaid : List (String × DataW Unit) := [("loupe/class.escapes", Rows.laid_loupe_class_escapes)]
theorem esc_global : Tryd.prog.globalNamed "loupe/class.escapes" = some 0 := by kernel_rfl
theorem esc_type : (Tryd.prog.globals[0]?).map (·.type) = some 61 := by kernel_rfl
theorem laid_plain (W : World) : laidMetH Tryd.prog escLaid W = laidMet Tryd.prog escLaid W := by kernel_rfl

theorem int_of_trod {H : Type} {enc : TypeId × Value → H} {P : Program} {w : World} {base : Nat} {sp : Nat → Bool} {held : Bool} {fuel : Nat} {t : TypeId} {k : IntKind} {c : Value} {y : DataW H × List MemPlace}
    (ht : P.underlying t = some (.int k)) (h : DataW.trod enc P w base sp held fuel t [c] = some y) : ∃ n, c = .int k n ∧ y = (.lit (.int k n), []) := by
  cases fuel with
  | zero => simp [DataW.trod] at h
  | succ fuel =>
    cases c <;> simp [DataW.trod, ht] at h
    rename_i k' n
    obtain ⟨⟨rfl, _⟩, rfl⟩ := h
    exact ⟨n, rfl, rfl⟩
theorem cells3 : Tryd.prog.cellsOf 61 = 6 := by kernel_rfl
theorem cells2 : Tryd.prog.cellsOf 60 = 2 := by kernel_rfl

theorem cells1 : Tryd.prog.cellsOf 5 = 1 := by kernel_rfl
theorem pair_of_trod {W : World} {fuel : Nat} {a b : Value} {y : DataW Unit × List MemPlace}
    (h : DataW.trod (fun _ => ()) Tryd.prog W 0 (fun _ => true) false fuel 60 [a, b] = some y) : ∃ n m, a = .int .u8 n ∧ b = .int .u8 m ∧ y = (.agg [.lit (.int .u8 n), .lit (.int .u8 m)], []) := by
  cases fuel with
  | zero => simp [DataW.trod] at h
  | succ fuel =>
    simp only [DataW.trod, Tryd.underlying60] at h
    rw [if_pos (by rw [cells2]; rfl)] at h
    simp only [Option.map_eq_some_iff, List.mapM_cons, List.mapM_nil, Option.bind_eq_bind, Option.bind_eq_some_iff, Option.pure_def, Option.some.injEq, cells1] at h
    obtain ⟨xs, ⟨y0, h0, _, ⟨y1, h1, _, rfl, rfl⟩, rfl⟩, hx⟩ := h
    obtain ⟨n, rfl, rfl⟩ := int_of_trod Tryd.underlying5 h0
    obtain ⟨m, rfl, rfl⟩ := int_of_trod Tryd.underlying5 h1
    exact ⟨n, m, rfl, rfl, hx.symm⟩

theorem cells_of_laid {W : World} (h : laidMet Tryd.prog escLaid W) : W.var? Tryd.prog "loupe/class.escapes" = some escCells := by
  obtain ⟨ps, ⟨g, t, cs, fuel, p, q, hg, ht, hvar, hd, _, _⟩, _⟩ := h
  obtain rfl := Option.some.inj (esc_global.symm.trans hg)
  obtain rfl := Option.some.inj (esc_type.symm.trans ht)
  rw [hvar]
  congr 1
  obtain ⟨l⟩ := cs
  cases fuel with
  | zero => simp [DataW.trod] at hd
  | succ fuel =>
    simp only [DataW.trod, Tryd.underlying61, cells3, cells2] at hd
    split at hd
    · rename_i hl
      obtain ⟨c0, c1, c2, c3, c4, c5, rfl⟩ : ∃ c0 c1 c2 c3 c4 c5, l = [c0, c1, c2, c3, c4, c5] := by
        match l, hl with
        | [a, b, c, d, e, f], _ => exact ⟨a, b, c, d, e, f, rfl⟩
      have e : List.range 3 = [0, 1, 2] := rfl
      rw [e] at hd
      simp only [Option.map_eq_some_iff, List.mapM_cons, List.mapM_nil, Option.bind_eq_bind, Option.bind_eq_some_iff, Option.pure_def, Option.some.injEq] at hd
      obtain ⟨xs, ⟨y0, h0, _, ⟨y1, h1, _, ⟨y2, h2, _, rfl, rfl⟩, rfl⟩, rfl⟩, hx⟩ := hd
      obtain ⟨n0, m0, rfl, rfl, rfl⟩ := pair_of_trod h0
      obtain ⟨n1, m1, rfl, rfl, rfl⟩ := pair_of_trod h1
      obtain ⟨n2, m2, rfl, rfl, rfl⟩ := pair_of_trod h2
      simp [Rows.laid_loupe_class_escapes] at hx
      obtain ⟨⟨⟨rfl, rfl⟩, ⟨rfl, rfl⟩, rfl, rfl⟩, _⟩ := hx
      rfl
    · cases hd

theorem esc_of_laid {W : World} (h : laidMetH Tryd.prog escLaid W) : Esc W := by
  rw [laid_plain] at h
  have hc := cells_of_laid h
  unfold World.var? at hc
  rw [esc_global] at hc
  simp only [Option.bind_some] at hc
  split at hc
  · rename_i cs t fr hg
    obtain rfl := Option.some.inj hc
    exact ⟨t, fr, hg⟩
  · cases hc

noncomputable def laidWorld (os : Os) : World :=
  { World.holding Tryd.prog os ⟨#[], #[], []⟩ with heap := (World.holding Tryd.prog os ⟨#[], #[], []⟩).heap.modify 0 fun
      | .cells _ t frozen => .cells escCells t frozen
      | o => o }
theorem laidWorld_row (os : Os) (args : Array Value) : ((laidWorld os).forCall (fun _ _ => 0) ⟨#[], args, []⟩).memory.heap[0]? = some (.cells escCells 61 (0, 0)) := by kernel_rfl
abbrev escH {H : Type} : DataW H := Rows.laid_loupe_class_escapes
theorem reads_esc {H : Type} (enc : TypeId × Value → H) (W : World) (sp : Nat → Bool) : DataW.trod enc Tryd.prog W 0 sp true 4 61 escCells.toList = some (escH, []) := by kernel_rfl
end Go.Proofs.YtkjnhjhkaaampaaDoor
