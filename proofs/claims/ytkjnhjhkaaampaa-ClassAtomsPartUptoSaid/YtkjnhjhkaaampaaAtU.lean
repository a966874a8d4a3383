/-
  What the laws on lists of sets have in common: a list argument opened; the bulk.
-/
import Derived.Test.YtkjnhjhkaaampaaRows
import Derived.Test.YtkjnhjhkaaampaaLift
import Derived.Test.YtkjnhjhkaaampaaOpen
import Derived.Test.YtkjnhjhkaaampaaAtL
import Derived.JoinedCond
import Derived.OpenShut
import Derived.Deep.CondSized
namespace Go.Proofs.Ytkjnhjhkaaampaa
open Go Go.ChangeShapes Go.WideShapes Go.ChangeAt Go.RowKit

section
variable {H : Type} {enc : TypeId × Value → H} {W : World} {base : Nat} {spare : Nat → Bool} {held : Bool}
theorem words_el (n : Nat) (cs : List Value) (y : DataW H × List MemPlace) (h : DataW.trod enc Try.prog W base spare held n 23 cs = some y) : ∃ s : CS, cs = wl s ∧ True := by
  have hu : Try.prog.underlying 23 = some (.array 4 22) := Try.underlying23
  have hc : Try.prog.cellsOf 22 = 1 := by kernel_rfl
  obtain ⟨xs, m, _, _, hl0, _, _⟩ := DataW.trod_array hu h
  have hl : cs.length = 4 := hl0.trans (by kernel_rfl)
  match cs, hl with
  | [c0, c1, c2, c3], _ =>
    obtain ⟨y0, y1, y2, y3, n, _, t0, t1, t2, t3⟩ := trod_array4 hu hc h
    obtain ⟨n0, q0, _, w0⟩ := DataW.trod_int Try.underlying22 t0
    obtain ⟨n1, q1, _, w1⟩ := DataW.trod_int Try.underlying22 t1
    obtain ⟨n2, q2, _, w2⟩ := DataW.trod_int Try.underlying22 t2
    obtain ⟨n3, q3, _, w3⟩ := DataW.trod_int Try.underlying22 t3
    simp only [List.cons.injEq, and_true] at q0 q1 q2 q3
    subst q0 q1 q2 q3
    have bd : ∀ n : Int, (Lit.int .u64 n).wf = true → Wd n := fun n h => by
      have h1 : IntKind.u64.min = 0 := rfl
      have h2 : IntKind.u64.max = 18446744073709551615 := rfl
      simp only [Lit.wf, Bool.and_eq_true, decide_eq_true_eq] at h
      exact ⟨by omega, by omega⟩
    obtain ⟨s, hs⟩ := ex_words n0 n1 n2 n3 ⟨bd _ w0, bd _ w1, bd _ w2, bd _ w3⟩
    exact ⟨s, hs.symm, trivial⟩
theorem bulk_one (d : DataW H) : 1 ≤ Rows.uptoBulk d := by
  cases d with
  | lit l => cases l <;> simp [Rows.uptoBulk]
  | nil => simp [Rows.uptoBulk]
  | ptr d => simp [Rows.uptoBulk]
  | slice elems spare => simp [Rows.uptoBulk]
  | agg parts => simp [Rows.uptoBulk]
  | iface t d => simp [Rows.uptoBulk]
  | map entries => simp [Rows.uptoBulk]
  | held h => simp [Rows.uptoBulk]
theorem bulk_len (l : List (DataW H)) : l.length ≤ Rows.uptoBulkAll l := by
  induction l with
  | nil => simp [Rows.uptoBulkAll]
  | cons x r ih => have := bulk_one x; simp only [Rows.uptoBulkAll, List.length_cons]; omega
/-- A list's length by its bulk. -/
theorem list_bulk {d : DataW H} {l : List CS} (hd : d = .nil ∧ l = [] ∨ ∃ es sp, d = .slice es sp ∧ es.length = l.length ∧ ∀ (i : Nat) (x : CS), l[i]? = some x → ∃ y, es[i]? = some y ∧ True) : l.length ≤ Rows.uptoBulk d := by
  rcases hd with ⟨_, rfl⟩ | ⟨es, sp, rfl, hel, _⟩
  · simp
  · simp only [Rows.uptoBulk]
    have := bulk_len es
    omega
end
end Go.Proofs.Ytkjnhjhkaaampaa
