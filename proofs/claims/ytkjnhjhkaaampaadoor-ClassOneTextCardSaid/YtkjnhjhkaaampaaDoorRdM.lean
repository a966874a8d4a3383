/-
  What the functions that read a set's text compute, in plain Lean; the first contracts.
-/
import Derived.Test.YtkjnhjhkaaampaaDoorRdV
namespace Go.Proofs.YtkjnhjhkaaampaaDoor
open Go Go.RowKit

def peekB (t : List UInt8) (a : Int) : Int := if a < t.length then ((t.getD a.toNat 0).toNat : Int) else 0
def peekOk (t : List UInt8) (a : Int) : Bool := decide (a < t.length)
def refHex (c : Int) : Int := if 48 ≤ c ∧ c ≤ 57 then c - 48 else if 97 ≤ c ∧ c ≤ 102 then c - 87 else -1

theorem refhex_does (c : Int) (h : 0 ≤ c ∧ c < 256) : Does Tryd.prog 33 [.int .u8 c] [] [] (Ret (.int .i64 (refHex c)) []) := by
  refine (refhex_wp c (fun r => r = refHex c) ?_).weak ?_
  · unfold refhex_vc refHex
    by_cases h1 : 48 ≤ c ∧ c ≤ 57
    · rw [if_pos (by simpa using h1), if_pos h1, IntWalk.u8_in _ (by omega)]; exact ⟨⟨by omega, by omega⟩, rfl⟩
    · rw [if_neg (by simpa using h1), if_neg h1]
      by_cases h2 : 97 ≤ c ∧ c ≤ 102
      · rw [if_pos (by simpa using h2), if_pos h2, IntWalk.u8_in _ (by omega)]; exact ⟨⟨by omega, by omega⟩, ⟨by omega, by omega⟩, by omega⟩
      · rw [if_neg (by simpa using h2), if_neg h2]
  · rintro o (⟨v, rfl, rfl⟩ | h)
    · rfl
    · exact h.elim
theorem peek_does (b : Nat) (t : List UInt8) (a : Int) (h : 0 ≤ a) : Does Tryd.prog 35 [.pointer (some ⟨b, 0, none⟩)] [(b, .cells [st t, .int .i64 a].toArray 55 (0, 0))] [] (Ret (.tuple #[.int .u8 (peekB t a), .bool (peekOk t a)]) []) := by
  refine (peek_wp b t a (fun r o => r = peekB t a ∧ o = peekOk t a) ?_).weak ?_
  · unfold peek_vc peekB peekOk
    by_cases hlt : a < t.length <;> simp [hlt, h]
  · rintro o (⟨v, v2, ⟨rfl, rfl⟩, rfl⟩ | h)
    · rfl
    · exact h.elim
theorem fail_does (b : Nat) (p : Int) : Does Tryd.prog 36 [.pointer (some ⟨b, 0, none⟩), .int .i64 p] [] [] (fun o => o = .pan [{ v := faultV 10 p, recovered := false }] []) := by
  refine (fail_wp _ p False (fun v => v = faultV 10 p) rfl).weak ?_
  rintro o (⟨h, _⟩ | ⟨v, rfl, rfl⟩)
  · exact h.elim
  · rfl

/-- A digit of a stroke's number. -/
def hexM (t : List UInt8) (a : Int) : Except Int (Int × Int) :=
  if a < t.length ∧ 0 ≤ refHex (peekB t a) then .ok (refHex (peekB t a), a + 1) else .error a
/-- What stands behind a stroke. -/
def escM (t : List UInt8) (a : Int) : Except Int (Int × Int) :=
  if a < t.length then
    let c := peekB t a
    if c = 110 then .ok (10, a + 1)
    else if c = 114 then .ok (13, a + 1)
    else if c = 116 then .ok (9, a + 1)
    else if c = 120 then match hexM t (a + 1) with
      | .ok (hi, p) => match hexM t p with
        | .ok (lo, q) => .ok (16 * hi + lo, q)
        | .error e => .error e
      | .error e => .error e
    else if c < 32 ∨ 126 < c ∨ (48 ≤ c ∧ c ≤ 57) ∨ (97 ≤ c ∧ c ≤ 122) ∨ (65 ≤ c ∧ c ≤ 90) then .error a
    else .ok (c, a + 1)
  else .error a
def oneM (t : List UInt8) (a : Int) (bar : List UInt8) : Except Int (Int × Int) :=
  if a < t.length then
    let c := peekB t a
    if c = 92 then escM t (a + 1)
    else if c < 32 ∨ 126 < c ∨ bar.contains c.toNat.toUInt8 = true then .error a
    else .ok (c, a + 1)
  else .error a
end Go.Proofs.YtkjnhjhkaaampaaDoor
