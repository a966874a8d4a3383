/-
  The contracts of the functions on sets of bytes, as the calculus of walks takes them.
-/
import Derived.Test.YtkjnhjhkaaampaaDoorGwx
import Derived.Test.YtkjnhjhkaaampaaDoorClass2
import Derived.Test.YtkjnhjhkaaampaaDoorRefA
import Derived.Test.YtkjnhjhkaaampaaDoorShelf
namespace Go.Proofs.YtkjnhjhkaaampaaDoor
open Go Go.RowKit

/-- The four words of a set, as a list. -/
def wl (s : CS) : List Value := [.int .u64 (wd s 0), .int .u64 (wd s 1), .int .u64 (wd s 2), .int .u64 (wd s 3)]
theorem wl_words (s : CS) : (wl s).toArray = words s := rfl

theorem nat_of {x : Int} (h : 0 ≤ x ∧ x < 256) : ∃ n : Nat, n < 256 ∧ x = (n : Int) := ⟨x.toNat, by omega, by omega⟩
theorem span_does (lo hi : Int) (h : (0 ≤ lo ∧ lo < 256) ∧ (0 ≤ hi ∧ hi < 256)) : Does Tryd.prog 32 [.int .u8 lo, .int .u8 hi] [] [] (Ret (.agg (wl (spanS lo.toNat hi.toNat)).toArray) []) := by
  obtain ⟨n, hn, rfl⟩ := nat_of h.1
  obtain ⟨m, hm, rfl⟩ := nat_of h.2
  exact Does.ofPure (span_pure n m hn hm)
theorem not_does (s : CS) : Does Tryd.prog 17 [.agg (wl s).toArray] [] [] (Ret (.agg (wl (~~~ s)).toArray) []) := Does.ofPure (not_pure s)
theorem union_does (s t : CS) : Does Tryd.prog 37 [.agg (wl s).toArray, .agg (wl t).toArray] [] [] (Ret (.agg (wl (s ||| t)).toArray) []) := Does.ofPure (union_pure s t)
theorem of_does (l : List UInt8) (h : l.length ≤ maxLen) : Does Tryd.prog 29 [st l] [] [] (Ret (.agg (wl (ofS l)).toArray) []) := by
  have := of_pure ⟨l.toArray⟩ (by simpa [ByteArray.size] using h)
  exact Does.ofPure this
theorem indexByte_does (l : List UInt8) (c : Int) : Does Tryd.prog 27 [st l, .int .u8 c] [] [] (Ret (.int .i64 (Lib.indexByte l c.toNat.toUInt8)) []) :=
  Does.ofPure fun w => (Tryd.strings_IndexByte ⟨l.toArray⟩ c w).mono fun _ _ ⟨h1, h2⟩ => by subst h2; exact ⟨h1, Below.refl _ _⟩
theorem special_does (c : Int) (h : 0 ≤ c ∧ c < 256) : Does Tryd.prog 21 [.int .u8 c] [] [] (Ret (.bool (spL.contains c.toNat.toUInt8)) []) := by
  obtain ⟨n, hn, rfl⟩ := nat_of h
  exact Does.ofPure (special_ref n hn)
theorem inner_does (c : Int) (h : 0 ≤ c ∧ c < 256) : Does Tryd.prog 22 [.int .u8 c] [] [] (Ret (.bool (inL.contains c.toNat.toUInt8)) []) := by
  obtain ⟨n, hn, rfl⟩ := nat_of h
  exact Does.ofPure (inner_ref n hn)
/-- The value that a fault ends the reading with. -/
def faultV (code place : Int) : Value := .iface 34 (.agg #[.int .i64 code, .int .i64 place, st []])
end Go.Proofs.YtkjnhjhkaaampaaDoor
