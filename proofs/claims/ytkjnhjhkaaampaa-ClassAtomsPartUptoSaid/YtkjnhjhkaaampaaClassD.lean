/-
  The contracts of the functions on sets of bytes, as the calculus of walks takes them.
-/
import Derived.Test.YtkjnhjhkaaampaaGwx
import Derived.Test.YtkjnhjhkaaampaaClass2
namespace Go.Proofs.Ytkjnhjhkaaampaa
open Go Go.RowKit

/-- The four words of a set, as a list. -/
def wl (s : CS) : List Value := [.int .u64 (wd s 0), .int .u64 (wd s 1), .int .u64 (wd s 2), .int .u64 (wd s 3)]
theorem wl_words (s : CS) : (wl s).toArray = words s := rfl

theorem nat_of {x : Int} (h : 0 ≤ x ∧ x < 256) : ∃ n : Nat, n < 256 ∧ x = (n : Int) := ⟨x.toNat, by omega, by omega⟩
theorem span_does (lo hi : Int) (h : (0 ≤ lo ∧ lo < 256) ∧ (0 ≤ hi ∧ hi < 256)) : Does Try.prog 12 [.int .u8 lo, .int .u8 hi] [] [] (Ret (.agg (wl (spanS lo.toNat hi.toNat)).toArray) []) := by
  obtain ⟨n, hn, rfl⟩ := nat_of h.1
  obtain ⟨m, hm, rfl⟩ := nat_of h.2
  exact Does.ofPure (span_pure n m hn hm)
theorem not_does (s : CS) : Does Try.prog 19 [.agg (wl s).toArray] [] [] (Ret (.agg (wl (~~~ s)).toArray) []) := Does.ofPure (not_pure s)
theorem union_does (s t : CS) : Does Try.prog 16 [.agg (wl s).toArray, .agg (wl t).toArray] [] [] (Ret (.agg (wl (s ||| t)).toArray) []) := Does.ofPure (union_pure s t)
theorem of_does (l : List UInt8) (h : l.length ≤ maxLen) : Does Try.prog 11 [st l] [] [] (Ret (.agg (wl (ofS l)).toArray) []) := by
  have := of_pure ⟨l.toArray⟩ (by simpa [ByteArray.size] using h)
  exact Does.ofPure this
theorem has_does (s : CS) (b : Int) (h : 0 ≤ b ∧ b < 256) : Does Try.prog 13 [.agg (wl s).toArray, .int .u8 b] [] [] (Ret (.bool (s.getLsbD b.toNat)) []) := Does.ofPure (has_pure s b h.1 h.2)
theorem meet_does (s t : CS) : Does Try.prog 17 [.agg (wl s).toArray, .agg (wl t).toArray] [] [] (Ret (.agg (wl (s &&& t)).toArray) []) := Does.ofPure (meet_pure s t)
theorem minus_does (s t : CS) : Does Try.prog 18 [.agg (wl s).toArray, .agg (wl t).toArray] [] [] (Ret (.agg (wl (s &&& ~~~ t)).toArray) []) := Does.ofPure (minus_pure s t)
end Go.Proofs.Ytkjnhjhkaaampaa
