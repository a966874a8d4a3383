/-
  Lists of sets as memory holds them.
-/
import Derived.Test.YtkjnhjhkaaampaaGwl
import Derived.Test.YtkjnhjhkaaampaaClassD
namespace Go.Proofs.Ytkjnhjhkaaampaa
open Go Go.RowKit

theorem wl_len (s : CS) : (wl s).length = 4 := rfl
theorem wl_at {s : CS} {k : Nat} (h : k < 4) : (wl s)[k]? = some (Value.int .u64 (wd s k)) := by
  match k, h with
  | 0, _ => rfl
  | 1, _ => rfl
  | 2, _ => rfl
  | 3, _ => rfl
theorem wl_one (s : CS) : (wl s).all (·.oneCell') = true := rfl
/-- 256 truth values. -/
def rfC (s : CS) : List Value := arr 256 (fun j => Value.bool (BitVec.getLsbD s j))
theorem rfC_len (s : CS) : (rfC s).length = 256 := arr_length _ _
theorem rfC_one (s : CS) : (rfC s).all (·.oneCell') = true := arr_one _ _ (fun _ => rfl)
def intC (n : Int) : List Value := [.int .i64 n]
theorem intC_len (n : Int) : (intC n).length = 1 := rfl
theorem rfC_zero : arr 256 (fun _ => Value.bool false) = [cs0].flatMap rfC := by
  rw [List.flatMap_singleton]
  unfold rfC arr
  refine List.map_congr_left fun j _ => ?_
  simp [cs0]
theorem rfC_mk (f : Nat → Bool) : arr 256 (fun j => Value.bool (f j)) = [mkS f].flatMap rfC := by
  rw [List.flatMap_singleton]
  unfold rfC arr
  refine List.map_congr_left fun j hj => ?_
  rw [mkS_bit _ _ (by simpa using hj)]
def setB (s : CS) (b : Nat) : CS := mkS fun i => if i = b then true else s.getLsbD i
theorem rfC_set {s : CS} {b : Nat} : (rfC s).set b (Value.bool true) = rfC (setB s b) := by
  unfold rfC
  rw [arr_set]
  unfold arr
  refine List.map_congr_left fun j hj => ?_
  unfold setB
  rw [mkS_bit _ _ (by simpa using hj)]
  by_cases hjb : j = b
  · rw [if_pos hjb, if_pos hjb]
  · rw [if_neg hjb, if_neg hjb]
/-- The set that four words write. -/
def Wd (n : Int) : Prop := 0 ≤ n ∧ n < 18446744073709551616
theorem ex_words (a b c d : Int) (h : Wd a ∧ Wd b ∧ Wd c ∧ Wd d) : ∃ s : CS, wl s = [Value.int .u64 a, Value.int .u64 b, Value.int .u64 c, Value.int .u64 d] := by
  obtain ⟨⟨a0, a1⟩, ⟨b0, b1⟩, ⟨c0, c1⟩, d0, d1⟩ := h
  obtain ⟨s, hs⟩ := of_words a.toNat b.toNat c.toNat d.toNat (by omega) (by omega) (by omega) (by omega)
  refine ⟨s, ?_⟩
  have := congrArg Array.toList hs
  rw [Int.toNat_of_nonneg a0, Int.toNat_of_nonneg b0, Int.toNat_of_nonneg c0, Int.toNat_of_nonneg d0] at this
  exact this
open Classical in
noncomputable def csW (a b c d : Int) : CS := if h : Wd a ∧ Wd b ∧ Wd c ∧ Wd d then (ex_words a b c d h).choose else cs0
theorem csW_wl {a b c d : Int} (h : (0 ≤ a ∧ a < 18446744073709551616) ∧ (0 ≤ b ∧ b < 18446744073709551616) ∧ (0 ≤ c ∧ c < 18446744073709551616) ∧ (0 ≤ d ∧ d < 18446744073709551616)) : wl (csW a b c d) = [Value.int .u64 a, Value.int .u64 b, Value.int .u64 c, Value.int .u64 d] := by
  have h' : Wd a ∧ Wd b ∧ Wd c ∧ Wd d := h
  unfold csW
  rw [dif_pos h']
  exact (ex_words a b c d h').choose_spec
theorem csW_flat {a b c d : Int} (h : (0 ≤ a ∧ a < 18446744073709551616) ∧ (0 ≤ b ∧ b < 18446744073709551616) ∧ (0 ≤ c ∧ c < 18446744073709551616) ∧ (0 ≤ d ∧ d < 18446744073709551616)) : [Value.int .u64 a, Value.int .u64 b, Value.int .u64 c, Value.int .u64 d] = [csW a b c d].flatMap wl := by
  rw [List.flatMap_singleton, csW_wl h]
theorem csW_store {a b c d : Int} (h : (0 ≤ a ∧ a < 18446744073709551616) ∧ (0 ≤ b ∧ b < 18446744073709551616) ∧ (0 ≤ c ∧ c < 18446744073709551616) ∧ (0 ≤ d ∧ d < 18446744073709551616)) : (Value.agg [Value.int .u64 a, Value.int .u64 b, Value.int .u64 c, Value.int .u64 d].toArray).cells = (wl (csW a b c d)).toArray := by
  rw [csW_wl h]; rfl
theorem from_does (s : CS) : Does Try.prog 10 [.agg (wl s).toArray] [] [] (Ret (.agg (arr 256 (fun j => Value.bool (BitVec.getLsbD s j))).toArray) []) := Does.ofPure (from_pure s)
theorem eqlCS {T : TypeId} (hu : Try.prog.underlying T = some (.array 4 22)) (s t : CS) : ∀ w, (Op.equalIn 10000 T (.agg (wl s).toArray) (.agg (wl t).toArray)).run Try.prog w = .ok (decide (s = t)) w := fun w => by
  rw [wl_words, wl_words, eql_words hu s t w]; rfl
/-- The least byte of a set. -/
def least (s : CS) : Nat × Bool := match nextS s 0 with
  | some c => (c, true)
  | none => (0, false)
theorem next0_does (s : CS) : Does Try.prog 9 [.agg (wl s).toArray, .int .i64 0] [] [] (Ret (.tuple #[.int .u8 ((least s).1 : Int), .bool (least s).2]) []) := by
  have h := next_pure s 0 (by decide) (by decide)
  have e : nextV s (0 : Int).toNat = .tuple #[.int .u8 ((least s).1 : Int), .bool (least s).2] := by
    unfold nextV least
    rw [show (0 : Int).toNat = 0 from rfl]
    cases nextS s 0 <;> rfl
  rw [e] at h
  exact Does.ofPure h
/-- Two sets, as a value. -/
def wl2 (p : CS × CS) : List Value := wl p.1 ++ wl p.2
section
variable {P : Program} {C : Cx} {L : Sl} {H : List HA} {x y : Operand} {t e' ty : TypeId} {d : Option Tmp} {p : String} {e : Array Edge} {g : Option (Nat × Bool)} {k : IntKind}
theorem OV.index2 {q : CS × CS} {j : Int} (hx : ev L x = some (.agg (wl2 q).toArray)) (hy : ev L y = some (.int k j)) (ht : arrB P t e' 2 4 = true) (hr : RowT P e' 4) (hb : 0 ≤ j ∧ j < 2) : OV P C L H ⟨d, .index t x y, ty, p, e, g⟩ (.agg (wl (if j = 0 then q.1 else q.2)).toArray) := by
  refine OV.indexM hx hy ht hb hr ?_
  by_cases h0 : j = 0
  · subst h0; rfl
  · obtain rfl : j = 1 := by omega
    rfl
end
end Go.Proofs.Ytkjnhjhkaaampaa
