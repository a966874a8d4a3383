/-
  Sets of bytes in plain Lean: four words of 64 bits, and 256 truth values.
-/
import Derived.WalkKit
import Derived.Laws.Bits64b
import Derived.Laws.BitsAllLaws
namespace Go.Proofs.Ytkjnhjhkaaampaa
open Go Go.RowKit

abbrev CS := BitVec 256

def wdN (s : CS) (k : Nat) : Nat := (s.extractLsb' (64 * k) 64).toNat
def wd (s : CS) (k : Nat) : Int := (wdN s k : Int)

theorem wdN_lt (s : CS) (k : Nat) : wdN s k < 18446744073709551616 := by
  unfold wdN; exact (s.extractLsb' (64 * k) 64).isLt

theorem wdN_bit (s : CS) (k i : Nat) : (wdN s k).testBit i = (decide (i < 64) && s.getLsbD (64 * k + i)) := by
  unfold wdN; rw [BitVec.testBit_toNat, BitVec.getLsbD_extractLsb']

theorem wdN_ext {x : Nat} {s : CS} {k : Nat} (hx : x < 18446744073709551616) (h : ∀ i, i < 64 → x.testBit i = s.getLsbD (64 * k + i)) : x = wdN s k := by
  apply Nat.eq_of_testBit_eq
  intro i
  rw [wdN_bit]
  by_cases hi : i < 64
  · simp [hi, h i hi]
  · have : x.testBit i = false := Nat.testBit_lt_two_pow (Nat.lt_of_lt_of_le hx (by
      have := Nat.pow_le_pow_right (n := 2) (by omega) (show 64 ≤ i by omega)
      simpa using this))
    simp [hi, this]

theorem set_ext {s t : CS} (h : ∀ i, i < 256 → s.getLsbD i = t.getLsbD i) : s = t := BitVec.eq_of_getLsbD_eq h

/-- The four words of a set. -/
def words (s : CS) : Array Value := #[.int .u64 (wd s 0), .int .u64 (wd s 1), .int .u64 (wd s 2), .int .u64 (wd s 3)]

theorem words_size (s : CS) : (words s).size = 4 := rfl
theorem words_sz (s t : CS) : (words s).size = (words t).size := by rw [words_size, words_size]
theorem words_at (s : CS) (i : Nat) (h : i < 4) : (words s)[i]? = some (.int .u64 (wd s i)) := by
  match i, h with
  | 0, _ => rfl
  | 1, _ => rfl
  | 2, _ => rfl
  | 3, _ => rfl
theorem words_lit (s : CS) : #[Value.int .u64 (wd s 0), .int .u64 (wd s 1), .int .u64 (wd s 2), .int .u64 (wd s 3)] = words s := rfl

theorem words_inj {s t : CS} (h : words s = words t) : s = t := by
  have hk : ∀ k, k < 4 → wdN s k = wdN t k := by
    intro k hk
    have h1 := words_at s k hk
    have h2 := words_at t k hk
    rw [h, h2] at h1
    simp only [Option.some.injEq, Value.int.injEq, true_and, wd] at h1
    omega
  apply set_ext
  intro i hi
  have h1 := congrArg (fun x => x.testBit (i % 64)) (hk (i / 64) (by omega))
  simp only [wdN_bit] at h1
  have h64 : i % 64 < 64 := Nat.mod_lt _ (by omega)
  rw [show 64 * (i / 64) + i % 64 = i from Nat.div_add_mod i 64] at h1
  simpa [h64] using h1

/-- A set by its membership. -/
def mkN (f : Nat → Bool) : Nat → CS
  | 0 => 0
  | n + 1 => mkN f n ||| (if f n then BitVec.twoPow 256 n else 0)
def mkS (f : Nat → Bool) : CS := mkN f 256

theorem mkN_bit (f : Nat → Bool) (n i : Nat) : (mkN f n).getLsbD i = (decide (i < n) && decide (i < 256) && f i) := by
  induction n with
  | zero => simp [mkN]
  | succ n ih =>
    simp only [mkN, BitVec.getLsbD_or, ih]
    by_cases hfn : f n = true
    · simp only [hfn, if_true, BitVec.getLsbD_twoPow]
      by_cases hin : i = n
      · subst hin
        by_cases h256 : i < 256
        · simp [h256, hfn]
        · simp [h256]
      · have h1 : (i < n + 1) ↔ (i < n) := by omega
        have h2 : ¬ n = i := fun h => hin h.symm
        simp [h1, h2]
    · simp only [hfn]
      by_cases hin : i = n
      · subst hin
        simp [hfn]
      · have h1 : (i < n + 1) ↔ (i < n) := by omega
        simp [h1]

theorem mkS_bit (f : Nat → Bool) (i : Nat) (h : i < 256) : (mkS f).getLsbD i = f i := by
  rw [mkS, mkN_bit]; simp [h]
theorem mkS_bit' (f : Nat → Bool) (i : Nat) : (mkS f).getLsbD i = (decide (i < 256) && f i) := by
  simp only [mkS, mkN_bit]; cases decide (i < 256) <;> simp
theorem mkS_self (s : CS) : mkS s.getLsbD = s := set_ext fun i hi => mkS_bit _ i hi
theorem mkS_congr {f g : Nat → Bool} (h : ∀ i, i < 256 → f i = g i) : mkS f = mkS g := set_ext fun i hi => by rw [mkS_bit f i hi, mkS_bit g i hi, h i hi]

/-- Four words that fit are a set's. -/
theorem of_words (a b c d : Nat) (ha : a < 18446744073709551616) (hb : b < 18446744073709551616) (hc : c < 18446744073709551616) (hd : d < 18446744073709551616) :
    ∃ s : CS, words s = #[.int .u64 a, .int .u64 b, .int .u64 c, .int .u64 d] := by
  refine ⟨mkS fun i => if i < 64 then a.testBit i else if i < 128 then b.testBit (i - 64) else if i < 192 then c.testBit (i - 128) else d.testBit (i - 192), ?_⟩
  have h0 : a = wdN (mkS fun i => if i < 64 then a.testBit i else if i < 128 then b.testBit (i - 64) else if i < 192 then c.testBit (i - 128) else d.testBit (i - 192)) 0 :=
    wdN_ext ha fun i hi => by rw [mkS_bit _ _ (by omega), if_pos (by omega)]; rw [show 64 * 0 + i = i from by omega]
  have h1 : b = wdN (mkS fun i => if i < 64 then a.testBit i else if i < 128 then b.testBit (i - 64) else if i < 192 then c.testBit (i - 128) else d.testBit (i - 192)) 1 :=
    wdN_ext hb fun i hi => by rw [mkS_bit _ _ (by omega), if_neg (by omega), if_pos (by omega)]; rw [show 64 * 1 + i - 64 = i from by omega]
  have h2 : c = wdN (mkS fun i => if i < 64 then a.testBit i else if i < 128 then b.testBit (i - 64) else if i < 192 then c.testBit (i - 128) else d.testBit (i - 192)) 2 :=
    wdN_ext hc fun i hi => by rw [mkS_bit _ _ (by omega), if_neg (by omega), if_neg (by omega), if_pos (by omega)]; rw [show 64 * 2 + i - 128 = i from by omega]
  have h3 : d = wdN (mkS fun i => if i < 64 then a.testBit i else if i < 128 then b.testBit (i - 64) else if i < 192 then c.testBit (i - 128) else d.testBit (i - 192)) 3 :=
    wdN_ext hd fun i hi => by rw [mkS_bit _ _ (by omega), if_neg (by omega), if_neg (by omega), if_neg (by omega)]; rw [show 64 * 3 + i - 192 = i from by omega]
  simp only [words, wd, ← h0, ← h1, ← h2, ← h3]

/-! ### what the program's operations on words do to sets -/

theorem wdN_or (s t : CS) (k : Nat) : wdN s k ||| wdN t k = wdN (s ||| t) k := by
  unfold wdN; rw [BitVec.extractLsb'_or, BitVec.toNat_or]
theorem wdN_and (s t : CS) (k : Nat) : wdN s k &&& wdN t k = wdN (s &&& t) k := by
  unfold wdN; rw [BitVec.extractLsb'_and, BitVec.toNat_and]
theorem wd_or (s t : CS) (k : Nat) : bits .or .u64 (wd s k) (wd t k) = wd (s ||| t) k := by
  unfold wd; rw [bits_or_u64_nat _ _ (wdN_lt s k) (wdN_lt t k), wdN_or]
theorem wd_and (s t : CS) (k : Nat) : bits .and .u64 (wd s k) (wd t k) = wd (s &&& t) k := by
  unfold wd; rw [bits_and_u64_nat _ _ (wdN_lt s k) (wdN_lt t k), wdN_and]
theorem max_u64 : IntKind.u64.max = ((18446744073709551615 : Nat) : Int) := by decide
theorem wdN_not (s : CS) (k : Nat) (hk : k < 4) : 18446744073709551615 ^^^ wdN s k = wdN (~~~ s) k := by
  refine wdN_ext (Nat.xor_lt_two_pow (n := 64) (by omega) (wdN_lt s k)) fun i hi => ?_
  rw [Nat.testBit_xor, wdN_bit, BitVec.getLsbD_not, show (18446744073709551615 : Nat) = 2 ^ 64 - 1 from by decide, Nat.testBit_two_pow_sub_one]
  have : 64 * k + i < 256 := by omega
  simp [hi, this]
theorem wd_not (s : CS) (k : Nat) (hk : k < 4) : bits .xor .u64 IntKind.u64.max (wd s k) = wd (~~~ s) k := by
  unfold wd; rw [max_u64, bits_xor_u64_nat _ _ (by omega) (wdN_lt s k), wdN_not s k hk]

theorem and_one (x : Nat) (hx : x < 18446744073709551616) : bits .and .u64 (x : Int) 1 = ((x % 2 : Nat) : Int) := by
  rw [show (1 : Int) = ((1 : Nat) : Int) from rfl, bits_and_u64_nat _ _ hx (by omega), Nat.and_one_is_mod]

theorem shr_bit (s : CS) (k j : Nat) (hj : j < 64) : wdN s k / 2 ^ j % 2 = if s.getLsbD (64 * k + j) then 1 else 0 := by
  have h := wdN_bit s k j
  rw [Nat.testBit_eq_decide_div_mod_eq] at h
  simp only [hj, decide_true, Bool.true_and] at h
  cases hb : s.getLsbD (64 * k + j)
  · rw [hb] at h; simp at h; simp; omega
  · rw [hb] at h; simp at h; simp [h]

theorem wd_tmod (s : CS) (k : Nat) : ((wd s (k / 64) / 2 ^ (k % 64)).tmod 2 == 1) = s.getLsbD k := by
  have e3 : wd s (k / 64) / 2 ^ (k % 64) = ((wdN s (k / 64) / 2 ^ (k % 64) : Nat) : Int) := by unfold wd; push_cast; rfl
  have hb := shr_bit s (k / 64) (k % 64) (Nat.mod_lt _ (by omega))
  rw [Nat.div_add_mod] at hb
  rw [e3, show (2 : Int) = ((2 : Nat) : Int) from rfl, ← Int.ofNat_tmod, hb]
  cases s.getLsbD k <;> rfl

theorem wd_has (s : CS) (b : Int) (h0 : 0 ≤ b) (h1 : b < 256) : (bits .and .u64 (wd s (b / 64).toNat / 2 ^ (b % 64).toNat) 1 == 1) = s.getLsbD b.toNat := by
  obtain ⟨n, rfl⟩ := Int.eq_ofNat_of_zero_le h0
  have e1 : ((n : Int) / 64).toNat = n / 64 := by omega
  have e2 : ((n : Int) % 64).toNat = n % 64 := by omega
  rw [e1, e2]
  have e3 : wd s (n / 64) / 2 ^ (n % 64) = ((wdN s (n / 64) / 2 ^ (n % 64) : Nat) : Int) := by unfold wd; push_cast; rfl
  rw [e3, and_one _ (Nat.lt_of_le_of_lt (Nat.div_le_self _ _) (wdN_lt s _)), shr_bit s _ _ (Nat.mod_lt _ (by omega)), Nat.div_add_mod]
  rw [Int.toNat_natCast]
  cases s.getLsbD n <;> rfl

theorem and63_i64 (k : Nat) (hk : k < 9223372036854775808) : bits .and .i64 (k : Int) 63 = ((k % 64 : Nat) : Int) := by
  have h1 : (BitVec.ofInt 64 (k : Int)).toNat = k := by rw [BitVec.ofInt_natCast]; simp; omega
  have h2 : (BitVec.ofInt 64 (63 : Int)).toNat = 63 := by decide
  show IntKind.i64.wrap ((BitVec.ofInt 64 (k : Int) &&& BitVec.ofInt 64 (63 : Int)).toNat : Int) = _
  rw [BitVec.toNat_and, h1, h2, show (63 : Nat) = 2 ^ 6 - 1 from rfl, Nat.and_two_pow_sub_one_eq_mod]
  have : k % 64 < 64 := Nat.mod_lt _ (by omega)
  exact IntWalk.i64_in _ ⟨by omega, by omega⟩

theorem words_or (s t : CS) : #[Value.int .u64 (bits .or .u64 (wd s 0) (wd t 0)), .int .u64 (bits .or .u64 (wd s 1) (wd t 1)), .int .u64 (bits .or .u64 (wd s 2) (wd t 2)), .int .u64 (bits .or .u64 (wd s 3) (wd t 3))] = words (s ||| t) := by
  simp only [wd_or, words]
theorem words_and (s t : CS) : #[Value.int .u64 (bits .and .u64 (wd s 0) (wd t 0)), .int .u64 (bits .and .u64 (wd s 1) (wd t 1)), .int .u64 (bits .and .u64 (wd s 2) (wd t 2)), .int .u64 (bits .and .u64 (wd s 3) (wd t 3))] = words (s &&& t) := by
  simp only [wd_and, words]
theorem words_not (s : CS) : #[Value.int .u64 (bits .xor .u64 IntKind.u64.max (wd s 0)), .int .u64 (bits .xor .u64 IntKind.u64.max (wd s 1)), .int .u64 (bits .xor .u64 IntKind.u64.max (wd s 2)), .int .u64 (bits .xor .u64 IntKind.u64.max (wd s 3))] = words (~~~ s) := by
  rw [wd_not s 0 (by omega), wd_not s 1 (by omega), wd_not s 2 (by omega), wd_not s 3 (by omega)]; rfl

/-- The set with one byte more. -/
def addB (s : CS) (n : Nat) : CS := s ||| BitVec.twoPow 256 n
theorem addB_bit (s : CS) (n i : Nat) (hn : n < 256) : (addB s n).getLsbD i = (s.getLsbD i || decide (n = i)) := by
  simp [addB, BitVec.getLsbD_twoPow, hn]

theorem wdN_add (s : CS) (n : Nat) (hn : n < 256) : wdN s (n / 64) ||| 2 ^ (n % 64) = wdN (addB s n) (n / 64) := by
  refine wdN_ext ?_ fun i hi => ?_
  · exact Nat.or_lt_two_pow (n := 64) (wdN_lt s _) (Nat.pow_lt_pow_right (by omega) (Nat.mod_lt _ (by omega)))
  · rw [Nat.testBit_or, wdN_bit, addB_bit _ _ _ hn, Nat.testBit_two_pow]
    have e : (n % 64 = i) ↔ (n = 64 * (n / 64) + i) := by omega
    simp only [hi, decide_true, Bool.true_and, e]

theorem shl_or (s : CS) (n : Nat) : bits .or .u64 (wd s (n / 64)) (IntKind.u64.wrap (2 ^ (n % 64))) = ((wdN s (n / 64) ||| 2 ^ (n % 64) : Nat) : Int) := by
  have hp : 2 ^ (n % 64) < 18446744073709551616 := Nat.pow_lt_pow_right (a := 2) (n := 64) (by omega) (Nat.mod_lt _ (by omega))
  have e : IntKind.u64.wrap (2 ^ (n % 64)) = ((2 ^ (n % 64) : Nat) : Int) := by
    rw [show ((2 : Int) ^ (n % 64)) = ((2 ^ (n % 64) : Nat) : Int) by push_cast; rfl]
    generalize 2 ^ (n % 64) = x at hp ⊢
    exact IntWalk.u64_in _ ⟨by omega, by omega⟩
  rw [e]
  exact bits_or_u64_nat _ _ (wdN_lt s _) hp

theorem words_get (s : CS) (i : Nat) (h : i < (words s).size) : (words s)[i] = .int .u64 (wd s i) := by
  have := words_at s i (by simpa [words_size] using h)
  rw [Array.getElem?_eq_getElem h] at this
  exact Option.some.inj this

theorem words_set (s : CS) (n : Nat) (hn : n < 256) (v : Int) (hv : v = ((wdN s (n / 64) ||| 2 ^ (n % 64) : Nat) : Int)) : (words s).setIfInBounds (n / 64) (.int .u64 v) = words (addB s n) := by
  subst hv
  apply Array.ext
  · simp [words_size]
  · intro i h1 h2
    have hi : i < 4 := by simpa [words_size] using h2
    rw [words_get]
    by_cases he : n / 64 = i
    · subst he
      simp [wdN_add s n hn, wd]
    · rw [Array.getElem_setIfInBounds_ne (by simpa [words_size] using hi) he, words_get]
      have : wdN s i = wdN (addB s n) i := by
        refine wdN_ext (wdN_lt s i) fun j hj => ?_
        rw [wdN_bit, addB_bit _ _ _ hn]
        have : ¬ n = 64 * i + j := by omega
        simp [hj, this]
      simp [wd, this]

theorem words_setb (s : CS) (n : Nat) (hn : n < 256) : (words s).setIfInBounds (n / 64) (.int .u64 (bits .or .u64 (wd s (n / 64)) (IntKind.u64.wrap (2 ^ (n % 64))))) = words (addB s n) := words_set s n hn _ (shl_or s n)

/-- The empty set, by a name of its own. -/
def cs0 : CS := 0
theorem words_zero : #[Value.int .u64 0, .int .u64 0, .int .u64 0, .int .u64 0] = words cs0 := by
  have h : ∀ k, wd cs0 k = 0 := fun k => by
    have h0 : 0 = wdN cs0 k := wdN_ext (by omega) (fun i _ => by simp [cs0])
    unfold wd; rw [← h0]; rfl
  simp only [words, h]

/-! ### 256 truth values -/

def boolsF (f : Nat → Bool) : Array Value := ((List.range 256).map fun i => Value.bool (f i)).toArray
theorem boolsF_size (f : Nat → Bool) : (boolsF f).size = 256 := by simp [boolsF]
theorem boolsF_at (f : Nat → Bool) (i : Nat) (h : i < 256) : (boolsF f)[i]? = some (.bool (f i)) := by
  simp [boolsF, h]
theorem boolsF_sz (f g : Nat → Bool) : (boolsF f).size = (boolsF g).size := by rw [boolsF_size, boolsF_size]
theorem boolsF_cells (f : Nat → Bool) : ∀ v ∈ (boolsF f).toList, v.oneCell' = true := by
  intro v hv; simp [boolsF] at hv; obtain ⟨_, _, rfl⟩ := hv; rfl
theorem boolsF_congr {f g : Nat → Bool} (h : ∀ i, i < 256 → f i = g i) : boolsF f = boolsF g := by
  unfold boolsF; congr 1; exact List.map_congr_left fun i hi => by rw [h i (List.mem_range.1 hi)]
theorem boolsF_inj {f g : Nat → Bool} (h : boolsF f = boolsF g) (i : Nat) (hi : i < 256) : f i = g i := by
  have h1 := boolsF_at f i hi
  rw [h, boolsF_at g i hi] at h1
  simpa using h1.symm
def upd (f : Nat → Bool) (n : Nat) (b : Bool) : Nat → Bool := fun i => if i = n then b else f i
theorem boolsF_set (f : Nat → Bool) (n : Nat) (b : Bool) : (boolsF f).setIfInBounds n (.bool b) = boolsF (upd f n b) := by
  apply Array.ext
  · simp [boolsF_size]
  · intro i h1 h2
    have hi : i < 256 := by simpa [boolsF_size] using h2
    by_cases he : n = i
    · subst he; simp [boolsF, upd]
    · rw [Array.getElem_setIfInBounds_ne (by simpa [boolsF_size] using hi) he]
      have : ¬ i = n := fun h => he h.symm
      simp [boolsF, upd, this]

/-! ### membership -/
def spanS (lo hi : Nat) : CS := mkS fun i => decide (lo ≤ i) && decide (i ≤ hi)
def ofS (l : List UInt8) : CS := mkS fun i => l.any fun c => c.toNat == i

/-- The least byte of a set from a number on. -/
def nextFrom (s : CS) : Nat → Nat → Option Nat
  | _, 0 => none
  | b, n + 1 => if s.getLsbD b then some b else nextFrom s (b + 1) n
def nextS (s : CS) (b : Nat) : Option Nat := nextFrom s b (256 - b)

theorem nextFrom_some {s : CS} {b n c : Nat} (h : nextFrom s b n = some c) : b ≤ c ∧ c < b + n ∧ s.getLsbD c = true ∧ ∀ i, b ≤ i → i < c → s.getLsbD i = false := by
  induction n generalizing b with
  | zero => cases h
  | succ n ih =>
    simp only [nextFrom] at h
    by_cases hb : s.getLsbD b = true
    · rw [if_pos hb] at h
      cases h
      exact ⟨Nat.le_refl _, by omega, hb, fun i h1 h2 => by omega⟩
    · rw [if_neg hb] at h
      obtain ⟨h1, h2, h3, h4⟩ := ih h
      refine ⟨by omega, by omega, h3, fun i hi1 hi2 => ?_⟩
      by_cases e : i = b
      · subst e; simpa using hb
      · exact h4 i (by omega) hi2
theorem nextFrom_none {s : CS} {b n : Nat} (h : nextFrom s b n = none) : ∀ i, b ≤ i → i < b + n → s.getLsbD i = false := by
  induction n generalizing b with
  | zero => intro i h1 h2; omega
  | succ n ih =>
    simp only [nextFrom] at h
    by_cases hb : s.getLsbD b = true
    · rw [if_pos hb] at h; cases h
    · rw [if_neg hb] at h
      intro i h1 h2
      by_cases e : i = b
      · subst e; simpa using hb
      · exact ih h i (by omega) (by omega)
theorem nextS_some {s : CS} {b c : Nat} (h : nextS s b = some c) : b ≤ c ∧ c < 256 ∧ s.getLsbD c = true ∧ ∀ i, b ≤ i → i < c → s.getLsbD i = false := by
  have h' := nextFrom_some h
  have : c < 256 := by omega
  exact ⟨h'.1, this, h'.2.2⟩
theorem nextS_none {s : CS} {b : Nat} (h : nextS s b = none) : ∀ i, b ≤ i → i < 256 → s.getLsbD i = false := fun i h1 h2 => nextFrom_none h i h1 (by omega)
theorem nextS_step {s : CS} {b : Nat} (h : b < 256) : nextS s b = if s.getLsbD b then some b else nextS s (b + 1) := by
  unfold nextS
  rw [show 256 - b = (256 - (b + 1)) + 1 by omega]
  rfl
theorem nextS_end {s : CS} {b : Nat} (h : 256 ≤ b) : nextS s b = none := by
  unfold nextS; rw [show 256 - b = 0 by omega]; rfl

end Go.Proofs.Ytkjnhjhkaaampaa
