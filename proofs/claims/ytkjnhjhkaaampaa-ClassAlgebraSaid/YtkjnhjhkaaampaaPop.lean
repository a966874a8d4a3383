/-
  How many bits a word has: the reckoning with masks, in plain Lean; the contracts of OnesCount64 and Count.
-/
import Derived.Test.YtkjnhjhkaaampaaClass2
namespace Go.Proofs.Ytkjnhjhkaaampaa
open Go Go.RowKit

def nB : List Nat → Nat
  | [] => 0
  | d :: r => d + 256 * nB r

theorem and_cons (d e R S : Nat) (hd : d < 256) (he : e < 256) : (d + 256 * R) &&& (e + 256 * S) = (d &&& e) + 256 * (R &&& S) := by
  have hde : d &&& e < 256 := Nat.lt_of_le_of_lt Nat.and_le_left hd
  apply Nat.eq_of_testBit_eq
  intro i
  rw [show d + 256 * R = 2 ^ 8 * R + d by omega, show e + 256 * S = 2 ^ 8 * S + e by omega, show (d &&& e) + 256 * (R &&& S) = 2 ^ 8 * (R &&& S) + (d &&& e) by omega]
  rw [Nat.testBit_and, Nat.testBit_two_pow_mul_add _ hd, Nat.testBit_two_pow_mul_add _ he, Nat.testBit_two_pow_mul_add _ hde]
  by_cases h : i < 8 <;> simp [h]

def s1 (d : Nat) : Nat := (d / 2 &&& 85) + (d &&& 85)
def s2 (d : Nat) : Nat := (d / 4 &&& 51) + (d &&& 51)
def s3 (d : Nat) : Nat := (d / 16 + d) &&& 15
def rep (c : Nat) (l : List Nat) : Nat := nB (l.map fun _ => c)

theorem t1 : ∀ d, d < 256 → ∀ c, c < 2 → (d / 2 + 128 * c) &&& 85 = d / 2 &&& 85 := by decide +kernel
theorem t1b : ∀ d, d < 256 → s1 d < 256 := by decide +kernel
theorem t2 : ∀ d, d < 256 → ∀ c, c < 4 → (d / 4 + 64 * c) &&& 51 = d / 4 &&& 51 := by decide +kernel
theorem t2b : ∀ d, d < 256 → s2 (s1 d) < 256 ∧ s2 (s1 d) % 16 ≤ 4 ∧ s2 (s1 d) / 16 ≤ 4 := by decide +kernel
theorem t3 : ∀ d, d < 256 → d / 16 ≤ 4 → d % 16 ≤ 4 → ∀ c, c < 5 → (d / 16 + 16 * c + d) &&& 15 = (d / 16 + d) &&& 15 := by decide +kernel
def pop8 (d : Nat) : Nat := (List.range 8).countP fun i => d.testBit i
theorem tpop : ∀ d, d < 256 → s3 (s2 (s1 d)) = pop8 d ∧ pop8 d ≤ 8 := by decide +kernel

theorem step1 (l : List Nat) (h : ∀ d ∈ l, d < 256) : (nB l / 2 &&& rep 85 l) + (nB l &&& rep 85 l) = nB (l.map s1) := by
  induction l with
  | nil => rfl
  | cons d r ih =>
    have hd := h d (by simp)
    have ih := ih fun x hx => h x (by simp [hx])
    simp only [nB, rep, List.map_cons] at ih ⊢
    have e : (d + 256 * nB r) / 2 = (d / 2 + 128 * (nB r % 2)) + 256 * (nB r / 2) := by omega
    rw [e, and_cons _ _ _ _ (by omega) (by omega), and_cons _ _ _ _ hd (by omega), t1 d hd _ (Nat.mod_lt _ (by omega)), ← ih, s1]
    omega
theorem step2 (l : List Nat) (h : ∀ d ∈ l, d < 256) : (nB l / 4 &&& rep 51 l) + (nB l &&& rep 51 l) = nB (l.map s2) := by
  induction l with
  | nil => rfl
  | cons d r ih =>
    have hd := h d (by simp)
    have ih := ih fun x hx => h x (by simp [hx])
    simp only [nB, rep, List.map_cons] at ih ⊢
    have e : (d + 256 * nB r) / 4 = (d / 4 + 64 * (nB r % 4)) + 256 * (nB r / 4) := by omega
    rw [e, and_cons _ _ _ _ (by omega) (by omega), and_cons _ _ _ _ hd (by omega), t2 d hd _ (Nat.mod_lt _ (by omega)), ← ih, s2]
    omega
theorem low (l : List Nat) (h : ∀ d ∈ l, d % 16 ≤ 4) : nB l % 16 ≤ 4 := by
  cases l with
  | nil => simp [nB]
  | cons d r => have := h d (by simp); simp only [nB]; omega
theorem step3 (l : List Nat) (h : ∀ d ∈ l, d < 256 ∧ d % 16 ≤ 4 ∧ d / 16 ≤ 4) : (nB l / 16 + nB l) &&& rep 15 l = nB (l.map s3) := by
  induction l with
  | nil => rfl
  | cons d r ih =>
    have hd := h d (by simp)
    have hr : ∀ x ∈ r, x < 256 ∧ x % 16 ≤ 4 ∧ x / 16 ≤ 4 := fun x hx => h x (by simp [hx])
    have hl := low r fun x hx => (hr x hx).2.1
    have ih := ih hr
    simp only [nB, rep, List.map_cons] at ih ⊢
    have e : (d + 256 * nB r) / 16 + (d + 256 * nB r) = (d / 16 + 16 * (nB r % 16) + d) + 256 * (nB r / 16 + nB r) := by omega
    rw [e, and_cons _ _ _ _ (by omega) (by omega), t3 d hd.1 hd.2.2 hd.2.1 _ (by omega), ← ih, s3]

def cntR (x : Nat) (n : Nat) : Nat := (List.range n).countP fun i => x.testBit i
theorem cntR_add8 (x a : Nat) : cntR x (a + 8) = cntR x a + pop8 (x / 2 ^ a % 256) := by
  unfold cntR pop8
  rw [List.range_add, List.countP_append, List.countP_map]
  congr 1
  apply List.countP_congr
  intro i hi
  have hi : i < 8 := List.mem_range.1 hi
  have : (x / 2 ^ a % 256).testBit i = x.testBit (a + i) := by
    rw [show (256 : Nat) = 2 ^ 8 from rfl, Nat.testBit_mod_two_pow, Nat.testBit_div_two_pow]
    simp [hi, Nat.add_comm]
  simp [this]

def pops (x : Nat) : List Nat := [pop8 (x % 256), pop8 (x / 256 % 256), pop8 (x / 65536 % 256), pop8 (x / 16777216 % 256), pop8 (x / 4294967296 % 256), pop8 (x / 1099511627776 % 256), pop8 (x / 281474976710656 % 256), pop8 (x / 72057594037927936 % 256)]
def byteL (x : Nat) : List Nat := [x % 256, x / 256 % 256, x / 65536 % 256, x / 16777216 % 256, x / 4294967296 % 256, x / 1099511627776 % 256, x / 281474976710656 % 256, x / 72057594037927936 % 256]
theorem nB_byteL (x : Nat) (hx : x < 18446744073709551616) : nB (byteL x) = x := by
  simp only [byteL, nB]; omega
theorem byteL_lt (x : Nat) : ∀ d ∈ byteL x, d < 256 := by
  intro d hd; simp only [byteL, List.mem_cons, List.not_mem_nil, or_false] at hd; omega
theorem nB_lt : ∀ (l : List Nat), (∀ d ∈ l, d < 256) → nB l < 256 ^ l.length
  | [], _ => by simp [nB]
  | d :: r, h => by
    have h1 := h d (by simp)
    have h2 := nB_lt r fun x hx => h x (by simp [hx])
    simp only [nB, List.length_cons, Nat.pow_succ]
    omega
theorem sum_pops (x : Nat) : (pops x).sum = cntR x 64 := by
  have e8 : cntR x 64 = cntR x 56 + pop8 (x / 72057594037927936 % 256) := cntR_add8 x 56
  have e7 : cntR x 56 = cntR x 48 + pop8 (x / 281474976710656 % 256) := cntR_add8 x 48
  have e6 : cntR x 48 = cntR x 40 + pop8 (x / 1099511627776 % 256) := cntR_add8 x 40
  have e5 : cntR x 40 = cntR x 32 + pop8 (x / 4294967296 % 256) := cntR_add8 x 32
  have e4 : cntR x 32 = cntR x 24 + pop8 (x / 16777216 % 256) := cntR_add8 x 24
  have e3 : cntR x 24 = cntR x 16 + pop8 (x / 65536 % 256) := cntR_add8 x 16
  have e2 : cntR x 16 = cntR x 8 + pop8 (x / 256 % 256) := cntR_add8 x 8
  have e1 : cntR x 8 = pop8 (x % 256) := by
    have := cntR_add8 x 0
    rw [show cntR x 0 = 0 from rfl, Nat.pow_zero, Nat.div_one, Nat.zero_add, Nat.zero_add] at this
    exact this
  simp only [pops, List.sum_cons, List.sum_nil]
  omega
theorem nB_le (c : Nat) : ∀ (l : List Nat), (∀ d ∈ l, d ≤ c) → nB l ≤ rep c l
  | [], _ => by simp [nB, rep]
  | d :: r, h => by
    have h1 := h d (by simp)
    have h2 := nB_le c r fun x hx => h x (by simp [hx])
    simp only [nB, rep, List.map_cons] at h2 ⊢
    omega
theorem rep85 (x : Nat) : rep 85 (byteL x) = 6148914691236517205 := by simp [rep, byteL, nB]
theorem rep51 (x : Nat) : rep 51 ((byteL x).map s1) = 3689348814741910323 := by simp [rep, byteL, nB]
theorem rep15 (x : Nat) : rep 15 (((byteL x).map s1).map s2) = 1085102592571150095 := by simp [rep, byteL, nB]
theorem rep68 (x : Nat) : rep 68 (((byteL x).map s1).map s2) = 4919131752989213764 := by simp [rep, byteL, nB]
theorem steps (x y z v : Nat) (hx : x < 18446744073709551616) (hy : y = (x / 2 &&& 6148914691236517205) + (x &&& 6148914691236517205)) (hz : z = (y / 4 &&& 3689348814741910323) + (y &&& 3689348814741910323)) (hv : v = (z / 16 + z) &&& 1085102592571150095) :
    y < 18446744073709551616 ∧ z < 18446744073709551616 ∧ z / 16 + z < 18446744073709551616 ∧ v = nB (pops x) := by
  have ey : y = nB ((byteL x).map s1) := by
    rw [hy, ← step1 _ (byteL_lt x), nB_byteL x hx, rep85]
  have hb1 : ∀ d ∈ (byteL x).map s1, d < 256 := by
    intro d hd; obtain ⟨c, hc, rfl⟩ := List.mem_map.1 hd; exact t1b c (byteL_lt x c hc)
  have ez : z = nB (((byteL x).map s1).map s2) := by
    rw [hz, ← step2 _ hb1, ← ey, rep51]
  have hb2 : ∀ d ∈ ((byteL x).map s1).map s2, d < 256 ∧ d % 16 ≤ 4 ∧ d / 16 ≤ 4 := by
    intro d hd
    rw [List.map_map] at hd
    obtain ⟨c, hc, rfl⟩ := List.mem_map.1 hd
    exact t2b c (byteL_lt x c hc)
  have ev : v = nB ((((byteL x).map s1).map s2).map s3) := by
    rw [hv, ← step3 _ hb2, ← ez, rep15]
  have hp : (((byteL x).map s1).map s2).map s3 = pops x := by
    have h := fun d hd => (tpop d (byteL_lt x d hd)).1
    rw [List.map_map, List.map_map]
    have : (byteL x).map (s3 ∘ s2 ∘ s1) = (byteL x).map pop8 := List.map_congr_left fun d hd => h d hd
    exact this
  have ly := nB_lt _ hb1
  have lz := nB_lt _ fun d hd => (hb2 d hd).1
  rw [← ey] at ly
  rw [← ez] at lz
  have l1 : ((byteL x).map s1).length = 8 := rfl
  have l2 : (((byteL x).map s1).map s2).length = 8 := rfl
  rw [l1] at ly
  rw [l2] at lz
  have ep : (256 : Nat) ^ 8 = 18446744073709551616 := rfl
  rw [ep] at ly lz
  refine ⟨ly, lz, ?_, ?_⟩
  · have h68 := nB_le 68 _ fun d hd => by have := hb2 d hd; omega
    rw [rep68, ← ez] at h68
    omega
  · rw [ev, hp]

theorem fin8 (p0 p1 p2 p3 p4 p5 p6 p7 v a b : Nat) (h0 : p0 ≤ 8) (h1 : p1 ≤ 8) (h2 : p2 ≤ 8) (h3 : p3 ≤ 8) (h4 : p4 ≤ 8) (h5 : p5 ≤ 8) (h6 : p6 ≤ 8) (h7 : p7 ≤ 8)
    (hv : v = p0 + 256 * (p1 + 256 * (p2 + 256 * (p3 + 256 * (p4 + 256 * (p5 + 256 * (p6 + 256 * p7))))))) (ha : a = v + v / 256) (hb : b = a + a / 65536) :
    a < 9223372036854775808 ∧ b < 9223372036854775808 ∧ b + b / 4294967296 < 9223372036854775808 ∧ (b + b / 4294967296) % 128 = p0 + p1 + p2 + p3 + p4 + p5 + p6 + p7 := by
  have ea : a = (p0 + p1) + 256 * ((p1 + p2) + 256 * ((p2 + p3) + 256 * ((p3 + p4) + 256 * ((p4 + p5) + 256 * ((p5 + p6) + 256 * ((p6 + p7) + 256 * p7)))))) := by omega
  have ea2 : a / 65536 = (p2 + p3) + 256 * ((p3 + p4) + 256 * ((p4 + p5) + 256 * ((p5 + p6) + 256 * ((p6 + p7) + 256 * p7)))) := by omega
  have eb : b = (p0 + p1 + p2 + p3) + 256 * ((p1 + p2 + p3 + p4) + 256 * ((p2 + p3 + p4 + p5) + 256 * ((p3 + p4 + p5 + p6) + 256 * ((p4 + p5 + p6 + p7) + 256 * ((p5 + p6 + p7) + 256 * ((p6 + p7) + 256 * p7)))))) := by omega
  have eb2 : b / 4294967296 = (p4 + p5 + p6 + p7) + 256 * ((p5 + p6 + p7) + 256 * ((p6 + p7) + 256 * p7)) := by clear ea ea2 ha hb hv; omega
  refine ⟨by clear ha hb eb eb2; omega, by clear ha hb ea ea2; omega, by clear ha hb ea ea2; omega, ?_⟩
  clear ha hb ea ea2 hv
  omega

theorem pops_eq (x : Nat) : ∃ p0 p1 p2 p3 p4 p5 p6 p7 : Nat, p0 ≤ 8 ∧ p1 ≤ 8 ∧ p2 ≤ 8 ∧ p3 ≤ 8 ∧ p4 ≤ 8 ∧ p5 ≤ 8 ∧ p6 ≤ 8 ∧ p7 ≤ 8 ∧
    nB (pops x) = p0 + 256 * (p1 + 256 * (p2 + 256 * (p3 + 256 * (p4 + 256 * (p5 + 256 * (p6 + 256 * p7)))))) ∧ p0 + p1 + p2 + p3 + p4 + p5 + p6 + p7 = cntR x 64 := by
  have hp : ∀ d, pop8 (d % 256) ≤ 8 := fun d => (tpop (d % 256) (Nat.mod_lt _ (by omega))).2
  refine ⟨_, _, _, _, _, _, _, _, hp x, hp (x / 256), hp (x / 65536), hp (x / 16777216), hp (x / 4294967296), hp (x / 1099511627776), hp (x / 281474976710656), hp (x / 72057594037927936), ?_, ?_⟩
  · simp only [pops, nB, Nat.mul_zero, Nat.add_zero]
  · rw [← sum_pops]; simp only [pops, List.sum_cons, List.sum_nil, Nat.add_zero, Nat.add_assoc]

theorem pop_final (x y z v a b c : Nat) (hx : x < 18446744073709551616) (hy : y = (x / 2 &&& 6148914691236517205) + (x &&& 6148914691236517205)) (hz : z = (y / 4 &&& 3689348814741910323) + (y &&& 3689348814741910323)) (hv : v = (z / 16 + z) &&& 1085102592571150095)
    (ha : a = v + v / 256) (hb : b = a + a / 65536) (hc : c = b + b / 4294967296) :
    y < 18446744073709551616 ∧ z < 18446744073709551616 ∧ z / 16 + z < 18446744073709551616 ∧ v < 18446744073709551616 ∧ a < 9223372036854775808 ∧ b < 9223372036854775808 ∧ c < 9223372036854775808 ∧ c % 128 = cntR x 64 := by
  obtain ⟨s1, s2, s3, s4⟩ := steps x y z v hx hy hz hv
  obtain ⟨p0, p1, p2, p3, p4, p5, p6, p7, h0, h1, h2, h3, h4, h5, h6, h7, e, hs⟩ := pops_eq x
  rw [e] at s4
  obtain ⟨f1, f2, f3, f4⟩ := fin8 p0 p1 p2 p3 p4 p5 p6 p7 v a b h0 h1 h2 h3 h4 h5 h6 h7 s4 ha hb
  rw [← hc] at f3 f4
  exact ⟨s1, s2, s3, by clear f4 hy hz hv hs hb hc f3 f2 f1 s3 s2 s1 hx ha e; omega, f1, f2, f3, f4.trans hs⟩

theorem and127 (k : Nat) (hk : k < 9223372036854775808) : bits .and .i64 (k : Int) 127 = ((k % 128 : Nat) : Int) := by
  have h1 : (BitVec.ofInt 64 (k : Int)).toNat = k := by rw [BitVec.ofInt_natCast]; simp; omega
  have h2 : (BitVec.ofInt 64 (127 : Int)).toNat = 127 := by decide
  show IntKind.i64.wrap ((BitVec.ofInt 64 (k : Int) &&& BitVec.ofInt 64 (127 : Int)).toNat : Int) = _
  rw [BitVec.toNat_and, h1, h2, show (127 : Nat) = 2 ^ 7 - 1 from rfl, Nat.and_two_pow_sub_one_eq_mod]
  have : k % 128 < 128 := Nat.mod_lt _ (by omega)
  exact IntWalk.i64_in _ ⟨by omega, by omega⟩

theorem u64n (n : Nat) (h : n < 18446744073709551616) : IntKind.u64.wrap (n : Int) = n := IntWalk.u64_in _ ⟨by omega, by omega⟩

set_option maxRecDepth 100000 in
theorem pop_expr (x : Nat) (hx : x < 18446744073709551616) (Y Z V A B C : Int)
    (hY : Y = IntKind.u64.wrap (bits .and .u64 ((x : Int) / 2) 6148914691236517205 + bits .and .u64 (x : Int) 6148914691236517205))
    (hZ : Z = IntKind.u64.wrap (bits .and .u64 (Y / 4) 3689348814741910323 + bits .and .u64 Y 3689348814741910323))
    (hV : V = bits .and .u64 (IntKind.u64.wrap (Z / 16 + Z)) 1085102592571150095)
    (hA : A = IntKind.u64.wrap (V + V / 256)) (hB : B = IntKind.u64.wrap (A + A / 65536)) (hC : C = IntKind.u64.wrap (B + B / 4294967296)) :
    bits .and .i64 (wrap64 C) 127 = (cntR x 64 : Nat) := by
  obtain ⟨f1, f2, f3, f4, f5, f6, f7, f8⟩ := pop_final x _ _ _ _ _ _ hx rfl rfl rfl rfl rfl rfl
  have eY : Y = ((x / 2 &&& 6148914691236517205) + (x &&& 6148914691236517205) : Nat) := by
    rw [hY, show ((x : Int) / 2) = ((x / 2 : Nat) : Int) from rfl, show (6148914691236517205 : Int) = ((6148914691236517205 : Nat) : Int) from rfl,
      bits_and_u64_nat _ _ (by omega) (by omega), bits_and_u64_nat _ _ hx (by omega), ← Int.natCast_add, u64n _ f1]
  generalize (x / 2 &&& 6148914691236517205) + (x &&& 6148914691236517205) = y at *
  have eZ : Z = ((y / 4 &&& 3689348814741910323) + (y &&& 3689348814741910323) : Nat) := by
    rw [hZ, eY, show ((y : Int) / 4) = ((y / 4 : Nat) : Int) from rfl, show (3689348814741910323 : Int) = ((3689348814741910323 : Nat) : Int) from rfl,
      bits_and_u64_nat _ _ (by omega) (by omega), bits_and_u64_nat _ _ f1 (by omega), ← Int.natCast_add, u64n _ f2]
  generalize (y / 4 &&& 3689348814741910323) + (y &&& 3689348814741910323) = z at *
  have eV : V = ((z / 16 + z &&& 1085102592571150095 : Nat) : Int) := by
    rw [hV, eZ, show ((z : Int) / 16) = ((z / 16 : Nat) : Int) from rfl, ← Int.natCast_add, u64n _ f3, show (1085102592571150095 : Int) = ((1085102592571150095 : Nat) : Int) from rfl,
      bits_and_u64_nat _ _ f3 (by omega)]
  generalize (z / 16 + z &&& 1085102592571150095) = v at *
  have eA : A = (v + v / 256 : Nat) := by
    rw [hA, eV, show ((v : Int) / 256) = ((v / 256 : Nat) : Int) from rfl, ← Int.natCast_add, u64n _ (by omega)]
  generalize v + v / 256 = a at *
  have eB : B = (a + a / 65536 : Nat) := by
    rw [hB, eA, show ((a : Int) / 65536) = ((a / 65536 : Nat) : Int) from rfl, ← Int.natCast_add, u64n _ (by omega)]
  generalize a + a / 65536 = b at *
  have eC : C = (b + b / 4294967296 : Nat) := by
    rw [hC, eB, show ((b : Int) / 4294967296) = ((b / 4294967296 : Nat) : Int) from rfl, ← Int.natCast_add, u64n _ (by omega)]
  generalize b + b / 4294967296 = c at *
  rw [eC, IntWalk.wrap64_in _ ⟨by omega, by omega⟩, and127 _ f7, f8]

set_option maxRecDepth 100000 in
set_option maxHeartbeats 400000 in
theorem ones_pure (x : Nat) (hx : x < 18446744073709551616) : Pure Try.prog 28 #[.int .u64 x] (.int .i64 (cntR x 64)) := by
  intro w
  rw [← pop_expr x hx _ _ _ _ _ _ rfl rfl rfl rfl rfl rfl]
  clear hx
  go_enter Try.func28, Try.ntmps28
  go_wp2
  go_ret
  exact ⟨rfl, Below.refl _ _⟩

theorem cntR_word (s : CS) (k : Nat) : cntR (wdN s k) 64 = (List.range 64).countP fun i => s.getLsbD (64 * k + i) := by
  unfold cntR
  apply List.countP_congr
  intro i hi
  rw [wdN_bit]
  simp [List.mem_range.1 hi]

theorem cnt_add (f : Nat → Bool) (a b : Nat) : (List.range (a + b)).countP f = (List.range a).countP f + (List.range b).countP (fun i => f (a + i)) := by
  rw [List.range_add, List.countP_append, List.countP_map]; rfl
theorem countP4 (f : Nat → Bool) : (List.range 256).countP f = (List.range 64).countP f + (List.range 64).countP (fun i => f (64 + i)) + (List.range 64).countP (fun i => f (64 * 2 + i)) + (List.range 64).countP (fun i => f (64 * 3 + i)) := by
  have e1 : (List.range 256).countP f = (List.range 192).countP f + (List.range 64).countP (fun i => f (64 * 3 + i)) := cnt_add f 192 64
  have e2 : (List.range 192).countP f = (List.range 128).countP f + (List.range 64).countP (fun i => f (64 * 2 + i)) := cnt_add f 128 64
  have e3 : (List.range 128).countP f = (List.range 64).countP f + (List.range 64).countP (fun i => f (64 + i)) := cnt_add f 64 64
  rw [e1, e2, e3]
/-- How many bytes are in a set. -/
def countS (s : CS) : Nat := (List.range 256).countP fun i => s.getLsbD i
theorem countS_words (s : CS) : cntR (wdN s 0) 64 + cntR (wdN s 1) 64 + cntR (wdN s 2) 64 + cntR (wdN s 3) 64 = countS s := by
  unfold countS
  rw [countP4 s.getLsbD, cntR_word, cntR_word, cntR_word, cntR_word]
  simp only [Nat.mul_zero, Nat.zero_add, Nat.mul_one]

end Go.Proofs.Ytkjnhjhkaaampaa
