/-
  What Show writes is read back: in plain Lean.
-/
import Derived.Test.YtkjnhjhkaaampaaDoorRdR
import Derived.Test.YtkjnhjhkaaampaaDoorRefShow
namespace Go.Proofs.YtkjnhjhkaaampaaDoor
open Go Go.RowKit

def At0 (t : List UInt8) (p : Nat) (u : List UInt8) : Prop := t.drop p = u
theorem At0.cons {t : List UInt8} {p : Nat} {c : UInt8} {v : List UInt8} (h : At0 t p (c :: v)) : (p : Int) < t.length ∧ peekB t p = c.toNat ∧ At0 t (p + 1) v := by
  unfold At0 at h
  have hl : p < t.length := by
    have := congrArg List.length h
    rw [List.length_drop, List.length_cons] at this; omega
  have hg : t[p]? = some c := by
    have := congrArg (fun l => l[0]?) h
    simpa using this
  refine ⟨by omega, ?_, ?_⟩
  · unfold peekB
    rw [if_pos (by omega), Int.toNat_natCast, List.getD_eq_getElem?_getD, hg]; rfl
  · unfold At0
    rw [← List.drop_drop, h]; rfl
theorem At0.app {t : List UInt8} {v : List UInt8} : ∀ {u : List UInt8} {p : Nat}, At0 t p (u ++ v) → At0 t (p + u.length) v
  | [], p, h => h
  | c :: u, p, h => by
    have := At0.app (u := u) h.cons.2.2
    rw [List.length_cons, show p + (u.length + 1) = p + 1 + u.length by omega]; exact this
theorem At0.len {t u : List UInt8} {p : Nat} (h : At0 t p u) : u.length ≤ t.length := by
  have := congrArg List.length h
  rw [List.length_drop] at this; omega

def BarOk (bar : List UInt8) : Prop := bar.contains 92 = true ∧ ∀ b, b < 256 → bar.contains b.toUInt8 = true → 32 ≤ b ∧ b ≤ 126 ∧ ¬ (48 ≤ b ∧ b ≤ 57) ∧ ¬ (97 ≤ b ∧ b ≤ 122) ∧ ¬ (65 ≤ b ∧ b ≤ 90)
theorem spOk : BarOk spL := ⟨by decide, by decide +kernel⟩
theorem inOk : BarOk inL := ⟨by decide, by decide +kernel⟩
theorem hexd_back : ∀ n, n < 16 → refHex ((hexd n).toNat : Nat) = n := by decide +kernel
theorem u8of (b : Nat) (h : b < 256) : ((b.toUInt8.toNat : Nat) : Int) = b := by
  rw [show b.toUInt8.toNat = b from Nat.mod_eq_of_lt h]
theorem hexM_at {t : List UInt8} {p n : Nat} {v : List UInt8} (hn : n < 16) (h : At0 t p (hexd n :: v)) : hexM t p = .ok ((n : Int), ((p + 1 : Nat) : Int)) := by
  obtain ⟨h1, h2, _⟩ := h.cons
  unfold hexM
  rw [h2, hexd_back n hn, if_pos ⟨h1, by omega⟩]; rfl
theorem one_single {bar : List UInt8} (hb : BarOk bar) {b : Nat} (h256 : b < 256) {t v : List UInt8} {p : Nat} (h : At0 t p (singleL b bar ++ v)) : oneM t p bar = .ok ((b : Int), ((p + (singleL b bar).length : Nat) : Int)) := by
  unfold singleL at h ⊢
  unfold oneM
  have escAt : ∀ {c : UInt8} {w : List UInt8}, At0 t p (92 :: c :: w) → oneM t p bar = escM t ((p + 1 : Nat) : Int) ∧ ((p + 1 : Nat) : Int) < t.length ∧ peekB t ((p + 1 : Nat) : Int) = c.toNat ∧ At0 t (p + 2) w := by
    intro c w h
    obtain ⟨h1, h2, h3⟩ := h.cons
    obtain ⟨h4, h5, h6⟩ := h3.cons
    refine ⟨?_, h4, h5, h6⟩
    unfold oneM
    rw [if_pos h1, h2]; rfl
  unfold oneM at escAt
  by_cases e1 : b = 10
  · subst e1
    obtain ⟨q1, q2, q3, _⟩ := escAt (c := 110) (w := v) h
    rw [q1, escM, if_pos q2, q3]; rfl
  by_cases e2 : b = 13
  · subst e2
    obtain ⟨q1, q2, q3, _⟩ := escAt (c := 114) (w := v) h
    rw [q1, escM, if_pos q2, q3]; rfl
  by_cases e3 : b = 9
  · subst e3
    obtain ⟨q1, q2, q3, _⟩ := escAt (c := 116) (w := v) h
    rw [q1, escM, if_pos q2, q3]; rfl
  rw [escOf_none e1 e2 e3] at h ⊢
  simp only at h ⊢
  by_cases e4 : b < 32 ∨ 126 < b
  · rw [if_pos e4] at h ⊢
    obtain ⟨q1, q2, q3, q4⟩ := escAt (c := 120) (w := hexd (b / 16) :: hexd (b % 16) :: v) h
    have g1 := hexM_at (by omega) q4
    have g2 := hexM_at (by omega) q4.cons.2.2
    rw [q1, escM, if_pos q2, q3]
    simp only [show ((120 : UInt8).toNat : Int) = 120 from rfl, show ((p + 1 : Nat) : Int) + 1 = ((p + 2 : Nat) : Int) by omega, g1, g2]
    simp
    omega
  · rw [if_neg e4] at h ⊢
    by_cases e5 : bar.contains b.toUInt8 = true
    · rw [if_pos e5] at h ⊢
      obtain ⟨q1, q2, q3, _⟩ := escAt (c := b.toUInt8) (w := v) h
      obtain ⟨z1, z2, z3, z4, z5⟩ := hb.2 b h256 e5
      rw [q1, escM, if_pos q2, q3, u8of b h256]
      rw [if_neg (by omega), if_neg (by omega), if_neg (by omega), if_neg (by omega), if_neg (by omega)]; rfl
    · rw [if_neg e5] at h ⊢
      obtain ⟨q1, q2, _⟩ := At0.cons (v := v) h
      have hne : b ≠ 92 := fun e => e5 (by rw [e]; exact hb.1)
      rw [if_pos q1, q2, u8of b h256]
      rw [if_neg (by omega), if_neg (by
        rw [Int.toNat_natCast]; simp only [e5]; simp; omega)]
      rfl
theorem single_head (b : Nat) (bar : List UInt8) : ∃ c v, singleL b bar = c :: v ∧ (c = 92 ∨ bar.contains c = false) := by
  unfold singleL
  split
  · exact ⟨_, _, rfl, .inl rfl⟩
  · split
    · exact ⟨_, _, rfl, .inl rfl⟩
    · split
      · exact ⟨_, _, rfl, .inl rfl⟩
      · rename_i h; exact ⟨_, _, rfl, .inr (by simpa using h)⟩
theorem single_head_in (b : Nat) : ∃ c v, singleL b inL = c :: v ∧ c ≠ 45 ∧ c ≠ 94 ∧ c ≠ 93 := by
  obtain ⟨c, v, h, h2⟩ := single_head b inL
  refine ⟨c, v, h, ?_, ?_, ?_⟩ <;> rintro rfl <;> revert h2 <;> decide
theorem single_head_sp (b : Nat) : ∃ c v, singleL b spL = c :: v ∧ c ≠ 46 ∧ c ≠ 91 := by
  obtain ⟨c, v, h, h2⟩ := single_head b spL
  refine ⟨c, v, h, ?_, ?_⟩ <;> rintro rfl <;> revert h2 <;> decide

def startB (s : CS) (c : Nat) : Bool := s.getLsbD c && (c == 0 || !s.getLsbD (c - 1))
def textFrom (s : CS) : Nat → Nat → List UInt8
  | 0, _ => []
  | n + 1, k => startP s k ++ textFrom s n (k + 1)
def setFrom (s : CS) : Nat → Nat → CS
  | 0, _ => cs0
  | n + 1, k => (if startB s k then spanS k (runEndS s k) else cs0) ||| setFrom s n (k + 1)
theorem textTo_from (s : CS) : ∀ n k, textTo s k ++ textFrom s n k = textTo s (k + n)
  | 0, k => by simp [textFrom]
  | n + 1, k => by
    have := textTo_from s n (k + 1)
    rw [textFrom, ← List.append_assoc, show textTo s k ++ startP s k = textTo s (k + 1) from rfl, this]; congr 1; omega
theorem span_get {lo hi j : Nat} (hj : j < 256) : (spanS lo hi).getLsbD j = decide (lo ≤ j ∧ j ≤ hi) := by rw [spanS, mkS_bit _ _ hj, Bool.decide_and]
theorem setFrom_get (s : CS) {j : Nat} (hj : j < 256) : ∀ n k, (setFrom s n k).getLsbD j = true ↔ ∃ c, k ≤ c ∧ c < k + n ∧ startB s c = true ∧ c ≤ j ∧ j ≤ runEndS s c
  | 0, k => by
    constructor
    · intro h; simp [setFrom, cs0] at h
    · rintro ⟨c, h1, h2, _⟩; omega
  | n + 1, k => by
    rw [setFrom, BitVec.getLsbD_or, Bool.or_eq_true, setFrom_get s hj n (k + 1)]
    constructor
    · rintro (h | ⟨c, h1, h2, h3⟩)
      · by_cases hs : startB s k = true
        · rw [if_pos hs, span_get hj] at h
          have := of_decide_eq_true h
          exact ⟨k, by omega, by omega, hs, this.1, this.2⟩
        · rw [if_neg hs] at h; simp [cs0] at h
      · exact ⟨c, by omega, by omega, h3⟩
    · rintro ⟨c, h1, h2, h3, h4, h5⟩
      by_cases e : c = k
      · subst e
        refine .inl ?_
        rw [if_pos h3, span_get hj]
        exact decide_eq_true ⟨h4, h5⟩
      · exact .inr ⟨c, by omega, by omega, h3, h4, h5⟩
theorem start_of (s : CS) : ∀ j, s.getLsbD j = true → ∃ c, c ≤ j ∧ startB s c = true ∧ ∀ i, c ≤ i → i ≤ j → s.getLsbD i = true
  | 0, h => ⟨0, Nat.le_refl _, by simp [startB, h], fun i _ h2 => by rw [show i = 0 by omega]; exact h⟩
  | j + 1, h => by
    by_cases h2 : s.getLsbD j = true
    · obtain ⟨c, c1, c2, c3⟩ := start_of s j h2
      refine ⟨c, by omega, c2, fun i i1 i2 => ?_⟩
      by_cases e : i = j + 1
      · rw [e]; exact h
      · exact c3 i i1 (by omega)
    · exact ⟨j + 1, Nat.le_refl _, by simp [startB, h, h2], fun i i1 i2 => by rw [show i = j + 1 by omega]; exact h⟩
theorem runEnd_sp (s : CS) (e : Nat) (h : e ≤ 255) : e ≤ runEndS s e ∧ runEndS s e ≤ 255 ∧ (∀ i, e < i → i ≤ runEndS s e → s.getLsbD i = true) ∧ (runEndS s e < 255 → s.getLsbD (runEndS s e + 1) = false) := runEnd_spec s 256 e h (by omega)
theorem setFrom_all (s : CS) : setFrom s 256 0 = s := by
  refine set_ext fun j hj => ?_
  rw [Bool.eq_iff_iff, setFrom_get s hj]
  constructor
  · rintro ⟨c, _, h2, h3, h4, h5⟩
    obtain ⟨_, _, r3, _⟩ := runEnd_sp s c (by omega)
    by_cases e : c = j
    · subst e; unfold startB at h3; simp only [Bool.and_eq_true] at h3; exact h3.1
    · exact r3 j (by omega) h5
  · intro h
    obtain ⟨c, c1, c2, c3⟩ := start_of s j h
    obtain ⟨r1, r2, r3, r4⟩ := runEnd_sp s c (by omega)
    refine ⟨c, by omega, by omega, c2, c1, ?_⟩
    rcases Nat.lt_or_ge (runEndS s c) j with hlt | hge
    · have := r4 (by omega)
      rw [c3 _ (by omega) (by omega)] at this; cases this
    · exact hge
theorem tf_head (s : CS) (v : List UInt8) : ∀ n k, ∃ c w, textFrom s n k ++ 93 :: v = c :: w ∧ c ≠ 45 ∧ c ≠ 94
  | 0, _ => ⟨93, v, rfl, by decide, by decide⟩
  | n + 1, k => by
    rw [textFrom, startP]
    split
    · obtain ⟨c, w, h, h1, h2, _⟩ := single_head_in k
      exact ⟨c, _, by rw [pieceL, h]; rfl, h1, h2⟩
    · exact tf_head s v n (k + 1)
theorem memF_from (s : CS) {t v : List UInt8} : ∀ (n k f : Nat) (S : CS) (p : Nat), n + k = 256 → At0 t p (textFrom s n k ++ 93 :: v) → (textFrom s n k).length < f →
    memF t f S p = .ok (S ||| setFrom s n k, ((p + (textFrom s n k).length + 1 : Nat) : Int))
  | 0, k, f, S, p, _, h, hf => by
    obtain ⟨f, rfl⟩ : ∃ m, f = m + 1 := ⟨f - 1, by omega⟩
    obtain ⟨h1, h2, _⟩ := At0.cons (v := v) h
    rw [memF, if_pos ⟨h1, by rw [h2]; rfl⟩, setFrom, show S ||| cs0 = S by simp [cs0]]; rfl
  | n + 1, k, f, S, p, hk, h, hf => by
    rw [textFrom] at h hf ⊢
    rw [setFrom]
    by_cases hs : startB s k = true
    · have hP : startP s k = pieceL k (runEndS s k) := by unfold startP; exact if_pos hs
      rw [if_pos hs]
      rw [hP] at h hf ⊢
      obtain ⟨e, he⟩ : ∃ e, e = runEndS s k := ⟨_, rfl⟩
      obtain ⟨r1, r2, _, _⟩ := runEnd_sp s k (by omega)
      rw [← he] at h hf r1 r2 ⊢
      obtain ⟨f, rfl⟩ : ∃ m, f = m + 1 := ⟨f - 1, by omega⟩
      have len1 : 0 < (singleL k inL).length := by obtain ⟨c, w, hw, _⟩ := single_head_in k; rw [hw]; simp
      have len2 : 0 < (singleL e inL).length := by obtain ⟨c, w, hw, _⟩ := single_head_in e; rw [hw]; simp
      have notClose : ∀ {q b : Nat} {u : List UInt8}, At0 t q (singleL b inL ++ u) → ¬ ((q : Int) < t.length ∧ peekB t q = 93) ∧ ¬ ((q : Int) < t.length ∧ peekB t q = 45) := fun {q b u} hq => by
        obtain ⟨c, w, hw, n1, _, n3⟩ := single_head_in b
        rw [hw] at hq
        obtain ⟨_, hc, _⟩ := At0.cons (v := w ++ u) hq
        rw [hc]
        exact ⟨fun x => n3 (UInt8.toNat_inj.1 (by simpa using (Int.ofNat.inj x.2))), fun x => n1 (UInt8.toNat_inj.1 (by simpa using (Int.ofNat.inj x.2)))⟩
      have notDash : ∀ {q : Nat}, At0 t q (textFrom s n (k + 1) ++ 93 :: v) → ¬ ((q : Int) < t.length ∧ peekB t q = 45) := fun {q} hq => by
        obtain ⟨c, w, hw, n1, _⟩ := tf_head s v n (k + 1)
        rw [hw] at hq
        obtain ⟨_, hc, _⟩ := At0.cons hq
        rw [hc]
        exact fun x => n1 (UInt8.toNat_inj.1 (by simpa using (Int.ofNat.inj x.2)))
      unfold pieceL at h hf ⊢
      by_cases e1 : k + 1 < e
      · rw [if_pos e1, if_pos (by omega : k < e)] at h hf ⊢
        simp only [List.append_assoc, List.length_append, List.length_cons, List.length_nil] at h hf ⊢
        have a1 := h.app
        obtain ⟨b1, b2, b3⟩ := At0.cons a1
        rw [memF, if_neg (notClose h).1, one_single inOk (by omega) h]
        simp only
        rw [if_pos ⟨b1, by rw [b2]; rfl⟩, show ((p + (singleL k inL).length : Nat) : Int) + 1 = ((p + (singleL k inL).length + 1 : Nat) : Int) by omega, one_single inOk (by omega) b3]
        simp only
        rw [if_neg (by omega), Int.toNat_natCast, Int.toNat_natCast, memF_from s n (k + 1) f _ _ (by omega) (At0.app (u := singleL e inL) b3) (by omega), BitVec.or_assoc]
        congr 2; omega
      · rw [if_neg e1] at h hf ⊢
        by_cases e2 : k < e
        · rw [if_pos e2] at h hf ⊢
          simp only [List.append_nil, List.append_assoc, List.length_append] at h hf ⊢
          have a1 := h.app
          have a2 := a1.app
          obtain ⟨f, rfl⟩ : ∃ m, f = m + 1 := ⟨f - 1, by omega⟩
          rw [memF, if_neg (notClose h).1, one_single inOk (by omega) h]
          simp only
          rw [if_neg (notClose a1).2, memF, if_neg (notClose a1).1, one_single inOk (by omega) a1]
          simp only
          rw [if_neg (notDash a2), Int.toNat_natCast, Int.toNat_natCast, memF_from s n (k + 1) f _ _ (by omega) a2 (by omega), BitVec.or_assoc, BitVec.or_assoc, ← BitVec.or_assoc (spanS k k)]
          have : spanS k k ||| spanS e e = spanS k e := set_ext fun j hj => by
            rw [BitVec.getLsbD_or, span_get hj, span_get hj, span_get hj, Bool.eq_iff_iff]; simp; omega
          rw [this]
          congr 2; omega
        · rw [if_neg e2] at h hf ⊢
          simp only [List.append_nil, List.append_assoc] at h hf ⊢
          have a1 := h.app
          have : e = k := by omega
          subst this
          rw [memF, if_neg (notClose h).1, one_single inOk (by omega) h]
          simp only [List.length_append] at hf ⊢
          rw [if_neg (notDash a1), Int.toNat_natCast, memF_from s n (e + 1) f _ _ (by omega) a1 (by omega), BitVec.or_assoc]
          congr 2; omega
    · have hP : startP s k = [] := by unfold startP; exact if_neg hs
      rw [hP, List.nil_append] at h hf ⊢
      rw [if_neg hs, memF_from s n (k + 1) f S p (by omega) h hf]
      simp [cs0]
theorem lone_bit {s : CS} (h : countS s = 1) : ∃ b, b < 256 ∧ nextS s 0 = some b ∧ s = spanS b b := by
  cases hn : nextS s 0 with
  | none => rw [countS_none fun i hi => nextS_none hn i (by omega) hi] at h; cases h
  | some b =>
    obtain ⟨_, h2, h3, _⟩ := nextS_some hn
    refine ⟨b, h2, rfl, set_ext fun j hj => ?_⟩
    rw [span_get hj, Bool.eq_iff_iff]
    constructor
    · intro hs
      unfold countS at h
      rw [List.countP_eq_length_filter] at h
      obtain ⟨x, hx⟩ := List.length_eq_one_iff.1 h
      have m1 : b ∈ (List.range 256).filter fun i => s.getLsbD i := List.mem_filter.2 ⟨List.mem_range.2 h2, h3⟩
      have m2 : j ∈ (List.range 256).filter fun i => s.getLsbD i := List.mem_filter.2 ⟨List.mem_range.2 hj, hs⟩
      rw [hx] at m1 m2
      have e1 := List.mem_singleton.1 m1
      have e2 := List.mem_singleton.1 m2
      exact decide_eq_true (by omega)
    · intro hd
      have := of_decide_eq_true hd
      rw [show j = b by omega]; exact h3
theorem read_at (s : CS) {t v : List UInt8} {p : Nat} (h : At0 t p (showL s ++ v)) : readM t p = (s, ((p + (showL s).length : Nat) : Int), 0, 0) := by
  unfold readM
  unfold showL at h ⊢
  by_cases h1 : countS s = 1
  · rw [if_pos h1] at h ⊢
    obtain ⟨b, hb, hn, hs⟩ := lone_bit h1
    rw [hn] at h ⊢
    simp only [Option.getD_some] at h ⊢
    obtain ⟨c, w, hw, n1, n2⟩ := single_head_sp b
    have hh := h
    rw [hw] at hh
    obtain ⟨q1, q2, _⟩ := At0.cons (v := w ++ v) hh
    rw [if_neg (by omega), itemM, q2, if_neg (fun x => n1 (UInt8.toNat_inj.1 (by simpa using (Int.ofNat.inj x)))), if_neg (fun x => n2 (UInt8.toNat_inj.1 (by simpa using (Int.ofNat.inj x)))), one_single spOk hb h]
    simp only
    rw [Int.toNat_natCast, ← hs]
  · rw [if_neg h1] at h ⊢
    by_cases h2 : 128 < countS s
    · rw [if_pos h2] at h ⊢
      have e0 := textTo_from (~~~ s) 256 0
      rw [textTo, List.nil_append, Nat.zero_add] at e0
      rw [← e0] at h ⊢
      simp only [List.append_assoc, List.cons_append, List.nil_append] at h
      obtain ⟨q1, q2, q3⟩ := At0.cons h
      obtain ⟨q4, q5, q6⟩ := At0.cons q3
      have hl := h.len
      simp only [List.length_cons, List.length_append] at hl
      rw [if_neg (by omega), itemM, q2, if_neg (by decide), if_pos (by decide), memM, show (p : Int) + 1 = ((p + 1 : Nat) : Int) by omega, if_pos ⟨q4, by rw [q5]; rfl⟩, show ((p + 1 : Nat) : Int) + 1 = ((p + 1 + 1 : Nat) : Int) by omega,
        memF_from (~~~ s) 256 0 _ _ _ rfl q6 (by omega), setFrom_all]
      simp only [List.length_cons, List.length_append, List.length_nil]
      rw [show ~~~ (cs0 ||| ~~~ s) = s by simp [cs0]]
      congr 2; omega
    · rw [if_neg h2] at h ⊢
      have e0 := textTo_from s 256 0
      rw [textTo, List.nil_append, Nat.zero_add] at e0
      rw [← e0] at h ⊢
      simp only [List.append_assoc, List.cons_append, List.nil_append] at h
      obtain ⟨q1, q2, q3⟩ := At0.cons h
      have hl := h.len
      simp only [List.length_cons, List.length_append] at hl
      obtain ⟨c, w, hw, _, n2⟩ := tf_head s v 256 0
      have q3' := q3
      rw [hw] at q3'
      obtain ⟨_, q5, _⟩ := At0.cons q3'
      rw [if_neg (by omega), itemM, q2, if_neg (by decide), if_pos (by decide), memM, show (p : Int) + 1 = ((p + 1 : Nat) : Int) by omega, if_neg (by rw [q5]; exact fun x => n2 (UInt8.toNat_inj.1 (by simpa using (Int.ofNat.inj x.2)))),
        memF_from s 256 0 _ _ _ rfl q3 (by omega), setFrom_all]
      simp only [List.length_cons, List.length_append, List.length_nil]
      rw [show cs0 ||| s = s by simp [cs0]]
      congr 2; omega
theorem showL_inj {s t : CS} : showL s = showL t ↔ s = t := ⟨fun h => by
  have h1 := read_at s (t := showL s) (v := []) (p := 0) (by simp [At0])
  have h2 := read_at t (t := showL t) (v := []) (p := 0) (by simp [At0])
  rw [← h, h1] at h2
  exact (Prod.mk.inj h2).1, fun h => by rw [h]⟩
theorem showL_ne (s : CS) : showL s ≠ [] := by
  unfold showL
  split
  · obtain ⟨c, w, h, _⟩ := single_head ((nextS s 0).getD 0) spL
    rw [h]; simp
  · split <;> simp
theorem showL_len (s : CS) : (showL s).length ≤ 4096 := by
  unfold showL
  have h1 := singleL_len ((nextS s 0).getD 0) spL
  have h2 := textTo_len s 256
  have h3 := textTo_len (~~~ s) 256
  split
  · omega
  · split <;> simp <;> omega
end Go.Proofs.YtkjnhjhkaaampaaDoor
