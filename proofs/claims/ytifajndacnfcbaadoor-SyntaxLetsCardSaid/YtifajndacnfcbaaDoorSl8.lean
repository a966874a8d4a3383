/-
  Merged: SyL, SyR, SyLt, SyK3, SyLawLets.
-/
import Derived.Test.YtifajndacnfcbaaDoorSl7
namespace Go.Proofs.YtifajndacnfcbaaDoor
open Go Go.RowKit
theorem aen {t : List UInt8} {fr : Int} : ∀ (n m : Nat) (out : List UInt8) (k : Int), 0 ≤ k → (t.length - k).toNat < n → (t.length - k).toNat < m → g8 t fr n out k = g8 t fr m out k
 | 0, _, _, _, _, h, _ => absurd h (Nat.not_lt_zero _)
 | _ + 1, 0, _, _, _, _, h => absurd h (Nat.not_lt_zero _)
 | n + 1, m + 1, out, k, h0, hn, hm => by
  rw [g8, g8]
  have hq := aek (t := t) (a := k) (b := (p8 t k).1) (ok := (p8 t k).2.1) (q := (p8 t k).2.2) rfl
  by_cases hk : k < t.length
  ·rw [if_pos hk, if_pos hk, aen n m _ (k + 1) (by omega) (by omega) (by omega), aen n m _ ((p8 t k).2.2 + 1) (by omega) (by omega) (by omega)]
  ·rw [if_neg hk, if_neg hk]
theorem afg {t : List UInt8} {fr : Int} : ∀ (n m : Nat) (k : Int), 0 ≤ k → (t.length - k).toNat < n → (t.length - k).toNat < m → j8 t fr n k = j8 t fr m k
 | 0, _, _, _, h, _ => absurd h (Nat.not_lt_zero _)
 | _ + 1, 0, _, _, _, h => absurd h (Nat.not_lt_zero _)
 | n + 1, m + 1, k, h0, hn, hm => by
  rw [j8, j8]
  by_cases hk : k < t.length
  ·rw [if_pos hk, if_pos hk, afg n m (k + 1) (by omega) (by omega) (by omega), afg n m (k + 2) (by omega) (by omega) (by omega)]
  ·rw [if_neg hk, if_neg hk]
section
variable {p t : List UInt8}
theorem aq7 {a : Int} (hb : 0 ≤ a ∧ a < t.length) {e q : Int} (h : x5 t a = .error (e, q)) : x5 (p ++ t) (p.length + a) = .error (e, p.length + q) := by
 have hl := ahy (p := p) (t := t)
 have e1 : bt (p ++ t) (p.length + a + 1) = bt t (a + 1) := by rw [Int.add_assoc]; exact aed (by omega)
 unfold x5 at h ⊢
 rw [aed hb.1, agq hb.1, e1]
 by_cases c1 : j9 (bt t a) = true
 ·rw [if_pos c1] at h ⊢
  by_cases c2 : (s6 (t.drop a.toNat) : Int) > 32
  ·rw [if_pos c2] at h ⊢; cases h; rfl
  ·rw [if_neg c2] at h; cases h
 ·rw [if_neg c1] at h ⊢
  by_cases c2 : bt t a = 34
  ·rw [if_pos c2] at h ⊢
   unfold r8 at h ⊢
   rw [Int.add_assoc, act (by omega), aen ((p ++ t).length + 1) (t.length + 1) [] (a + 1) (by omega) (by omega) (by omega)]
   cases hqf : g8 t a (t.length + 1) [] (a + 1) with
   | error x => rw [hqf] at h; cases h; rfl
   | ok x => rw [hqf] at h; cases h
  ·rw [if_neg c2] at h ⊢
   by_cases c3 : bt t a = 47
   ·rw [if_pos c3] at h ⊢
    unfold y6 at h ⊢
    rw [Int.add_assoc, ad4 hb.1 (by omega), afg ((p ++ t).length + 1) (t.length + 1) (a + 1) (by omega) (by omega) (by omega)]
    cases hqf : j8 t a (t.length + 1) (a + 1) with
    | error x => rw [hqf] at h; cases h; rfl
    | ok x => rw [hqf] at h; cases h
   ·rw [if_neg c3] at h ⊢
    by_cases c4 : ady.contains (bt t a).toNat.toUInt8 = true
    ·rw [if_pos c4] at h; cases h
    ·rw [if_neg c4] at h ⊢
     by_cases c5 : a + 1 < t.length ∧ bt t a = 62 ∧ bt t (a + 1) = 62
     ·rw [if_pos c5] at h; cases h
     ·rw [if_neg c5] at h
      rw [if_neg (fun x => c5 ⟨by omega, x.2⟩)]
      cases h; rfl
theorem ai7 : ∀ {n m : Nat} {l init : List Tok} {a : Int} {e q : Int}, 0 ≤ a → a ≤ t.length → (t.length - a).toNat < n → (t.length - a).toNat < m → n5 t n l a = .error (e, q) →
  n5 (p ++ t) m init (p.length + a) = .error (e, p.length + q)
 | 0, _, _, _, _, _, _, _, _, hn, _, _ => absurd hn (Nat.not_lt_zero _)
 | n + 1, m, l, init, a, e, q, h0, h1, hn, hm, h => by
  obtain ⟨m, rfl⟩ : ∃ q, m = q + 1 := ⟨m - 1, by omega⟩
  have hl := ahy (p := p) (t := t)
  rw [n5] at h
  rw [n5]
  by_cases ha : a < t.length
  ·rw [if_pos ha] at h
   rw [if_pos (by omega)]
   cases ho : x5 t a with
   | error x =>
    rw [ho] at h
    cases h
    rw [aq7 ⟨h0, ha⟩ ho]
   | ok r =>
    rw [ho] at h
    have hq := z2 ⟨h0, ha⟩ (k := r.1) (q := r.2) ho
    have hg := l9 (t := t) (a := r.2) ⟨by omega, hq.2⟩
    rw [aoh ⟨h0, ha⟩ ho]
    simp only
    rw [aon (by omega)]
    exact ai7 (by omega) hg.2 (by omega) (by omega) h
  ·rw [if_neg ha] at h
   cases h
end
theorem ani {s t : List UInt8} (hs : (d7 s).2.1 = 0) (ht : (d7 t).2.1 ≠ 0) (hl : s.length + t.length < 4096) :
  d7 (s ++ [10] ++ t) = ([], (d7 t).2.1, s.length + 1 + (d7 t).2.2) := by
 have gs := l9 (t := s) (a := 0) ⟨by omega, by omega⟩
 have gt := l9 (t := t) (a := 0) ⟨by omega, by omega⟩
 have k1 := abg hs (by omega)
 obtain ⟨init, e1, e2⟩ := af1 (t := t) gs.1 gs.2 k1
 have hu : s ++ [10] ++ t = s ++ 10 :: t := by simp
 have hlen : (s ++ 10 :: t).length = s.length + 1 + t.length := by simp; omega
 have hp0 : p3 (s ++ 10 :: t) 0 = adf s t (p3 s 0) := ahg ⟨by omega, by omega⟩
 have hp1 : 0 ≤ adf s t (p3 s 0) := by unfold adf; split <;> omega
 obtain ⟨m', f1, f2⟩ := e2 ((s ++ 10 :: t).length + 1) (by omega)
 have hpl : (((s ++ [10]).length : Nat) : Int) = s.length + 1 := by simp
 cases hq : n5 t (t.length + 1) [] (p3 t 0) with
 | ok l =>
  exfalso
  apply ht
  unfold d7
  rw [if_neg (by omega), hq]
 | error x =>
  obtain ⟨e, q⟩ := x
  have g2 := ai7 (p := s ++ [10]) (m := m') (init := init) gt.1 gt.2 (by omega) (by omega) hq
  rw [hpl, hu] at g2
  have ht2 : d7 t = ([], e, q) := by
   unfold d7
   rw [if_neg (by omega), hq]
  rw [ht2, hu]
  unfold d7
  rw [if_neg (by omega), hp0, f2, g2]
end Go.Proofs.YtifajndacnfcbaaDoor
namespace Go.Proofs.YtifajndacnfcbaaDoor
open Go Go.RowKit
mutual
def shX (d : Int) : Ex → Ex
 | .name p s => .name (p + d) s
 | .text p s => .text (p + d) s
 | .regex p s => .regex (p + d) s
 | .keyed p a => .keyed (p + d) (shX d a)
 | .unary p o a => .unary (p + d) o (shX d a)
 | .binary p o a b => .binary (p + d) o (shX d a) (shX d b)
 | .call p w l => .call (p + d) w (ac4 d l)
def ac4 (d : Int) : ExL → ExL
 | .nil => .nil
 | .cons a r => .cons (shX d a) (ac4 d r)
end
theorem alh (d : Int) : ∀ l : ExL, (ac4 d l).len = l.len
 | .nil => by rw [ac4]
 | .cons a r => by rw [ac4]; show (ac4 d r).len + 1 = r.len + 1; rw [alh d r]
theorem ajo (d : Int) (b : Ex) : ∀ l : ExL, ac4 d (l.snoc b) = (ac4 d l).snoc (shX d b)
 | .nil => by simp only [ExL.snoc, ac4]
 | .cons a r => by simp only [ExL.snoc, ac4, ajo d b r]
theorem af8 (d : Int) (e : Ex) : rkX (shX d e) = rkX e := by cases e <;> simp only [shX, rkX]
mutual
theorem ac7 (d : Int) : ∀ e : Ex, m5 (shX d e) = m5 e
 | .name p s => by simp only [shX, m5]
 | .text p s => by simp only [shX, m5]
 | .regex p s => by simp only [shX, m5]
 | .keyed p a => by simp only [shX, m5, af8, ac7 d a]
 | .unary p o a => by simp only [shX, m5, af8, ac7 d a]
 | .binary p o a b => by simp only [shX, m5, af8, ac7 d a, ac7 d b]
 | .call p w l => by simp only [shX, m5, as1 d l]
theorem as1 (d : Int) : ∀ l : ExL, abt (ac4 d l) = abt l
 | .nil => by rw [ac4]
 | .cons a r => by simp only [ac4, abt, af8, ac7 d a, an4 d r]
theorem an4 (d : Int) : ∀ l : ExL, abl (ac4 d l) = abl l
 | .nil => by rw [ac4]
 | .cons a r => by simp only [ac4, abl, af8, ac7 d a, an4 d r]
end
theorem aod (d : Int) (e : Ex) (n : Int) : g0 (shX d e) n = g0 e n := by unfold g0; rw [af8, ac7]
theorem atu (d : Int) (e : Ex) : plX (shX d e) = plX e + d := by cases e <;> simp only [shX, plX, aqh]
def arg (d : Int) (e : Int × Int) : Int × Int := if e.1 = -1 then e else (e.1, e.2 + d)
def rS {α : Type} (g : α → α) (d : Int) (n : Nat) : RsX α → RsX α
 | .error e => .error (arg d e)
 | .ok (a, q) => .ok (g a, (q.1 + n, q.2))
def wS (d : Int) (n : Nat) : Except (Int × Int) PSx → Except (Int × Int) PSx
 | .error e => .error (arg d e)
 | .ok q => .ok (q.1 + n, q.2)
section
variable {ts pre : List Tok} {d : Int}
theorem aha {k : Nat} (hk : k < ts.length) : a8 (pre ++ ts.map (shT d)) (k + pre.length) = shT d (a8 ts k) := by
 unfold a8
 rw [List.getD_eq_getElem?_getD, List.getD_eq_getElem?_getD, List.getElem?_append_right (by omega), Nat.add_sub_cancel, List.getElem?_map, List.getElem?_eq_getElem hk]
 rfl
theorem ah8 {k : Nat} (hk : k < ts.length) : (a8 (pre ++ ts.map (shT d)) (k + pre.length)).1 = (a8 ts k).1 := by rw [aha hk]; rfl
theorem afk {k : Nat} (hk : k < ts.length) : (a8 (pre ++ ts.map (shT d)) (k + pre.length)).2.1 = (a8 ts k).2.1 + d := by rw [aha hk]; rfl
theorem afs {k : Nat} (hk : k < ts.length) : (a8 (pre ++ ts.map (shT d)) (k + pre.length)).2.2 = (a8 ts k).2.2 := by rw [aha hk]; rfl
theorem ag8 {k : Nat} (hk : k < ts.length) (m : Bs) : isM (pre ++ ts.map (shT d)) (k + pre.length) m = isM ts k m := by
 unfold isM; rw [aha hk]; rfl
theorem aj0 {k : Nat} (hk : k < ts.length) (o : Int) (m : Bs) : l5 (pre ++ ts.map (shT d)) (k + pre.length, o) m = wS d pre.length (l5 ts (k, o) m) := by
 unfold l5
 dsimp only
 rw [ag8 hk, aha hk]
 cases isM ts k m with
 | true => simp only [if_true, wS, Nat.add_right_comm]
 | false => rfl
theorem ala {k : Nat} (hk : k < ts.length) (o : Int) (m : Bs) : m7 (pre ++ ts.map (shT d)) (k + pre.length, o) m = wS d pre.length (m7 ts (k, o) m) := by
 unfold m7
 dsimp only
 rw [ag8 hk, aha hk]
 cases isM ts k m with
 | true => simp only [if_true, wS, Nat.add_right_comm]
 | false => rfl
theorem alq {k : Nat} (hk : k < ts.length) (o : Int) (m : Bs) : l7 (pre ++ ts.map (shT d)) (k + pre.length, o) m = wS d pre.length (l7 ts (k, o) m) := by
 unfold l7
 dsimp only
 rw [ag8 hk, aha hk]
 cases isM ts k m with
 | true =>
  by_cases h : 64 ≤ o
  ·simp only [if_true, if_pos h]; rfl
  ·simp only [if_true, if_neg h, wS, Nat.add_right_comm]
 | false => rfl
structure Shf (ts pre : List Tok) (d : Int) (f : Nat) : Prop where
 e : ∀ l k o, k < ts.length → pE (pre ++ ts.map (shT d)) f l (k + pre.length, o) = rS (shX d) d pre.length (pE ts f l (k, o))
 l : ∀ l b k o, k < ts.length → pL (pre ++ ts.map (shT d)) f l (shX d b) (k + pre.length, o) = rS (shX d) d pre.length (pL ts f l b (k, o))
 p : ∀ k o, k < ts.length → pP (pre ++ ts.map (shT d)) f (k + pre.length, o) = rS (shX d) d pre.length (pP ts f (k, o))
 s : ∀ b k o, k < ts.length → pS (pre ++ ts.map (shT d)) f (shX d b) (k + pre.length, o) = rS (shX d) d pre.length (pS ts f b (k, o))
 a : ∀ k o, k < ts.length → pA (pre ++ ts.map (shT d)) f (k + pre.length, o) = rS (shX d) d pre.length (pA ts f (k, o))
 c : ∀ k o, k < ts.length → (a8 ts k).1 ≠ 0 → pC (pre ++ ts.map (shT d)) f (k + pre.length, o) = rS (shX d) d pre.length (pC ts f (k, o))
 r : ∀ n b k o, k < ts.length → pR (pre ++ ts.map (shT d)) f n (ac4 d b) (k + pre.length, o) = rS (ac4 d) d pre.length (pR ts f n b (k, o))
theorem shf (hE : acj ts) : ∀ f, Shf ts pre d f := by
 have nx : ∀ {k : Nat}, (a8 ts k).1 ≠ 0 → k + 1 < ts.length := fun {k} h => by have := hE.lt k h; omega
 have nm : ∀ {k : Nat} {m : Bs}, isM ts k m = true → k + 1 < ts.length := fun h => nx (by rw [(q6 h).1]; decide)
 intro f
 induction f with
 | zero =>
  refine ⟨?_, ?_, ?_, ?_, ?_, ?_, ?_⟩ <;> intros <;> first | (rw [pE, pE]; rfl) | (rw [pL, pL]; rfl) | (rw [pP, pP]; rfl) | (rw [pS, pS]; rfl) | (rw [pA, pA]; rfl) | (rw [pC, pC]; rfl) | (rw [pR, pR]; rfl)
 | succ f ih =>
  have pg := prog ts hE.lt f
  have lt1 : ∀ {q1 : Nat}, q1 ≤ ts.length - 1 → q1 < ts.length := fun {q1} h => by have := hE.1; omega
  have br : ∀ (g : Ex → Ex) (g2 : Ex → Ex) (m m2 : Bs) (k : Nat) (o : Int), k < ts.length → (∀ a, shX d (g a) = g2 (shX d a)) →
    (match l7 (pre ++ ts.map (shT d)) (k + pre.length, o) m with
     | .error e => .error e
     | .ok q1 => match pE (pre ++ ts.map (shT d)) f 0 q1 with
      | .error e => .error e
      | .ok (a, q2) => match m7 (pre ++ ts.map (shT d)) q2 m2 with
       | .error e => .error e
       | .ok q3 => (.ok (g2 a, q3) : RsX Ex)) = rS (shX d) d pre.length (match l7 ts (k, o) m with
     | .error e => .error e
     | .ok q1 => match pE ts f 0 q1 with
      | .error e => .error e
      | .ok (a, q2) => match m7 ts q2 m2 with
       | .error e => .error e
       | .ok q3 => .ok (g a, q3)) := by
   intro g g2 m m2 k o hk hg
   rw [alq hk]
   cases h1 : l7 ts (k, o) m with
   | error e => rfl
   | ok q1 =>
    obtain ⟨m1, _, rfl⟩ := s5 h1
    dsimp only [wS]
    rw [ih.e 0 (k + 1) (o + 1) (nm m1)]
    cases h2 : pE ts f 0 (k + 1, o + 1) with
    | error e => rfl
    | ok x =>
     obtain ⟨a, k2, o2⟩ := x
     dsimp only [rS]
     rw [ala (lt1 (pg.e _ _ _ _ h2).2.1)]
     cases h3 : m7 ts (k2, o2) m2 with
     | error e => rfl
     | ok q3 => dsimp only [wS, rS]; rw [hg]
  refine ⟨fun l k o hk => ?_, fun l b k o hk => ?_, fun k o hk => ?_, fun b k o hk => ?_, fun k o hk => ?_, fun k o hk h0 => ?_, fun n b k o hk => ?_⟩
  ·rw [pE, pE]
   by_cases hl : 5 ≤ l
   ·rw [if_pos hl, if_pos hl]; exact ih.p k o hk
   ·rw [if_neg hl, if_neg hl, ih.e (l + 1) k o hk]
    cases h : pE ts f (l + 1) (k, o) with
    | error e => rfl
    | ok x =>
     obtain ⟨a, k1, o1⟩ := x
     exact ih.l l a k1 o1 (lt1 (pg.e _ _ _ _ h).2.1)
  ·rw [pL, pL]
   dsimp only
   simp only [ah8 hk, afk hk, afs hk]
   by_cases hm : (a8 ts k).1 = 4 ∧ d8 (a8 ts k).2.2 = l
   ·rw [if_pos hm, if_pos hm, Nat.add_right_comm k pre.length 1, ih.e (l + 1) (k + 1) o (nx (by rw [hm.1]; decide))]
    cases h : pE ts f (l + 1) (k + 1, o) with
    | error e => rfl
    | ok x =>
     obtain ⟨a, k1, o1⟩ := x
     dsimp only [rS]
     have := ih.l l (.binary (a8 ts k).2.1 (a8 ts k).2.2 b a) k1 o1 (lt1 (pg.e _ _ _ _ h).2.1)
     rw [shX] at this
     exact this
   ·rw [if_neg hm, if_neg hm]; rfl
  ·rw [pP, pP, ih.a k o hk]
   cases h : pA ts f (k, o) with
   | error e => rfl
   | ok x =>
    obtain ⟨a, k1, o1⟩ := x
    exact ih.s a k1 o1 (lt1 (pg.a _ _ _ h).2.1)
  ·rw [pS, pS]
   dsimp only
   simp only [ag8 hk, afk hk, afs hk]
   by_cases hm : isM ts k [42] = true ∨ isM ts k [43] = true ∨ isM ts k [63] = true
   ·rw [if_pos hm, if_pos hm, Nat.add_right_comm k pre.length 1]
    have := ih.s (.unary (a8 ts k).2.1 (a8 ts k).2.2 b) (k + 1) o (by rcases hm with hm | hm | hm <;> exact nm hm)
    rw [shX] at this
    exact this
   ·rw [if_neg hm, if_neg hm]; rfl
  ·rw [pA, pA]
   dsimp only
   simp only [ag8 hk, ah8 hk, afk hk, afs hk]
   by_cases c1 : (a8 ts k).1 = 2
   ·rw [if_pos c1, if_pos c1]; dsimp only [rS]; rw [shX, Nat.add_right_comm]
   rw [if_neg c1, if_neg c1]
   by_cases c2 : (a8 ts k).1 = 3
   ·rw [if_pos c2, if_pos c2]; dsimp only [rS]; rw [shX, Nat.add_right_comm]
   rw [if_neg c2, if_neg c2]
   by_cases c3 : (a8 ts k).1 = 1 ∧ 0 < d9 (a8 ts k).2.2
   ·rw [if_pos c3, if_pos c3]; exact ih.c k o hk (by rw [c3.1]; decide)
   rw [if_neg c3, if_neg c3]
   by_cases c4 : (a8 ts k).1 = 1 ∧ d9 (a8 ts k).2.2 = 0
   ·rw [if_pos c4, if_pos c4]; dsimp only [rS]; rw [shX, Nat.add_right_comm]
   rw [if_neg c4, if_neg c4]
   by_cases c5 : isM ts k [123] = true
   ·rw [if_pos c5, if_pos c5]
    exact br (.keyed (a8 ts k).2.1) (.keyed ((a8 ts k).2.1 + d)) _ _ k o hk (fun a => by rw [shX])
   rw [if_neg c5, if_neg c5]
   by_cases c6 : isM ts k [40] = true
   ·rw [if_pos c6, if_pos c6]
    exact br (fun a => a) (fun a => a) _ _ k o hk (fun a => rfl)
   rw [if_neg c6, if_neg c6]
   rfl
  ·rw [pC, pC]
   dsimp only
   simp only [afk hk, afs hk]
   rw [Nat.add_right_comm k pre.length 1, alq (nx h0)]
   cases h1 : l7 ts (k + 1, o) [40] with
   | error e => rfl
   | ok q1 =>
    obtain ⟨m1, _, rfl⟩ := s5 h1
    dsimp only [wS]
    have hr := ih.r (d9 (a8 ts k).2.2).toNat .nil (k + 1 + 1) (o + 1) (nm m1)
    rw [ac4] at hr
    rw [hr]
    cases h2 : pR ts f (d9 (a8 ts k).2.2).toNat .nil (k + 1 + 1, o + 1) with
    | error e => rfl
    | ok x =>
     obtain ⟨a, k2, o2⟩ := x
     dsimp only [rS]
     have := nm m1
     rw [ala (lt1 ((pg.r _ _ _ _ _ h2).2.1 (by dsimp only; omega)))]
     cases h3 : m7 ts (k2, o2) [41] with
     | error e => rfl
     | ok q3 => dsimp only [wS, rS]; rw [shX]
  ·rw [pR, pR, alh]
   by_cases hn : n ≤ b.len
   ·rw [if_pos hn, if_pos hn]; rfl
   rw [if_neg hn, if_neg hn]
   have hw : (if 0 < b.len then l5 (pre ++ ts.map (shT d)) (k + pre.length, o) [44] else .ok (k + pre.length, o)) = wS d pre.length (if 0 < b.len then l5 ts (k, o) [44] else .ok (k, o)) := by
    by_cases h0 : 0 < b.len
    ·rw [if_pos h0, if_pos h0, aj0 hk]
    ·rw [if_neg h0, if_neg h0]; rfl
   rw [hw]
   cases h1 : (if 0 < b.len then l5 ts (k, o) [44] else .ok (k, o)) with
   | error e => rfl
   | ok q1 =>
    obtain ⟨k1, o1⟩ := q1
    have hk1 : k1 < ts.length := by
     split at h1
     ·obtain ⟨m1, m2⟩ := s9 h1
      cases m2
      exact nm m1
     ·cases h1; exact hk
    dsimp only [wS]
    rw [ih.e 0 k1 o1 hk1]
    cases h2 : pE ts f 0 (k1, o1) with
    | error e => rfl
    | ok x =>
     obtain ⟨a, k2, o2⟩ := x
     dsimp only [rS]
     rw [← ajo]
     exact ih.r n (b.snoc a) k2 o2 (lt1 (pg.e _ _ _ _ h2).2.1)
end
theorem atp {ts : List Tok} {g l : Nat} {q : PSx} (hg : BIG ts ≤ g) : pE ts g l q = sE ts l q := atf rfl ((ab9 ts _).e l q (by unfold BIG; omega)) hg
section
variable {ts pre : List Tok} {d : Int}
theorem atj : BIG ts ≤ BIG (pre ++ ts.map (shT d)) := by unfold BIG; rw [List.length_append, List.length_map]; omega
theorem as8 (hE : acj ts) {l k : Nat} {o : Int} (hk : k < ts.length) : sE (pre ++ ts.map (shT d)) l (k + pre.length, o) = rS (shX d) d pre.length (sE ts l (k, o)) := by
 unfold sE
 rw [(shf hE _).e l k o hk, atp atj]
 rfl
def shD (d : Int) (x : m8) : m8 := (x.1 + d, x.2.1, shX d x.2.2)
theorem ata (hE : acj ts) (l0 : List m8) : ∀ (f : Nat) (l : List m8) (k : Nat) (o : Int), k < ts.length →
  pD (pre ++ ts.map (shT d)) (BIG (pre ++ ts.map (shT d))) f (l0 ++ l.map (shD d)) (k + pre.length, o) = rS (fun x => l0 ++ x.map (shD d)) d pre.length (pD ts (BIG ts) f l (k, o))
 | 0, l, k, o, hk => by rw [pD, pD]; rfl
 | f + 1, l, k, o, hk => by
  have nx : ∀ {k : Nat}, (a8 ts k).1 ≠ 0 → k + 1 < ts.length := fun {k} h => by have := hE.lt k h; omega
  have nm : ∀ {k : Nat} {m : Bs}, isM ts k m = true → k + 1 < ts.length := fun h => nx (by rw [(q6 h).1]; decide)
  rw [ae5, ae5]
  dsimp only
  simp only [ah8 hk, afs hk]
  by_cases h1 : (a8 ts k).1 = 1 ∧ (a8 ts k).2.2 = [108, 101, 116]
  ·rw [if_pos h1, if_pos h1, Nat.add_right_comm k pre.length 1]
   have hk1 := nx (k := k) (by rw [h1.1]; decide)
   simp only [ah8 hk1, afk hk1, afs hk1]
   by_cases h2 : (a8 ts (k + 1)).1 ≠ 1 ∨ d9 (a8 ts (k + 1)).2.2 ≠ 0
   ·rw [if_pos h2, if_pos h2]; rfl
   ·rw [if_neg h2, if_neg h2, Nat.add_right_comm k pre.length 2]
    have hk2 := nx (k := k + 1) (by
     rw [not_or] at h2
     rw [Decidable.not_not.1 h2.1]; decide)
    rw [aj0 hk2]
    cases h3 : l5 ts (k + 2, o) [61] with
    | error e => rfl
    | ok q1 =>
     obtain ⟨m1, rfl⟩ := s9 h3
     dsimp only [wS]
     have hk3 := nm m1
     rw [as8 hE hk3]
     cases h4 : sE ts 0 (k + 2 + 1, o) with
     | error e => rfl
     | ok x =>
      obtain ⟨b, k2, o2⟩ := x
      dsimp only [rS]
      have hk4 : k2 < ts.length := ae9 hE h4
      rw [aj0 hk4]
      cases h5 : l5 ts (k2, o2) [59] with
      | error e => rfl
      | ok q3 =>
       obtain ⟨m2, rfl⟩ := s9 h5
       dsimp only [wS]
       have := ata hE l0 f (l ++ [((a8 ts (k + 1)).2.1, (a8 ts (k + 1)).2.2, b)]) (k2 + 1) o2 (nm m2)
       rw [List.map_append, ← List.append_assoc] at this
       exact this
  ·rw [if_neg h1, if_neg h1]; rfl
theorem as7 (hE : acj ts) : ∀ {f : Nat} {l : List m8} {q : PSx} {l2 : List m8} {q2 : PSx}, q.1 < ts.length → pD ts (BIG ts) f l q = .ok (l2, q2) → q2.1 < ts.length
 | 0, _, _, _, _, _, h => by rw [pD] at h; cases h
 | f + 1, l, q, l2, q2, hk, h => by
  rw [ae5] at h
  split at h
  ·split at h
   ·cases h
   ·split at h
    ·cases h
    ·split at h
     ·cases h
     ·split at h
      ·cases h
      ·rename_i q5 h5
       obtain ⟨m1, rfl⟩ := s9 h5
       exact as7 hE (by have := hE.lt _ (show (a8 ts _).1 ≠ 0 by rw [(q6 m1).1]; decide); dsimp only; omega) h
  ·cases h; exact hk
theorem akl (hE : acj ts) : ∀ (f g : Nat) (l : List m8) (k : Nat) (o : Int), k < ts.length → ts.length < f + k → ts.length < g + k → pD ts (BIG ts) f l (k, o) = pD ts (BIG ts) g l (k, o) ∧ pD ts (BIG ts) f l (k, o) ≠ .error noF
 | 0, _, _, _, _, h, h1, _ => by omega
 | _ + 1, 0, _, _, _, h, _, h1 => by omega
 | f + 1, g + 1, l, k, o, hk, hf, hg => by
  have nx : ∀ {k : Nat}, (a8 ts k).1 ≠ 0 → k + 1 < ts.length := fun {k} h => by have := hE.lt k h; omega
  rw [ae5, ae5]
  by_cases h1 : (a8 ts k).1 = 1 ∧ (a8 ts k).2.2 = [108, 101, 116]
  ·rw [if_pos h1, if_pos h1]
   by_cases h2 : (a8 ts (k + 1)).1 ≠ 1 ∨ d9 (a8 ts (k + 1)).2.2 ≠ 0
   ·rw [if_pos h2, if_pos h2]; exact ⟨rfl, fun h => by cases h⟩
   ·rw [if_neg h2, if_neg h2]
    cases h3 : l5 ts (k + 2, o) [61] with
    | error e => exact ⟨rfl, aar (ahz h3)⟩
    | ok q1 =>
     obtain ⟨m1, rfl⟩ := s9 h3
     dsimp only
     cases h4 : sE ts 0 (k + 2 + 1, o) with
     | error e => exact ⟨rfl, fun h => (ab9 ts (BIG ts)).e 0 (k + 2 + 1, o) (by unfold BIG; dsimp only; omega) (by cases h; exact h4)⟩
     | ok x =>
      obtain ⟨b, k2, o2⟩ := x
      dsimp only
      have h6 := (abu h4).1
      dsimp only at h6
      cases h5 : l5 ts (k2, o2) [59] with
      | error e => exact ⟨rfl, aar (ahz h5)⟩
      | ok q3 =>
       obtain ⟨m2, rfl⟩ := s9 h5
       have := nx (show (a8 ts k2).1 ≠ 0 by rw [(q6 m2).1]; decide)
       exact akl hE f g _ (k2 + 1) o2 this (by omega) (by omega)
  ·rw [if_neg h1, if_neg h1]; exact ⟨rfl, fun h => by cases h⟩
end
end Go.Proofs.YtifajndacnfcbaaDoor
namespace Go.Proofs.YtifajndacnfcbaaDoor
open Go Go.RowKit
def ah4 : Bs := [108, 101, 116, 32, 113, 32, 61, 32, 47, 97, 47, 59]
def o6 : List Tok := [(1, 0, [108, 101, 116]), (1, 4, [113]), (4, 6, [61]), (3, 8, [97]), (4, 11, [59])]
def aik : m8 := (4, [113], .regex 8 [97])
theorem ai9 : d7 ah4 = (o6 ++ [(0, 12, [])], 0, 0) := by kernel_rfl
section
variable {X : List Tok}
theorem ast : sE (o6 ++ X) 0 (3, 0) = .ok (.regex 8 [97], (4, 0)) := by
 have hP : sP (o6 ++ X) (3, 0) = .ok (.regex 8 [97], (4, 0)) := by
  rw [aro, agl, if_neg (by show ¬ (3 : Int) = 2; decide), if_pos (by show (3 : Int) = 3; rfl)]
  show sS (o6 ++ X) (.regex 8 [97]) (4, 0) = _
  rw [aqs, if_neg]
  rintro (h | h | h) <;> cases h
 rw [E_P (by decide), hP]
 exact aqv (by
  rintro ⟨_, h⟩
  exact absurd (show (0 : Int) ≤ d8 [59] from h) (by decide)) _
theorem ao5 (f : Nat) : pD (o6 ++ X) (BIG (o6 ++ X)) (f + 1) [] (0, 0) = pD (o6 ++ X) (BIG (o6 ++ X)) f [aik] (5, 0) := by
 rw [ae5, if_pos ⟨rfl, rfl⟩, if_neg (by rintro (h | h) <;> exact h rfl)]
 rw [show l5 (o6 ++ X) (((0, 0) : PSx).1 + 2, ((0, 0) : PSx).2) [61] = .ok (3, 0) from rfl]
 dsimp only
 rw [ast]
 dsimp only
 rw [show l5 (o6 ++ X) (4, 0) [59] = .ok (5, 0) from rfl]
 rfl
end
theorem anl {ts : List Tok} (hE : acj ts) : r9 (o6 ++ ts.map (shT 13)) = match r9 ts with
  | .error e => .error (arg 13 e)
  | .ok (l, a) => .ok (aik :: l.map (shD 13), shX 13 a) := by
 rw [aap, aap, show pD (o6 ++ ts.map (shT 13)) (BIG (o6 ++ ts.map (shT 13))) (BIG (o6 ++ ts.map (shT 13))) [] (0, 0) = pD (o6 ++ ts.map (shT 13)) (BIG (o6 ++ ts.map (shT 13))) ((10 * (o6 ++ ts.map (shT 13)).length + 19) + 1) [] (0, 0) from rfl, ao5]
 have h1 := ata (pre := o6) (d := 13) hE [aik] (10 * (o6 ++ ts.map (shT 13)).length + 19) [] 0 0 hE.1
 have h2 := (akl hE (10 * (o6 ++ ts.map (shT 13)).length + 19) (BIG ts) [] 0 0 hE.1 (by rw [List.length_append, List.length_map]; omega) (by unfold BIG; omega)).1
 rw [h2] at h1
 rw [show pD (o6 ++ ts.map (shT 13)) (BIG (o6 ++ ts.map (shT 13))) (10 * (o6 ++ ts.map (shT 13)).length + 19) [aik] (5, 0) = _ from h1]
 cases h3 : pD ts (BIG ts) (BIG ts) [] (0, 0) with
 | error e => rfl
 | ok x =>
  obtain ⟨l, k, o⟩ := x
  have hk : k < ts.length := as7 hE hE.1 h3
  dsimp only [rS]
  unfold anq
  dsimp only
  rw [as8 hE hk]
  cases h4 : sE ts 0 (k, o) with
  | error e => rfl
  | ok y =>
   obtain ⟨a, k2, o2⟩ := y
   have hk2 : k2 < ts.length := ae9 hE h4
   dsimp only [rS]
   rw [ah8 hk2, afk hk2]
   by_cases h0 : (a8 ts k2).1 = 0
   ·rw [if_pos h0, if_pos h0]; rfl
   ·rw [if_neg h0, if_neg h0]; rfl
theorem apy {ts : List Tok} (hE : acj ts) {x : Int × Int} (h : r9 ts = .error x) : x ≠ noF := by
 rw [aap] at h
 unfold anq at h
 split at h
 ·rename_i e h2
  cases h
  intro he
  exact (akl hE (BIG ts) (BIG ts) [] 0 0 hE.1 (by unfold BIG; omega) (by unfold BIG; omega)).2 (by rw [h2, he])
 ·split at h
  ·rename_i h2
   cases h
   intro he
   exact (ab9 ts (BIG ts)).e _ _ (by unfold BIG; omega) (by rw [← he]; exact h2)
  ·split at h
   ·cases h
   ·cases h; intro he; cases he
theorem apn {t : List UInt8} (h : (d7 t).2.1 = 0) : acj (d7 t).1 := (ajh h).2.2.1
theorem aht {t : List UInt8} (hl : t.length + 13 ≤ 4096) : l8 (ah4 ++ [10] ++ t) = match l8 t with
  | .error (c, p) => .error (c, p + 13)
  | .ok (l, a) => .ok (aik :: l.map (shD 13), shX 13 a) := by
 have hs : (d7 ah4).2.1 = 0 := by rw [ai9]
 have hlen : ah4.length = 12 := rfl
 by_cases h0 : (d7 t).2.1 = 0
 ·obtain ⟨init, e1, e2⟩ := ap6 hs h0 (by omega)
  rw [ai9] at e1
  have hi : init = o6 := (List.append_cancel_right (show o6 ++ [(0, 12, [])] = init ++ [(0, 12, [])] from e1)).symm
  subst hi
  have hsc : (d7 (ah4 ++ [10] ++ t)).2.1 = 0 := by rw [e2]
  have hE := apn h0
  have h1 : l8 (ah4 ++ [10] ++ t) = r9 (o6 ++ (d7 t).1.map (shT 13)) := by
   unfold l8
   rw [if_pos hsc, e2]
   rfl
  have h2 : l8 t = r9 (d7 t).1 := by unfold l8; rw [if_pos h0]
  rw [h1, h2, anl hE]
  cases h3 : r9 (d7 t).1 with
  | error x =>
   obtain ⟨c, p⟩ := x
   have := (af4 h3).n1 (apy hE h3)
   show (.error (arg 13 (c, p)) : Except (Int × Int) (List m8 × Ex)) = .error (c, p + 13)
   unfold arg
   rw [if_neg this]
  | ok x => rfl
 ·have e2 := ani hs h0 (by omega)
  have hsc : (d7 (ah4 ++ [10] ++ t)).2.1 ≠ 0 := by rw [e2]; exact h0
  have h1 : l8 t = .error ((d7 t).2.1, (d7 t).2.2) := by unfold l8; rw [if_neg h0]
  rw [h1]
  unfold l8
  rw [if_neg hsc, e2]
  show (.error ((d7 t).2.1, (ah4.length : Int) + 1 + (d7 t).2.2) : Except (Int × Int) (List m8 × Ex)) = .error ((d7 t).2.1, (d7 t).2.2 + 13)
  rw [hlen]
  congr 2
  omega
theorem aoa (d : Int) : ∀ l : List m8, adc (l.map (shD d)) = adc l
 | [] => rfl
 | x :: r => by
  have := aoa d r
  unfold adc at this ⊢
  rw [List.map_cons, List.flatMap_cons, List.flatMap_cons, this]
  unfold alv shD
  dsimp only
  rw [aod]
theorem apk (l : List m8) (a : Ex) : l6 (aik :: l.map (shD 13)) (shX 13 a) = ah4 ++ [10] ++ l6 l a := by
 unfold l6
 rw [aod, show adc (aik :: l.map (shD 13)) = alv aik ++ adc (l.map (shD 13)) from rfl, aoa]
 rw [show alv aik = ah4 ++ [10] by kernel_rfl]
 simp only [List.append_assoc]
end Go.Proofs.YtifajndacnfcbaaDoor
set_option maxRecDepth 100000
namespace Go.Proofs.YtifajndacnfcbaaDoor
open Go Go.RowKit
theorem alr : m4 Tryd.prog 8 = true := by kernel_rfl
theorem aig : f0 Tryd.prog 41 0 = some 0 := by kernel_rfl
theorem ai0 : f0 Tryd.prog 26 0 = some 0 := by kernel_rfl
theorem ai5 : f0 Tryd.prog 26 1 = some 1 := by kernel_rfl
def afu (text : List UInt8) (l1 : List m8) (a1 : Ex) (l2 : List m8) (a2 : Ex) (K : Bool → Prop) : Prop :=
 (l8 text = .ok (l1, a1)) ∧
 (∀ (qb1 : Nat) (dw1 : Value) (mv1 : Value) (ds1 : List aa5) (R1 : List (Nat × Obj)) (B : List (Nat × Obj)), (acl B qb1 dw1 mv1 ds1 R1 l1 a1 ∧ ∀ x ∈ ([] : List (Nat × Obj)), x ∈ B) →
  (I64 ((text.length : Int) + (([108, 101, 116, 32, 113, 32, 61, 32, 47, 97, 47, 59, 10] : List UInt8).length : Int))) ∧
  (if (decide (4096 < (text.length : Int) + (([108, 101, 116, 32, 113, 32, 61, 32, 47, 97, 47, 59, 10] : List UInt8).length : Int))) = true then
   K true
  else
   (([108, 101, 116, 32, 113, 32, 61, 32, 47, 97, 47, 59, 10] : List UInt8).length + text.length ≤ 9223372036854775807) ∧
   (l8 (([108, 101, 116, 32, 113, 32, 61, 32, 47, 97, 47, 59, 10] : List UInt8) ++ text) = .ok (l2, a2)) ∧
   (∀ (qb2 : Nat) (dw2 : Value) (mv2 : Value) (ds2 : List aa5) (R2 : List (Nat × Obj)) (B_1' : List (Nat × Obj)), (acl B_1' qb2 dw2 mv2 ds2 R2 l2 a2 ∧ ∀ x ∈ B, x ∈ B_1') →
    ((qb2, Obj.cells [dw2, mv2].toArray 39 (0, 0)) ∈ B_1') ∧
    (aay dw2 41 3 ds2.length (ds2.flatMap aak) R2) ∧
    ((qb1, Obj.cells [dw1, mv1].toArray 39 (0, 0)) ∈ B_1') ∧
    (aay dw1 41 3 ds1.length (ds1.flatMap aak) R1) ∧
    (I64 ((ds1.length : Int) + 1)) ∧
    ((!decide ((ds2.length : Int) = (ds1.length : Int) + 1)) = false → ((qb2, Obj.cells [dw2, mv2].toArray 39 (0, 0)) ∈ B_1') ∧ (aay dw2 41 3 ds2.length (ds2.flatMap aak) R2) ∧ (0 ≤ (0 : Int) ∧ (0 : Int) < (ds2.length : Int)) ∧ (aay dw2 41 3 ds2.length (ds2.flatMap aak) R2 ∧ ∀ p ∈ R2, p ∈ B_1') ∧ (((0 : Int)).toNat < ds2.length)) ∧
    (((!decide ((ds2.length : Int) = (ds1.length : Int) + 1)) || (!decide ((ds2.getD ((0 : Int)).toNat default).2.1 = ([113] : List UInt8)))) = false → ((qb2, Obj.cells [dw2, mv2].toArray 39 (0, 0)) ∈ B_1') ∧ (aay dw2 41 3 ds2.length (ds2.flatMap aak) R2) ∧ (0 ≤ (0 : Int) ∧ (0 : Int) < (ds2.length : Int)) ∧ (aay dw2 41 3 ds2.length (ds2.flatMap aak) R2 ∧ ∀ p ∈ R2, p ∈ B_1') ∧ (((0 : Int)).toNat < ds2.length)) ∧
    (if (((!decide ((ds2.length : Int) = (ds1.length : Int) + 1)) || (!decide ((ds2.getD ((0 : Int)).toNat default).2.1 = ([113] : List UInt8)))) || (!decide ((ds2.getD ((0 : Int)).toNat default).1 = 4))) = true then
     K false
    else
     ((qb2, Obj.cells [dw2, mv2].toArray 39 (0, 0)) ∈ B_1') ∧
     (ak7 Tryd.prog mv2 "Place" [] (zI (plX a2))) ∧
     ((qb1, Obj.cells [dw1, mv1].toArray 39 (0, 0)) ∈ B_1') ∧
     (ak7 Tryd.prog mv1 "Place" [] (zI (plX a1))) ∧
     (I64 ((plX a1) + (([108, 101, 116, 32, 113, 32, 61, 32, 47, 97, 47, 59, 10] : List UInt8).length : Int))) ∧
     ((decide (plX a2 = (plX a1) + (([108, 101, 116, 32, 113, 32, 61, 32, 47, 97, 47, 59, 10] : List UInt8).length : Int))) = true → (acl B_1' qb2 dw2 mv2 ds2 R2 l2 a2 ∧ OKP l2 a2) ∧ (acl B_1' qb1 dw1 mv1 ds1 R1 l1 a1 ∧ OKP l1 a1) ∧ (([108, 101, 116, 32, 113, 32, 61, 32, 47, 97, 47, 59, 10] : List UInt8).length + (l6 l1 a1).length ≤ 9223372036854775807)) ∧
     K ((decide (plX a2 = (plX a1) + (([108, 101, 116, 32, 113, 32, 61, 32, 47, 97, 47, 59, 10] : List UInt8).length : Int))) && (decide (l6 l2 a2 = ([108, 101, 116, 32, 113, 32, 61, 32, 47, 97, 47, 59, 10] : List UInt8) ++ (l6 l1 a1))))))))
theorem apz (te : TypeId) (fre : Nat × Nat) (text : List UInt8) (l1 : List m8) (a1 : Ex) (l2 : List m8) (a2 : Ex) (K : Bool → Prop) (h : afu text l1 a1 l2 a2 K) :
  e6 Tryd.prog 7 [st text] [(0, .cells [st ([124] : List UInt8), st ([38, 45] : List UInt8), st ([62, 62] : List UInt8), st ([126] : List UInt8), st ([46] : List UInt8)].toArray te fre)] [] (fun o => (∃ (v : Bool), K v ∧ o = .ret (zB v) []) ∨ (False)) := by
 unfold afu at h
 refine c7 (n := 105) (L0 := [(0, st text)]) Tryd.func7 rfl rfl rfl rfl (fun w0 M Q hE => ?_)
 refine WC.newPool ?_
 refine a7 (fun _ hK => ?_)
 refine a6 ?_
 refine wA ?_
 refine WL.nil ?_
 refine kg (hK [(0, st text)] _ ?_)
 refine a7 (fun _ hK_1' => ?_)
 refine a7 (fun _ hK_2' => ?_)
 refine a6 ?_
 refine WL.cv ⟨_, _, _, EN.fn alr rfl, ae4 te fre, Rd.old⟩ rfl rfl rfl ?_
 refine wv (OV.not rfl) ?_
 refine WL.nil ?_
 refine kg (hK_2' [(0, st text), (9, zB false)] _ ?_)
 refine c9 rfl ?_
 refine b6 ?_
 refine kg (hK_1' [(0, st text)] _ ?_)
 refine a7 (fun _ hK_3' => ?_)
 refine a6 ?_
 refine wm ?_
 obtain ⟨o, h⟩ := h
 refine WL.callS adt rfl (afj te fre text ([] : List (Nat × Obj)) l1 a1 o) rfl ⟨.inr (List.mem_of_getElem? (i := 0) rfl), trivial⟩ rfl rfl (fun r H' hS => ?_) (fun c H' hS => ?_)
 ·obtain ⟨qb1, dw1, mv1, ds1, R1, B, hc, ho⟩ := hS
  cases ho
  replace h := h qb1 dw1 mv1 ds1 R1 B hc
  refine wm ?_
  refine wv (OV.extract 0 rfl rfl) ?_
  refine wv (OV.extract 1 rfl rfl) ?_
  refine WL.make (MV.alloc z6) rfl rfl rfl (fun b => ?_)
  refine wA ?_
  refine WL.storeW (vs := [zI 0, zI 0, st []]) 0 rfl rfl rfl rfl rfl n6 rfl rfl rfl ?_
  refine WL.nil ?_
  refine kg (hK_3' [(0, st text), (3, zP qb1), (4, zP b)] _ ?_)
  refine a7 (fun _ hK_4' => ?_)
  refine a6 ?_
  refine wA ?_
  refine WL.nil ?_
  refine kg (hK_4' [(0, st text), (3, zP qb1), (4, zP b), (5, st ([108, 101, 116, 32, 113, 32, 61, 32, 47, 97, 47, 59, 10] : List UInt8))] _ ?_)
  refine a7 (fun _ hK_5' => ?_)
  refine a7 (fun _ hK_6' => ?_)
  refine a6 ?_
  refine wm ?_
  refine wv (OV.len rfl c8) ?_
  refine wm ?_
  refine wv (OV.len rfl c8) ?_
  obtain ⟨o_1', h⟩ := h
  refine wv (OV.add rfl rfl o_1') ?_
  refine wv (OV.gtr rfl rfl) ?_
  refine WL.nil ?_
  refine kg (hK_6' [(0, st text), (3, zP qb1), (4, zP b), (5, st ([108, 101, 116, 32, 113, 32, 61, 32, 47, 97, 47, 59, 10] : List UInt8)), (20, zB (decide (4096 < (text.length : Int) + (([108, 101, 116, 32, 113, 32, 61, 32, 47, 97, 47, 59, 10] : List UInt8).length : Int))))] _ ?_)
  refine b5 (b := decide (4096 < (text.length : Int) + (([108, 101, 116, 32, 113, 32, 61, 32, 47, 97, 47, 59, 10] : List UInt8).length : Int))) rfl (fun hb => ?_) (fun hb => ?_)
  ·replace h := j4 h hb
   refine a7 (fun _ hK_7' => ?_)
   refine a6 ?_
   refine wA ?_
   refine WL.nil ?_
   refine kg (hK_7' [(2, zB true)] _ ?_)
   refine b9 ?_
   exact hE.ret [] rfl rfl (.inl ⟨_, h, rfl⟩) (e8.of1 rfl (RV.tmp rfl))
  ·replace h := j5 h hb
   refine b6 ?_
   refine kg (hK_5' [(0, st text), (3, zP qb1), (4, zP b), (5, st ([108, 101, 116, 32, 113, 32, 61, 32, 47, 97, 47, 59, 10] : List UInt8))] _ ?_)
   refine a7 (fun _ hK_8' => ?_)
   refine a6 ?_
   refine wm ?_
   refine wm ?_
   obtain ⟨o_2', h⟩ := h
   refine wv (OV.cat rfl rfl o_2') ?_
   obtain ⟨o_3', h⟩ := h
   refine WL.pick (H' := [pool B, HA.blk b (.cells [zI 0, zI 0, st []].toArray 26 (0, 0))]) [1, 0] rfl rfl ?_
   refine WL.callS adt rfl (afj te fre (([108, 101, 116, 32, 113, 32, 61, 32, 47, 97, 47, 59, 10] : List UInt8) ++ text) B l2 a2 o_3') rfl ⟨.inr (List.mem_of_getElem? (i := 0) rfl), trivial⟩ rfl rfl (fun r H' hS => ?_) (fun c H' hS => ?_)
   ·obtain ⟨qb2, dw2, mv2, ds2, R2, B_1', hc, ho⟩ := hS
    cases ho
    replace h := h qb2 dw2 mv2 ds2 R2 B_1' hc
    refine wm ?_
    refine wv (OV.extract 0 rfl rfl) ?_
    refine wv (OV.extract 1 rfl rfl) ?_
    refine WL.make (MV.alloc z6) rfl rfl rfl (fun b_1' => ?_)
    refine wA ?_
    refine WL.storeW (vs := [zI 0, zI 0, st []]) 0 rfl rfl rfl rfl rfl n6 rfl rfl rfl ?_
    refine WL.nil ?_
    refine kg (hK_8' [(3, zP qb1), (4, zP b), (5, st ([108, 101, 116, 32, 113, 32, 61, 32, 47, 97, 47, 59, 10] : List UInt8)), (6, zP qb2), (7, zP b_1')] _ ?_)
    refine a7 (fun _ hK_9' => ?_)
    refine a7 (fun _ hK_10' => ?_)
    refine a6 ?_
    refine wv (OV.loadR rfl (At.own 2 rfl) o8) ?_
    refine wv (OV.build rfl (cs := [zI 0, zI 0, st []]) rfl) ?_
    refine wv (OV.cast (OV.neqF (rs := [decide ((0 : Int) = 0), decide ((0 : Int) = 0), decide (([] : List UInt8) = [])]) rfl rfl Tryd.underlying26 aab aa9 ⟨rfl, z7, ⟨_, _, rfl, rfl, o9.int Tryd.underlying24⟩, ⟨rfl, b4, ⟨_, _, rfl, rfl, o9.int Tryd.underlying3⟩, ⟨rfl, b8, ⟨_, _, rfl, rfl, o9.str Tryd.underlying9⟩, trivial⟩⟩⟩) (v' := zB false) rfl) ?_
    refine WL.nil ?_
    refine kg (hK_10' [(3, zP qb1), (4, zP b), (5, st ([108, 101, 116, 32, 113, 32, 61, 32, 47, 97, 47, 59, 10] : List UInt8)), (6, zP qb2), (7, zP b_1'), (30, zB false)] _ ?_)
    refine c9 rfl ?_
    refine b6 ?_
    refine kg (hK_9' [(3, zP qb1), (5, st ([108, 101, 116, 32, 113, 32, 61, 32, 47, 97, 47, 59, 10] : List UInt8)), (6, zP qb2), (7, zP b_1')] _ ?_)
    refine a7 (fun _ hK_11' => ?_)
    refine a7 (fun _ hK_12' => ?_)
    refine aa2 [] j3 (by kernel_rfl) rfl (fun T hT => ?_)
    refine fv (fun _ => OV.loadR rfl (At.own 0 rfl) o8) ?_
    refine fv (fun _ => OV.build rfl (cs := [zI 0, zI 0, st []]) rfl) ?_
    refine fv (fun _ => OV.cast (OV.neqF (rs := [decide ((0 : Int) = 0), decide ((0 : Int) = 0), decide (([] : List UInt8) = [])]) rfl rfl Tryd.underlying26 aab aa9 ⟨rfl, z7, ⟨_, _, rfl, rfl, o9.int Tryd.underlying24⟩, ⟨rfl, b4, ⟨_, _, rfl, rfl, o9.int Tryd.underlying3⟩, ⟨rfl, b8, ⟨_, _, rfl, rfl, o9.str Tryd.underlying9⟩, trivial⟩⟩⟩) (v' := zB false) rfl) ?_
    refine fv (fun _ => OV.move rfl) ?_
    refine fv (fun _ => OV.move rfl) ?_
    refine fv (fun _ => OV.nilCheck rfl) ?_
    refine fv (fun _ => OV.fieldAddr0 rfl r4) ?_
    obtain ⟨o_4', h⟩ := h
    refine fv (fun _ => OV.load rfl (At.pool 1 rfl o_4') rfl aat) ?_
    obtain ⟨o_5', h⟩ := h
    refine fv (fun _ => OV.lenLaid rfl aaz o_5') ?_
    refine fv (fun _ => OV.move rfl) ?_
    refine fv (fun _ => OV.nilCheck rfl) ?_
    refine fv (fun _ => OV.fieldAddr0 rfl r4) ?_
    obtain ⟨o_6', h⟩ := h
    refine fv (fun _ => OV.load rfl (At.pool 1 rfl o_6') rfl aat) ?_
    obtain ⟨o_7', h⟩ := h
    refine fv (fun _ => OV.lenLaid rfl aaz o_7') ?_
    obtain ⟨o_8', h⟩ := h
    refine fv (fun _ => OV.add rfl rfl o_8') ?_
    refine fv (fun _ => OV.neq rfl rfl) ?_
    refine fv (fun _ => OV.pickF rfl rfl) ?_
    refine fv (fun _ => OV.move rfl) ?_
    obtain ⟨o_14', h⟩ := h
    refine FL.cut 9 rfl (fun _ => [(3, zP qb1), (5, st ([108, 101, 116, 32, 113, 32, 61, 32, 47, 97, 47, 59, 10] : List UInt8)), (6, zP qb2), (71, zB ((!decide ((ds2.length : Int) = (ds1.length : Int) + 1)) || (!decide ((ds2.getD ((0 : Int)).toNat default).2.1 = ([113] : List UInt8)))))]) ?_ (fun K0_13' hK_13' => ?_)
    rotate_left
    ·refine FL.split (!decide ((ds2.length : Int) = (ds1.length : Int) + 1)) (fun hb => ?_) (fun hb => ?_)
     ·refine FL.set 62 (fun _ => rfl) (congrArg zB hb) ?_
      refine FL.skip rfl (fun _ => rfl) rfl rfl ?_
      refine FL.skip rfl (fun _ => rfl) rfl rfl ?_
      refine FL.skip rfl (fun _ => rfl) rfl rfl ?_
      refine FL.skip rfl (fun _ => rfl) rfl rfl ?_
      refine FL.skip rfl (fun _ => rfl) rfl rfl ?_
      refine FL.skip rfl (fun _ => rfl) rfl rfl ?_
      refine FL.skip rfl (fun _ => rfl) rfl rfl ?_
      refine FL.skip rfl (fun _ => rfl) rfl rfl ?_
      refine fv (fun _ => OV.pickT rfl rfl) ?_
      refine FL.set 71 (fun _ => rfl) (oT (v := !decide ((ds2.getD ((0 : Int)).toNat default).2.1 = ([113] : List UInt8))) hb) ?_
      exact FL.weak (L' := fun _ => [(3, zP qb1), (5, st ([108, 101, 116, 32, 113, 32, 61, 32, 47, 97, 47, 59, 10] : List UInt8)), (6, zP qb2), (71, zB ((!decide ((ds2.length : Int) = (ds1.length : Int) + 1)) || (!decide ((ds2.getD ((0 : Int)).toNat default).2.1 = ([113] : List UInt8)))))]) (fun _ => ⟨rfl, rfl, rfl, rfl, trivial⟩) (FL.nil hK_13')
     ·obtain ⟨o_9', o_10', o_11', o_12', o_13'⟩ := o_14' hb
      refine FL.set 62 (fun _ => rfl) (congrArg zB hb) ?_
      refine fv (fun _ => OV.move rfl) ?_
      refine fv (fun _ => OV.nilCheck rfl) ?_
      refine fv (fun _ => OV.fieldAddr0 rfl r4) ?_
      refine fv (fun _ => OV.load rfl (At.pool 1 rfl o_9') rfl aat) ?_
      refine fv (fun _ => OV.indexLaid rfl rfl aaz o_10' o_11') ?_
      refine fv (fun _ => OV.fieldAddr rfl aea) ?_
      refine fv (fun _ => OV.loadLaid (f := aak) (l := ds2) (o := 1) 1 rfl rfl adu (by decide) rfl b8 o_12' o_13') ?_
      refine fv (fun _ => OV.neqS rfl rfl) ?_
      refine fv (fun _ => OV.pickF rfl rfl) ?_
      refine FL.set 71 (fun _ => rfl) (oF (v := !decide ((ds2.getD ((0 : Int)).toNat default).2.1 = ([113] : List UInt8))) hb) ?_
      exact FL.weak (L' := fun _ => [(3, zP qb1), (5, st ([108, 101, 116, 32, 113, 32, 61, 32, 47, 97, 47, 59, 10] : List UInt8)), (6, zP qb2), (71, zB ((!decide ((ds2.length : Int) = (ds1.length : Int) + 1)) || (!decide ((ds2.getD ((0 : Int)).toNat default).2.1 = ([113] : List UInt8)))))]) (fun _ => ⟨rfl, rfl, rfl, rfl, trivial⟩) (FL.nil hK_13')
    refine fv (fun _ => OV.move rfl) ?_
    obtain ⟨o_20', h⟩ := h
    refine FL.cut 9 rfl (fun _ => [(3, zP qb1), (5, st ([108, 101, 116, 32, 113, 32, 61, 32, 47, 97, 47, 59, 10] : List UInt8)), (6, zP qb2), (81, zB (((!decide ((ds2.length : Int) = (ds1.length : Int) + 1)) || (!decide ((ds2.getD ((0 : Int)).toNat default).2.1 = ([113] : List UInt8)))) || (!decide ((ds2.getD ((0 : Int)).toNat default).1 = 4))))]) ?_ (fun K0_14' hK_14' => ?_)
    rotate_left
    ·refine FL.split ((!decide ((ds2.length : Int) = (ds1.length : Int) + 1)) || (!decide ((ds2.getD ((0 : Int)).toNat default).2.1 = ([113] : List UInt8)))) (fun hb => ?_) (fun hb => ?_)
     ·refine FL.set 72 (fun _ => rfl) (congrArg zB hb) ?_
      refine FL.skip rfl (fun _ => rfl) rfl rfl ?_
      refine FL.skip rfl (fun _ => rfl) rfl rfl ?_
      refine FL.skip rfl (fun _ => rfl) rfl rfl ?_
      refine FL.skip rfl (fun _ => rfl) rfl rfl ?_
      refine FL.skip rfl (fun _ => rfl) rfl rfl ?_
      refine FL.skip rfl (fun _ => rfl) rfl rfl ?_
      refine FL.skip rfl (fun _ => rfl) rfl rfl ?_
      refine FL.skip rfl (fun _ => rfl) rfl rfl ?_
      refine fv (fun _ => OV.pickT rfl rfl) ?_
      refine FL.set 81 (fun _ => rfl) (oT (v := !decide ((ds2.getD ((0 : Int)).toNat default).1 = 4)) hb) ?_
      exact FL.weak (L' := fun _ => [(3, zP qb1), (5, st ([108, 101, 116, 32, 113, 32, 61, 32, 47, 97, 47, 59, 10] : List UInt8)), (6, zP qb2), (81, zB (((!decide ((ds2.length : Int) = (ds1.length : Int) + 1)) || (!decide ((ds2.getD ((0 : Int)).toNat default).2.1 = ([113] : List UInt8)))) || (!decide ((ds2.getD ((0 : Int)).toNat default).1 = 4))))]) (fun _ => ⟨rfl, rfl, rfl, rfl, trivial⟩) (FL.nil hK_14')
     ·obtain ⟨o_15', o_16', o_17', o_18', o_19'⟩ := o_20' hb
      refine FL.set 72 (fun _ => rfl) (congrArg zB hb) ?_
      refine fv (fun _ => OV.move rfl) ?_
      refine fv (fun _ => OV.nilCheck rfl) ?_
      refine fv (fun _ => OV.fieldAddr0 rfl r4) ?_
      refine fv (fun _ => OV.load rfl (At.pool 1 rfl o_15') rfl aat) ?_
      refine fv (fun _ => OV.indexLaid rfl rfl aaz o_16' o_17') ?_
      refine fv (fun _ => OV.fieldAddr rfl aig) ?_
      refine fv (fun _ => OV.loadLaid (f := aak) (l := ds2) (o := 0) 1 rfl rfl adu (by decide) rfl b4 o_18' o_19') ?_
      refine fv (fun _ => OV.neq rfl rfl) ?_
      refine fv (fun _ => OV.pickF rfl rfl) ?_
      refine FL.set 81 (fun _ => rfl) (oF (v := !decide ((ds2.getD ((0 : Int)).toNat default).1 = 4)) hb) ?_
      exact FL.weak (L' := fun _ => [(3, zP qb1), (5, st ([108, 101, 116, 32, 113, 32, 61, 32, 47, 97, 47, 59, 10] : List UInt8)), (6, zP qb2), (81, zB (((!decide ((ds2.length : Int) = (ds1.length : Int) + 1)) || (!decide ((ds2.getD ((0 : Int)).toNat default).2.1 = ([113] : List UInt8)))) || (!decide ((ds2.getD ((0 : Int)).toNat default).1 = 4))))]) (fun _ => ⟨rfl, rfl, rfl, rfl, trivial⟩) (FL.nil hK_14')
    refine FL.weak (L' := fun _ => [(3, zP qb1), (5, st ([108, 101, 116, 32, 113, 32, 61, 32, 47, 97, 47, 59, 10] : List UInt8)), (6, zP qb2), (81, zB (((!decide ((ds2.length : Int) = (ds1.length : Int) + 1)) || (!decide ((ds2.getD ((0 : Int)).toNat default).2.1 = ([113] : List UInt8)))) || (!decide ((ds2.getD ((0 : Int)).toNat default).1 = 4))))]) (fun _ => ⟨rfl, rfl, rfl, rfl, trivial⟩) (FL.nil (hT (fun _ => [(3, zP qb1), (5, st ([108, 101, 116, 32, 113, 32, 61, 32, 47, 97, 47, 59, 10] : List UInt8)), (6, zP qb2), (81, zB (((!decide ((ds2.length : Int) = (ds1.length : Int) + 1)) || (!decide ((ds2.getD ((0 : Int)).toNat default).2.1 = ([113] : List UInt8)))) || (!decide ((ds2.getD ((0 : Int)).toNat default).1 = 4))))]) (fun _ => ?_)))
    refine kg (hK_12' [(3, zP qb1), (5, st ([108, 101, 116, 32, 113, 32, 61, 32, 47, 97, 47, 59, 10] : List UInt8)), (6, zP qb2), (81, zB (((!decide ((ds2.length : Int) = (ds1.length : Int) + 1)) || (!decide ((ds2.getD ((0 : Int)).toNat default).2.1 = ([113] : List UInt8)))) || (!decide ((ds2.getD ((0 : Int)).toNat default).1 = 4))))] _ ?_)
    refine b5 (b := ((!decide ((ds2.length : Int) = (ds1.length : Int) + 1)) || (!decide ((ds2.getD ((0 : Int)).toNat default).2.1 = ([113] : List UInt8)))) || (!decide ((ds2.getD ((0 : Int)).toNat default).1 = 4))) rfl (fun hb => ?_) (fun hb => ?_)
    ·replace h := j4 h hb
     refine a7 (fun _ hK_15' => ?_)
     refine a6 ?_
     refine wA ?_
     refine WL.nil ?_
     refine kg (hK_15' [(2, zB false)] _ ?_)
     refine b9 ?_
     exact hE.ret [] rfl rfl (.inl ⟨_, h, rfl⟩) (e8.of1 rfl (RV.tmp rfl))
    ·replace h := j5 h hb
     refine b6 ?_
     refine kg (hK_11' [(3, zP qb1), (5, st ([108, 101, 116, 32, 113, 32, 61, 32, 47, 97, 47, 59, 10] : List UInt8)), (6, zP qb2)] _ ?_)
     refine a7 (fun _ hK_16' => ?_)
     refine aa2 [] j3 (by kernel_rfl) rfl (fun T_1' hT_1' => ?_)
     refine fv (fun _ => OV.move rfl) ?_
     refine fv (fun _ => OV.nilCheck rfl) ?_
     refine fv (fun _ => OV.fieldAddr0 rfl u0) ?_
     obtain ⟨o_21', h⟩ := h
     refine fv (fun _ => OV.load rfl (At.pool 1 rfl o_21') rfl m9) ?_
     obtain ⟨o_22', h⟩ := h
     refine FL.cv (fun _ => CV.meth rfl o_22' rfl) rfl rfl (fun _ => rfl) rfl ?_
     refine fv (fun _ => OV.move rfl) ?_
     refine fv (fun _ => OV.nilCheck rfl) ?_
     refine fv (fun _ => OV.fieldAddr0 rfl u0) ?_
     obtain ⟨o_23', h⟩ := h
     refine fv (fun _ => OV.load rfl (At.pool 1 rfl o_23') rfl m9) ?_
     obtain ⟨o_24', h⟩ := h
     refine FL.cv (fun _ => CV.meth rfl o_24' rfl) rfl rfl (fun _ => rfl) rfl ?_
     refine fv (fun _ => OV.move rfl) ?_
     refine fv (fun _ => OV.len rfl c8) ?_
     obtain ⟨o_25', h⟩ := h
     refine fv (fun _ => OV.add rfl rfl o_25') ?_
     refine fv (fun _ => OV.eql rfl rfl) ?_
     refine fv (fun _ => OV.move rfl) ?_
     obtain ⟨o_29', h⟩ := h
     refine FL.cut 8 rfl (fun _ => [(104, zB ((decide (plX a2 = (plX a1) + (([108, 101, 116, 32, 113, 32, 61, 32, 47, 97, 47, 59, 10] : List UInt8).length : Int))) && (decide (l6 l2 a2 = ([108, 101, 116, 32, 113, 32, 61, 32, 47, 97, 47, 59, 10] : List UInt8) ++ (l6 l1 a1)))))]) ?_ (fun K0_17' hK_17' => ?_)
     rotate_left
     ·refine FL.split (decide (plX a2 = (plX a1) + (([108, 101, 116, 32, 113, 32, 61, 32, 47, 97, 47, 59, 10] : List UInt8).length : Int))) (fun hb => ?_) (fun hb => ?_)
      ·obtain ⟨o_26', o_27', o_28'⟩ := o_29' hb
       refine FL.set 96 (fun _ => rfl) (congrArg zB hb) ?_
       refine fv (fun _ => OV.move rfl) ?_
       refine FL.cv (fun _ => ⟨_, _, _, EN.fn afr rfl, aeu te fre B_1' qb2 dw2 mv2 ds2 R2 l2 a2 o_26', al1.pool 1 rfl (fun _ h => h)⟩) rfl rfl (fun _ => rfl) rfl ?_
       refine fv (fun _ => OV.move rfl) ?_
       refine fv (fun _ => OV.move rfl) ?_
       refine FL.cv (fun _ => ⟨_, _, _, EN.fn afr rfl, aeu te fre B_1' qb1 dw1 mv1 ds1 R1 l1 a1 o_27', al1.pool 1 rfl (fun _ h => h)⟩) rfl rfl (fun _ => rfl) rfl ?_
       refine fv (fun _ => OV.cat rfl rfl o_28') ?_
       refine fv (fun _ => OV.eqlS rfl rfl) ?_
       refine fv (fun _ => OV.pickT rfl rfl) ?_
       refine FL.set 104 (fun _ => rfl) (bT (v := decide (l6 l2 a2 = ([108, 101, 116, 32, 113, 32, 61, 32, 47, 97, 47, 59, 10] : List UInt8) ++ (l6 l1 a1))) hb) ?_
       exact FL.weak (L' := fun _ => [(104, zB ((decide (plX a2 = (plX a1) + (([108, 101, 116, 32, 113, 32, 61, 32, 47, 97, 47, 59, 10] : List UInt8).length : Int))) && (decide (l6 l2 a2 = ([108, 101, 116, 32, 113, 32, 61, 32, 47, 97, 47, 59, 10] : List UInt8) ++ (l6 l1 a1)))))]) (fun _ => ⟨rfl, trivial⟩) (FL.nil hK_17')
      ·refine FL.set 96 (fun _ => rfl) (congrArg zB hb) ?_
       refine FL.skip rfl (fun _ => rfl) rfl rfl ?_
       refine FL.skip rfl (fun _ => rfl) rfl rfl ?_
       refine FL.skip rfl (fun _ => rfl) rfl rfl ?_
       refine FL.skip rfl (fun _ => rfl) rfl rfl ?_
       refine FL.skip rfl (fun _ => rfl) rfl rfl ?_
       refine FL.skip rfl (fun _ => rfl) rfl rfl ?_
       refine FL.skip rfl (fun _ => rfl) rfl rfl ?_
       refine fv (fun _ => OV.pickF rfl rfl) ?_
       refine FL.set 104 (fun _ => rfl) (bF (v := decide (l6 l2 a2 = ([108, 101, 116, 32, 113, 32, 61, 32, 47, 97, 47, 59, 10] : List UInt8) ++ (l6 l1 a1))) hb) ?_
       exact FL.weak (L' := fun _ => [(104, zB ((decide (plX a2 = (plX a1) + (([108, 101, 116, 32, 113, 32, 61, 32, 47, 97, 47, 59, 10] : List UInt8).length : Int))) && (decide (l6 l2 a2 = ([108, 101, 116, 32, 113, 32, 61, 32, 47, 97, 47, 59, 10] : List UInt8) ++ (l6 l1 a1)))))]) (fun _ => ⟨rfl, trivial⟩) (FL.nil hK_17')
     refine fv (fun _ => OV.assign rfl) ?_
     refine FL.weak (L' := fun _ => [(2, zB ((decide (plX a2 = (plX a1) + (([108, 101, 116, 32, 113, 32, 61, 32, 47, 97, 47, 59, 10] : List UInt8).length : Int))) && (decide (l6 l2 a2 = ([108, 101, 116, 32, 113, 32, 61, 32, 47, 97, 47, 59, 10] : List UInt8) ++ (l6 l1 a1)))))]) (fun _ => ⟨rfl, trivial⟩) (FL.nil (hT_1' (fun _ => [(2, zB ((decide (plX a2 = (plX a1) + (([108, 101, 116, 32, 113, 32, 61, 32, 47, 97, 47, 59, 10] : List UInt8).length : Int))) && (decide (l6 l2 a2 = ([108, 101, 116, 32, 113, 32, 61, 32, 47, 97, 47, 59, 10] : List UInt8) ++ (l6 l1 a1)))))]) (fun _ => ?_)))
     refine kg (hK_16' [(2, zB ((decide (plX a2 = (plX a1) + (([108, 101, 116, 32, 113, 32, 61, 32, 47, 97, 47, 59, 10] : List UInt8).length : Int))) && (decide (l6 l2 a2 = ([108, 101, 116, 32, 113, 32, 61, 32, 47, 97, 47, 59, 10] : List UInt8) ++ (l6 l1 a1)))))] _ ?_)
     refine b9 ?_
     exact hE.ret [] rfl rfl (.inl ⟨_, h, rfl⟩) (e8.of1 rfl (RV.tmp rfl))
   ·obtain ⟨qb2, dw2, mv2, ds2, R2, B_1', hc, ho⟩ := hS
    cases ho
 ·obtain ⟨qb1, dw1, mv1, ds1, R1, B, hc, ho⟩ := hS
  cases ho
def afz (text : List UInt8) (c1 : Int) (p1 : Int) (c2 : Int) (p2 : Int) (K : Bool → Prop) : Prop :=
 (l8 text = .error (c1, p1)) ∧
 (∀ (_B : List (Nat × Obj)), True →
  (I64 ((text.length : Int) + (([108, 101, 116, 32, 113, 32, 61, 32, 47, 97, 47, 59, 10] : List UInt8).length : Int))) ∧
  (if (decide (4096 < (text.length : Int) + (([108, 101, 116, 32, 113, 32, 61, 32, 47, 97, 47, 59, 10] : List UInt8).length : Int))) = true then
   K true
  else
   (([108, 101, 116, 32, 113, 32, 61, 32, 47, 97, 47, 59, 10] : List UInt8).length + text.length ≤ 9223372036854775807) ∧
   (l8 (([108, 101, 116, 32, 113, 32, 61, 32, 47, 97, 47, 59, 10] : List UInt8) ++ text) = .error (c2, p2)) ∧
   (∀ (_B_1' : List (Nat × Obj)), True →
    (¬ (c1 = 0)) ∧
    (I64 (p1 + (([108, 101, 116, 32, 113, 32, 61, 32, 47, 97, 47, 59, 10] : List UInt8).length : Int))) ∧
    K (aaf [decide (c2 = c1), decide (p2 = p1 + (([108, 101, 116, 32, 113, 32, 61, 32, 47, 97, 47, 59, 10] : List UInt8).length : Int)), decide (([] : List UInt8) = [])]))))
theorem apg (te : TypeId) (fre : Nat × Nat) (text : List UInt8) (c1 : Int) (p1 : Int) (c2 : Int) (p2 : Int) (K : Bool → Prop) (h : afz text c1 p1 c2 p2 K) :
  e6 Tryd.prog 7 [st text] [(0, .cells [st ([124] : List UInt8), st ([38, 45] : List UInt8), st ([62, 62] : List UInt8), st ([126] : List UInt8), st ([46] : List UInt8)].toArray te fre)] [] (fun o => (∃ (v : Bool), K v ∧ o = .ret (zB v) []) ∨ (False)) := by
 unfold afz at h
 refine c7 (n := 105) (L0 := [(0, st text)]) Tryd.func7 rfl rfl rfl rfl (fun w0 M Q hE => ?_)
 refine WC.newPool ?_
 refine a7 (fun _ hK => ?_)
 refine a6 ?_
 refine wA ?_
 refine WL.nil ?_
 refine kg (hK [(0, st text)] _ ?_)
 refine a7 (fun _ hK_1' => ?_)
 refine a7 (fun _ hK_2' => ?_)
 refine a6 ?_
 refine WL.cv ⟨_, _, _, EN.fn alr rfl, ae4 te fre, Rd.old⟩ rfl rfl rfl ?_
 refine wv (OV.not rfl) ?_
 refine WL.nil ?_
 refine kg (hK_2' [(0, st text), (9, zB false)] _ ?_)
 refine c9 rfl ?_
 refine b6 ?_
 refine kg (hK_1' [(0, st text)] _ ?_)
 refine a7 (fun _ hK_3' => ?_)
 refine a6 ?_
 refine wm ?_
 obtain ⟨o, h⟩ := h
 refine WL.callS adt rfl (ahj te fre text ([] : List (Nat × Obj)) c1 p1 o) rfl ⟨.inr (List.mem_of_getElem? (i := 0) rfl), trivial⟩ rfl rfl (fun r H' hS => ?_) (fun c H' hS => ?_)
 ·obtain ⟨B, hc, ho⟩ := hS
  cases ho
  replace h := h B hc
  refine wm ?_
  refine wv (OV.extract 0 rfl rfl) ?_
  refine wv (OV.extract 1 rfl rfl) ?_
  refine WL.make (MV.alloc z6) rfl rfl rfl (fun b => ?_)
  refine wA ?_
  refine WL.storeW (vs := [zI c1, zI p1, st []]) 0 rfl rfl rfl rfl rfl n6 rfl rfl rfl ?_
  refine WL.nil ?_
  refine kg (hK_3' [(0, st text), (3, Value.pointer none), (4, zP b)] _ ?_)
  refine a7 (fun _ hK_4' => ?_)
  refine a6 ?_
  refine wA ?_
  refine WL.nil ?_
  refine kg (hK_4' [(0, st text), (3, Value.pointer none), (4, zP b), (5, st ([108, 101, 116, 32, 113, 32, 61, 32, 47, 97, 47, 59, 10] : List UInt8))] _ ?_)
  refine a7 (fun _ hK_5' => ?_)
  refine a7 (fun _ hK_6' => ?_)
  refine a6 ?_
  refine wm ?_
  refine wv (OV.len rfl c8) ?_
  refine wm ?_
  refine wv (OV.len rfl c8) ?_
  obtain ⟨o_1', h⟩ := h
  refine wv (OV.add rfl rfl o_1') ?_
  refine wv (OV.gtr rfl rfl) ?_
  refine WL.nil ?_
  refine kg (hK_6' [(0, st text), (3, Value.pointer none), (4, zP b), (5, st ([108, 101, 116, 32, 113, 32, 61, 32, 47, 97, 47, 59, 10] : List UInt8)), (20, zB (decide (4096 < (text.length : Int) + (([108, 101, 116, 32, 113, 32, 61, 32, 47, 97, 47, 59, 10] : List UInt8).length : Int))))] _ ?_)
  refine b5 (b := decide (4096 < (text.length : Int) + (([108, 101, 116, 32, 113, 32, 61, 32, 47, 97, 47, 59, 10] : List UInt8).length : Int))) rfl (fun hb => ?_) (fun hb => ?_)
  ·replace h := j4 h hb
   refine a7 (fun _ hK_7' => ?_)
   refine a6 ?_
   refine wA ?_
   refine WL.nil ?_
   refine kg (hK_7' [(2, zB true)] _ ?_)
   refine b9 ?_
   exact hE.ret [] rfl rfl (.inl ⟨_, h, rfl⟩) (e8.of1 rfl (RV.tmp rfl))
  ·replace h := j5 h hb
   refine b6 ?_
   refine kg (hK_5' [(0, st text), (3, Value.pointer none), (4, zP b), (5, st ([108, 101, 116, 32, 113, 32, 61, 32, 47, 97, 47, 59, 10] : List UInt8))] _ ?_)
   refine a7 (fun _ hK_8' => ?_)
   refine a6 ?_
   refine wm ?_
   refine wm ?_
   obtain ⟨o_2', h⟩ := h
   refine wv (OV.cat rfl rfl o_2') ?_
   obtain ⟨o_3', h⟩ := h
   refine WL.pick (H' := [pool B, HA.blk b (.cells [zI c1, zI p1, st []].toArray 26 (0, 0))]) [1, 0] rfl rfl ?_
   refine WL.callS adt rfl (ahj te fre (([108, 101, 116, 32, 113, 32, 61, 32, 47, 97, 47, 59, 10] : List UInt8) ++ text) B c2 p2 o_3') rfl ⟨.inr (List.mem_of_getElem? (i := 0) rfl), trivial⟩ rfl rfl (fun r H' hS => ?_) (fun c H' hS => ?_)
   ·obtain ⟨B_1', hc, ho⟩ := hS
    cases ho
    replace h := h B_1' hc
    refine wm ?_
    refine wv (OV.extract 0 rfl rfl) ?_
    refine wv (OV.extract 1 rfl rfl) ?_
    refine WL.make (MV.alloc z6) rfl rfl rfl (fun b_1' => ?_)
    refine wA ?_
    refine WL.storeW (vs := [zI c2, zI p2, st []]) 0 rfl rfl rfl rfl rfl n6 rfl rfl rfl ?_
    refine WL.nil ?_
    refine kg (hK_8' [(3, Value.pointer none), (4, zP b), (5, st ([108, 101, 116, 32, 113, 32, 61, 32, 47, 97, 47, 59, 10] : List UInt8)), (6, Value.pointer none), (7, zP b_1')] _ ?_)
    refine a7 (fun _ hK_9' => ?_)
    refine a7 (fun _ hK_10' => ?_)
    refine a6 ?_
    refine wv (OV.loadR rfl (At.own 2 rfl) o8) ?_
    refine wv (OV.build rfl (cs := [zI 0, zI 0, st []]) rfl) ?_
    obtain ⟨o_4', h⟩ := h
    refine wv (OV.cast (OV.neqF (rs := [decide (c1 = 0), decide (p1 = 0), decide (([] : List UInt8) = [])]) rfl rfl Tryd.underlying26 aab aa9 ⟨rfl, z7, ⟨_, _, rfl, rfl, o9.int Tryd.underlying24⟩, ⟨rfl, b4, ⟨_, _, rfl, rfl, o9.int Tryd.underlying3⟩, ⟨rfl, b8, ⟨_, _, rfl, rfl, o9.str Tryd.underlying9⟩, trivial⟩⟩⟩) (v' := zB true) (by rw [decide_eq_false o_4']; rfl)) ?_
    refine WL.nil ?_
    refine kg (hK_10' [(3, Value.pointer none), (4, zP b), (5, st ([108, 101, 116, 32, 113, 32, 61, 32, 47, 97, 47, 59, 10] : List UInt8)), (6, Value.pointer none), (7, zP b_1'), (30, zB true)] _ ?_)
    refine h8 rfl ?_
    refine a7 (fun _ hK_11' => ?_)
    refine a6 ?_
    refine wm ?_
    refine wv (OV.eqlPN rfl rfl Tryd.underlying23) ?_
    refine wm ?_
    refine wv (OV.loadR rfl (At.own 0 rfl) o8) ?_
    refine wv (OV.fieldAddr0 rfl ai0) ?_
    refine wv (OV.load rfl (At.own 2 rfl) rfl z7) ?_
    refine wv (OV.fieldAddr0 rfl ai5) ?_
    refine wv (OV.load rfl (At.own 2 rfl) rfl b4) ?_
    refine wm ?_
    refine wv (OV.len rfl c8) ?_
    obtain ⟨o_5', h⟩ := h
    refine wv (OV.add rfl rfl o_5') ?_
    refine wv (OV.build rfl (cs := [zI c1, zI (p1 + (([108, 101, 116, 32, 113, 32, 61, 32, 47, 97, 47, 59, 10] : List UInt8).length : Int)), st []]) rfl) ?_
    refine wv (OV.eqlF (rs := [decide (c2 = c1), decide (p2 = p1 + (([108, 101, 116, 32, 113, 32, 61, 32, 47, 97, 47, 59, 10] : List UInt8).length : Int)), decide (([] : List UInt8) = [])]) rfl rfl Tryd.underlying26 aab aa9 ⟨rfl, z7, ⟨_, _, rfl, rfl, o9.int Tryd.underlying24⟩, ⟨rfl, b4, ⟨_, _, rfl, rfl, o9.int Tryd.underlying3⟩, ⟨rfl, b8, ⟨_, _, rfl, rfl, o9.str Tryd.underlying9⟩, trivial⟩⟩⟩) ?_
    refine wv (OV.pickT rfl rfl) ?_
    refine wA ?_
    refine WL.nil ?_
    refine kg (hK_11' [(2, zB (aaf [decide (c2 = c1), decide (p2 = p1 + (([108, 101, 116, 32, 113, 32, 61, 32, 47, 97, 47, 59, 10] : List UInt8).length : Int)), decide (([] : List UInt8) = [])]))] _ ?_)
    refine b9 ?_
    exact hE.ret [] rfl rfl (.inl ⟨_, h, rfl⟩) (e8.of1 rfl (RV.tmp rfl))
   ·obtain ⟨B_1', hc, ho⟩ := hS
    cases ho
 ·obtain ⟨B, hc, ho⟩ := hS
  cases ho
theorem ams (te : TypeId) (fre : Nat × Nat) (t : List UInt8) (ht : t.length ≤ 140737488351232) : e6 Tryd.prog 7 [st t] (abv te fre) [] (Ret (.bool true) []) := by
 have hh : ([108, 101, 116, 32, 113, 32, 61, 32, 47, 97, 47, 59, 10] : List UInt8).length = 13 := rfl
 have hi : I64 ((t.length : Int) + (([108, 101, 116, 32, 113, 32, 61, 32, 47, 97, 47, 59, 10] : List UInt8).length : Int)) := by rw [hh]; unfold I64; omega
 have out : ∀ {x : Out}, (∃ v : Bool, v = true ∧ x = .ret (.bool v) []) ∨ False → x = .ret (.bool true) [] := by
  rintro x (⟨v, rfl, rfl⟩ | h)
  ·rfl
  ·exact h.elim
 cases hp : l8 t with
 | error x =>
  obtain ⟨c, p⟩ := x
  have hpl := aky hp
  refine (apg te fre t c p c (p + 13) (fun b => b = true) ?_).weak fun x h => out h
  unfold afz
  refine ⟨hp, fun _ _ => ⟨hi, ?_⟩⟩
  by_cases hl : 4096 < (t.length : Int) + (([108, 101, 116, 32, 113, 32, 61, 32, 47, 97, 47, 59, 10] : List UInt8).length : Int)
  ·rw [if_pos (decide_eq_true hl)]
  ·rw [if_neg (by rw [decide_eq_true_eq]; exact hl)]
   rw [hh] at hl
   have h1 := aht (t := t) (by omega)
   rw [hp] at h1
   have hc : ¬ c = 0 := by
    unfold l8 at hp
    split at hp
    ·exact ag5 hp
    ·rename_i h0; cases hp; exact h0
   refine ⟨by rw [hh]; omega, h1, fun _ _ => ⟨hc, by rw [hh]; unfold I64; omega, ?_⟩⟩
   rw [hh, decide_eq_true rfl, decide_eq_true (show p + 13 = p + ((13 : Nat) : Int) from rfl)]
   rfl
 | ok x =>
  obtain ⟨l, a⟩ := x
  have hpl : 0 ≤ plX a ∧ plX a ≤ 4096 := amc hp
  refine (apz te fre t l a (aik :: l.map (shD 13)) (shX 13 a) (fun b => b = true) ?_).weak fun x h => out h
  unfold afu
  refine ⟨hp, fun b1 dw1 mv1 ds1 R1 B ⟨g1, _⟩ => ⟨hi, ?_⟩⟩
  by_cases hl : 4096 < (t.length : Int) + (([108, 101, 116, 32, 113, 32, 61, 32, 47, 97, 47, 59, 10] : List UInt8).length : Int)
  ·rw [if_pos (decide_eq_true hl)]
  ·rw [if_neg (by rw [decide_eq_true_eq]; exact hl)]
   rw [hh] at hl
   have h1 := aht (t := t) (by omega)
   rw [hp] at h1
   refine ⟨by rw [hh]; omega, h1, fun b2 dw2 mv2 ds2 R2 B2 ⟨g2, gm⟩ => ?_⟩
   have k1 : ds1.length = l.length := g1.1.len
   have k2 : ds2.length = l.length + 1 := by rw [g2.1.len, List.length_cons, List.length_map]
   have g3 := g1.more gm
   have hw := aet hp
   have hll := af2 l
   have hw3 := hw.2.2
   have h0 := TDs.at (i := 0) g2.1 (by rw [List.length_cons]; omega)
   have n1 : (ds2.getD ((0 : Int)).toNat default).2.1 = ([113] : List UInt8) := h0.2.1
   have n0 : (ds2.getD ((0 : Int)).toNat default).1 = 4 := h0.1
   have hfirst : ((b2, Obj.cells [dw2, mv2].toArray 39 (0, 0)) ∈ B2) ∧ (aay dw2 41 3 ds2.length (ds2.flatMap aak) R2) ∧ (0 ≤ (0 : Int) ∧ (0 : Int) < (ds2.length : Int)) ∧ (aay dw2 41 3 ds2.length (ds2.flatMap aak) R2 ∧ ∀ p ∈ R2, p ∈ B2) ∧ (((0 : Int)).toNat < ds2.length) :=
    ⟨g2.2.2.2.2, g2.2.2.1, ⟨Int.le_refl 0, by omega⟩, ⟨g2.2.2.1, g2.2.2.2.1⟩, by rw [k2]; exact Nat.succ_pos _⟩
   refine ⟨g2.2.2.2.2, g2.2.2.1, g3.2.2.2.2, g3.2.2.1, by unfold I64; omega, fun _ => hfirst, fun _ => hfirst, ?_⟩
   rw [n1, n0, decide_eq_true (show (ds2.length : Int) = (ds1.length : Int) + 1 by omega), if_neg (by decide)]
   refine ⟨g2.2.2.2.2, agv g2.2.1, g3.2.2.2.2, agv g3.2.1, by rw [hh]; unfold I64; omega, fun _ => ⟨⟨g2, aet h1⟩, ⟨g3, hw⟩, ?_⟩, ?_⟩
   ·have hd := ad3 hw.1
    have ha := t6 a 0 hw.2.1
    unfold l6
    rw [hh, List.length_append, List.length_append]
    simp only [List.length_cons, List.length_nil]
    omega
   ·rw [hh, show plX (shX 13 a) = plX a + ((13 : Nat) : Int) from atu 13 a, apk, decide_eq_true rfl, decide_eq_true (show ah4 ++ [10] ++ l6 l a = ([108, 101, 116, 32, 113, 32, 61, 32, 47, 97, 47, 59, 10] : List UInt8) ++ l6 l a from rfl)]
    rfl
end Go.Proofs.YtifajndacnfcbaaDoor
namespace Go.Proofs.YtifajndacnfcbaaDoor
open Go Go.ChangeShapes Go.WideShapes Go.ChangeAt Go.RowKit
theorem ag2 (os : Os) : laidMet Tryd.prog Rows.syntaxLetsRow.laid ((afp os).forCall (fun _ _ => 0) ⟨#[], #[.string ByteArray.empty], []⟩).memory :=
 laidMet_of_run' 8 (by kernel_rfl) (by kernel_rfl)
theorem afm (os : Os) {H : Type} (enc : TypeId × Value → H) : ∃ places, DataW.whole enc Tryd.prog ((afp os).forCall (fun _ _ => 0) ⟨#[], #[.string ByteArray.empty], []⟩).memory Tryd.f7.params.toList Rows.syntaxLetsSpec.vars false (#[.string ByteArray.empty] : Array Value).toList 8 = some ([.lit (.string [])], [], places) :=
 ⟨[], by kernel_rfl⟩
set_option maxRecDepth 100000 in
theorem afa (os : Os) (started : os.Started) (H : Type) (enc : TypeId × Value → H) (F : Stop.Interp) :
  ReturnsInHanded {} Tryd.checked os 7 .any ((OpenSpec.ofChange Rows.syntaxLetsSpec).preRow enc Tryd.prog Tryd.f7 Rows.syntaxLetsRow.domain false Rows.syntaxLetsRow.laid) (((OpenSpec.ofChange Rows.syntaxLetsSpec).at F).post enc Tryd.prog Tryd.f7 false true false false) := by
 obtain ⟨places, hx⟩ := afm os enc
 refine returnsInHanded_of_row (C := Tryd.checked) (s := OpenSpec.ofChange Rows.syntaxLetsSpec) aqf started (by kernel_rfl) Tryd.func7
  (witness_row_atRef (enc := enc) (C := Tryd.checked) false (afp os) #[.string ByteArray.empty] rfl (by kernel_rfl) (by kernel_rfl) (by kernel_rfl)
   (OpenSpec.preRow_of_cond 8 hx (by kernel_rfl) (fun k hk => by cases hk) (by kernel_rfl) (ag2 os))) ?_
 intro W base args ds gs before hval0 hW _ hcond hwt0 hL _ _
 have hval : ∀ (j : Nat) t v, Tryd.f7.params[j]? = some t → args[j]? = some v → Value.okWide Tryd.prog W .any base t v := hval0
 have hW' : DataW.Whole enc Tryd.prog Tryd.f7.params.toList Rows.syntaxLetsSpec.vars false W args.toList ds gs before := hW
 obtain ⟨p, q, hA0, hV, rfl, _, _⟩ := hW'
 have hA : DataW.TrodAll enc Tryd.prog W 0 (fun _ => true) true Tryd.f7.params.toList args.toList ds p := hA0
 have hwt : (DataW.weightsEach Tryd.prog (Tryd.f7.params.toList ++ Rows.syntaxLetsSpec.plain.varTypes Tryd.prog) (ds ++ gs)).all (· ≤ reachBytes) = true := hwt0
 rw [Tryd.params7] at hA hval hwt
 obtain ⟨v0, d0, rfl, rfl, h0⟩ := trodAll_one hA
 obtain ⟨rfl, rfl⟩ := trodVars_none hV
 obtain ⟨a0, rfl, e0, _, _⟩ := ChangeMaps.open_string Tryd.underlying9 (hval 0 _ v0 rfl rfl) h0
 have y0 : a0.data.toList.length ≤ reachBytes := sized_string hwt (j := 0) (t := 9) rfl (by rw [e0]; rfl)
 have r0 : a0.data.toList.length ≤ 140737488351232 := y0
 refine (ano hL (fun te fre => ams te fre a0.data.toList r0)).mono fun e W' ⟨he, hb⟩ => ?_
 subst he
 exact ⟨_, rfl, aqk aq9 rfl Tryd.underlying4 (by kernel_rfl) rfl hW rfl hb⟩
theorem ago : Rows.SyntaxLetsSaid :=
 OpenClaim.holds_of_cond 7 Tryd.f7 rfl rfl rfl rfl rfl rfl rfl ⟨rfl, rfl, rfl, rfl, rfl⟩ rfl rfl rfl rfl rfl (by kernel_rfl) Tryd.func7 (by kernel_rfl)
  (of_decide_eq_true (by kernel_rfl)) (by unfold Func.isWrapper; rw [if_neg (of_decide_eq_false (by kernel_rfl))]; exact ⟨rfl, rfl⟩)
  (fun os started H enc _ F => by rw [OpenClaim.pre_eq_preRow]; exact afa os started H enc F)
theorem syntaxLets_card_holds : Rows.SyntaxLetsCardSaid :=
 Claim7.holds_tied_plain_at .later [] _ _ _ _ ago (fun _ h => by cases h) (by kernel_rfl) (fun _ h => by cases h) syntaxLets_row_tie rfl ⟨rfl, rfl⟩ (by kernel_rfl) rfl
  (fun f fn hf hfn => by
   obtain rfl : f = 7 := Option.some.inj ((show Tryd.prog.funcNamed "loupe/loupelaw13.SyntaxLets" = some 7 by kernel_rfl).symm.trans hf) |>.symm
   obtain rfl : fn = Tryd.f7 := (Option.some.inj (Tryd.func7.symm.trans hfn)).symm
   refine ⟨by kernel_rfl, fun j t ht => ?_⟩
   rw [Tryd.params7] at ht
   have h3 : t = 9 := by simpa using Array.mem_of_getElem? ht
   rcases h3 with rfl
   ·exact (show Tryd.prog.wantsStandIn 9 = false by kernel_rfl))
  (by kernel_rfl)
end Go.Proofs.YtifajndacnfcbaaDoor
