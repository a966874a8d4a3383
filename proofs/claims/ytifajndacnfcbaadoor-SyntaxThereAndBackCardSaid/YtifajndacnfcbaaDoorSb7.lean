/-
  Merged: SyS, SyG, SyH, SyI, SyJ, SyBa, SyBb, SyBc, SyK1, SyLawBack.
-/
import Derived.Test.YtifajndacnfcbaaDoorSb6
set_option maxRecDepth 100000
namespace Go.Proofs.YtifajndacnfcbaaDoor
open Go Go.RowKit
theorem s6 {t : List UInt8} {p : Nat} {c : UInt8} {v : List UInt8} (h : t.drop p = c :: v) : (p : Int) < t.length ∧ bt t p = c.toNat ∧ t.drop (p + 1) = v := by
 have hl : p < t.length := by
  have := congrArg List.length h
  rw [List.length_drop, List.length_cons] at this; omega
 have hg : t[p]? = some c := by
  have := congrArg (fun l => l[0]?) h
  simpa using this
 refine ⟨by omega, ?_, ?_⟩
 ·unfold bt
  rw [Int.toNat_natCast, List.getD_eq_getElem?_getD, hg]; rfl
 ·rw [← List.drop_drop, h]; rfl
theorem an1 : ∀ n, n < 16 → aaq ((hx n).toNat : Nat) = n := by decide +kernel
theorem ao9 {n : Int} (h : 32 ≤ n ∧ n ≤ 126) : p6 n = true := by unfold p6; simp [h.1, h.2]
theorem afv {t : List UInt8} {fr : Int} {r : List UInt8} : ∀ (s : List UInt8) (n p : Nat) (out : List UInt8), t.drop p = s.flatMap qb ++ 34 :: r → s.length < n → k6 t fr n out (p : Int) = .ok (out ++ s, ((p + (s.flatMap qb).length + 1 : Nat) : Int))
 | [], n, p, out, h, hn => by
  obtain ⟨n, rfl⟩ : ∃ m, n = m + 1 := ⟨n - 1, by omega⟩
  obtain ⟨h1, h2, _⟩ := s6 (v := r) h
  rw [k6, if_pos h1, if_pos (by rw [h2]; rfl)]; simp
 | c :: s, n, p, out, h, hn => by
  obtain ⟨n, rfl⟩ : ∃ m, n = m + 1 := ⟨n - 1, by omega⟩
  rw [List.flatMap_cons, List.append_assoc] at h
  have hn' : s.length < n := by simp only [List.length_cons] at hn; omega
  have hc := c.toNat_lt
  have ih := fun (q : Nat) (hq : t.drop q = s.flatMap qb ++ 34 :: r) => afv (fr := fr) s n q (out ++ [c]) hq hn'
  have step : ∀ (w : List UInt8) (b : Int), qb c = 92 :: w → b.toNat.toUInt8 = c → abf t (p : Int) = (b, true, ((p + (qb c).length - 1 : Nat) : Int)) → ((p + (qb c).length - 1 : Nat) : Int) < t.length → t.drop (p + (qb c).length) = s.flatMap qb ++ 34 :: r →
    k6 t fr (n + 1) out (p : Int) = .ok (out ++ c :: s, ((p + ((c :: s).flatMap qb).length + 1 : Nat) : Int)) := fun w b hw hb he hlt hd => by
   rw [hw] at h
   obtain ⟨h1, h2, _⟩ := s6 (v := w ++ (s.flatMap qb ++ 34 :: r)) h
   have hp : 1 ≤ (qb c).length := by rw [hw]; simp
   rw [k6, if_pos h1, if_neg (by rw [h2]; decide), if_neg (by rw [h2]; decide), if_neg (by rw [h2]; decide), he]
   simp only
   rw [if_neg (by omega), if_neg (by simp), hb, show ((p + (qb c).length - 1 : Nat) : Int) + 1 = ((p + (qb c).length : Nat) : Int) by omega, ih _ hd]
   simp [List.flatMap_cons, Nat.add_assoc]
  by_cases e1 : c = 34 ∨ c = 92
  ·have hq : qb c = [92, c] := by unfold qb; rw [if_pos e1]
   have h' := h
   rw [hq] at h'
   obtain ⟨a1, a2, a3⟩ := s6 (v := c :: (s.flatMap qb ++ 34 :: r)) h'
   obtain ⟨b1, b2, b3⟩ := s6 a3
   refine step [c] (c.toNat : Int) hq (by simp) ?_ ?_ ?_
   ·rw [hq]; unfold abf
    rw [if_neg (by omega), show (p : Int) + 1 = ((p + 1 : Nat) : Int) by omega, b2]
    rcases e1 with rfl | rfl <;> rfl
   ·rw [hq]; simp only [List.length_cons, List.length_nil]; omega
   ·rw [hq]; exact b3
  ·by_cases e2 : 32 ≤ c.toNat ∧ c.toNat ≤ 126
   ·have hq : qb c = [c] := by unfold qb; rw [if_neg e1, if_pos e2]
    rw [hq] at h
    obtain ⟨a1, a2, a3⟩ := s6 (v := s.flatMap qb ++ 34 :: r) h
    have n1 : c.toNat ≠ 34 := fun e => e1 (.inl (UInt8.toNat_inj.1 e))
    have n2 : c.toNat ≠ 92 := fun e => e1 (.inr (UInt8.toNat_inj.1 e))
    rw [k6, if_pos a1, a2, if_neg (by omega), if_neg (by rw [ao9 (by omega)]; simp), if_pos (by omega), show (p : Int) + 1 = ((p + 1 : Nat) : Int) by omega]
    rw [show ((c.toNat : Int)).toNat.toUInt8 = c by simp, ih _ a3]
    simp [List.flatMap_cons, hq, Nat.add_assoc, Nat.add_comm 1]
   ·have short : ∀ (x : UInt8) (b : Int), qb c = [92, x] → b.toNat.toUInt8 = c → (∀ a : Int, ¬ (t.length : Int) ≤ a + 1 → bt t (a + 1) = (x.toNat : Int) → abf t a = (b, true, a + 1)) → k6 t fr (n + 1) out (p : Int) = .ok (out ++ c :: s, ((p + ((c :: s).flatMap qb).length + 1 : Nat) : Int)) := fun x b hq hb hesc => by
     have h' := h
     rw [hq] at h'
     obtain ⟨a1, a2, a3⟩ := s6 (v := x :: (s.flatMap qb ++ 34 :: r)) h'
     obtain ⟨b1, b2, b3⟩ := s6 a3
     refine step [x] b hq hb ?_ ?_ ?_
     ·rw [hq, hesc (p : Int) (by omega) (by rw [show (p : Int) + 1 = ((p + 1 : Nat) : Int) by omega, b2])]
      simp
     ·rw [hq]; simp only [List.length_cons, List.length_nil]; omega
     ·rw [hq]; exact b3
    by_cases e3 : c = 10
    ·exact short 110 10 (by unfold qb; rw [if_neg e1, if_neg e2, if_pos e3]) (by rw [e3]; rfl) (fun a g1 g2 => by unfold abf; rw [if_neg g1, g2]; rfl)
    ·by_cases e4 : c = 13
     ·exact short 114 13 (by unfold qb; rw [if_neg e1, if_neg e2, if_neg e3, if_pos e4]) (by rw [e4]; rfl) (fun a g1 g2 => by unfold abf; rw [if_neg g1, g2]; rfl)
     ·by_cases e5 : c = 9
      ·exact short 116 9 (by unfold qb; rw [if_neg e1, if_neg e2, if_neg e3, if_neg e4, if_pos e5]) (by rw [e5]; rfl) (fun a g1 g2 => by unfold abf; rw [if_neg g1, g2]; rfl)
      ·have hq : qb c = [92, 120, hx (c.toNat / 16), hx (c.toNat % 16)] := by unfold qb; rw [if_neg e1, if_neg e2, if_neg e3, if_neg e4, if_neg e5]
       have h' := h
       rw [hq] at h'
       obtain ⟨a1, a2, a3⟩ := s6 (v := 120 :: hx (c.toNat / 16) :: hx (c.toNat % 16) :: (s.flatMap qb ++ 34 :: r)) h'
       obtain ⟨b1, b2, b3⟩ := s6 a3
       obtain ⟨c1, c2, c3⟩ := s6 b3
       obtain ⟨d1, d2, d3⟩ := s6 c3
       refine step [120, hx (c.toNat / 16), hx (c.toNat % 16)] (16 * ((c.toNat / 16 : Nat) : Int) + ((c.toNat % 16 : Nat) : Int)) hq ?_ ?_ ?_ ?_
       ·rw [show (16 * ((c.toNat / 16 : Nat) : Int) + ((c.toNat % 16 : Nat) : Int)) = (c.toNat : Int) by omega]; simp
       ·rw [hq]; unfold abf
        have x1 : bt t ((p : Int) + 1) = 120 := by rw [show (p : Int) + 1 = ((p + 1 : Nat) : Int) by omega, b2]; rfl
        have x2 : aaq (bt t ((p : Int) + 2)) = ((c.toNat / 16 : Nat) : Int) := by rw [show (p : Int) + 2 = ((p + 1 + 1 : Nat) : Int) by omega, c2]; exact an1 _ (by omega)
        have x3 : aaq (bt t ((p : Int) + 3)) = ((c.toNat % 16 : Nat) : Int) := by rw [show (p : Int) + 3 = ((p + 1 + 1 + 1 : Nat) : Int) by omega, d2]; exact an1 _ (by omega)
        rw [if_neg (by omega), x1, x2, x3]
        simp only
        rw [if_neg (by decide), if_neg (by decide), if_neg (by decide), if_neg (by decide), if_pos trivial, if_neg (by omega), if_neg (by omega), if_neg (by omega), if_neg (by omega)]
        simp
       ·rw [hq]; simp only [List.length_cons, List.length_nil]; omega
       ·rw [hq]; exact d3
def nmB (c : UInt8) : Bool := j7 (c.toNat : Int) || p5 (c.toNat : Int)
inductive Rx : List UInt8 → Prop
 | nil : Rx []
 | esc (d : UInt8) (r : List UInt8) : p6 (d.toNat : Int) = true → Rx r → Rx (92 :: d :: r)
 | one (c : UInt8) (r : List UInt8) : p6 (c.toNat : Int) = true → c ≠ 47 → c ≠ 92 → Rx r → Rx (c :: r)
def adn (k : Tok) : Prop :=
 (k.1 = 1 ∧ (∃ c r, k.2.2 = c :: r ∧ j7 (c.toNat : Int) = true) ∧ (∀ c ∈ k.2.2, nmB c = true) ∧ k.2.2.length ≤ 32) ∨ k.1 = 2 ∨ (k.1 = 3 ∧ Rx k.2.2) ∨
 (k.1 = 4 ∧ ((∃ c, k.2.2 = [c] ∧ ad4.contains c = true) ∨ k.2.2 = [62, 62]))
theorem aqm {t : List UInt8} {p : Int} {x : UInt8} (h : bt t p = (x.toNat : Int)) : (bt t p).toNat.toUInt8 = x := by rw [h]; simp
theorem adv {t : List UInt8} {i j : Int} (h : 0 ≤ i ∧ i < j ∧ j ≤ t.length) : ∃ x : UInt8, bt t i = (x.toNat : Int) ∧ cut t i j = x :: cut t (i + 1) j := by
 obtain ⟨x, hx, hb⟩ := afs (t := t) (p := i) ⟨h.1, by omega⟩
 refine ⟨x, hb, ?_⟩
 unfold cut
 rw [hx, show j.toNat - i.toNat = (j.toNat - (i + 1).toNat) + 1 by omega, List.take_succ_cons]
theorem an6 (t : List UInt8) (i : Int) : cut t i i = [] := by unfold cut; simp
theorem akd {t : List UInt8} {i j : Int} : (cut t i j).length ≤ t.length := by
 unfold cut; rw [List.length_take, List.length_drop]; omega
theorem aeb {t : List UInt8} {fr : Int} : ∀ {n : Nat} {k : Int} {x : List UInt8} {q : Int}, 0 ≤ k → o7 t fr n k = .ok (x, q) → x = cut t (fr + 1) (q - 1) ∧ Rx (cut t k (q - 1))
 | 0, _, _, _, _, h => by cases h
 | n + 1, k, x, q, h0, h => by
  have hq := aar h
  rw [o7] at h
  split at h
  ·rename_i hk
   split at h
   ·rename_i h9
    split at h
    ·cases h
    ·rename_i hp
     have h1 := aar h
     have h2 := aeb (by omega) h
     refine ⟨h2.1, ?_⟩
     obtain ⟨c, c1, c2⟩ := adv (t := t) (i := k) (j := q - 1) ⟨h0, by omega, by omega⟩
     obtain ⟨d, d1, d2⟩ := adv (t := t) (i := k + 1) (j := q - 1) ⟨by omega, by omega, by omega⟩
     have hc : c = 92 := UInt8.toNat_inj.1 (by have := h9.1; rw [c1] at this; exact Int.ofNat.inj this)
     rw [c2, d2, hc, show k + 1 + 1 = k + 2 by omega]
     refine .esc d _ ?_ h2.2
     rw [d1] at hp; simpa using hp
   ·rename_i h9
    split at h
    ·cases h
    ·rename_i hp
     split at h
     ·simp only [Except.ok.injEq, Prod.mk.injEq] at h
      obtain ⟨rfl, rfl⟩ := h
      rw [show k + 1 - 1 = k by omega, an6]
      exact ⟨rfl, .nil⟩
     ·rename_i h47
      have h1 := aar h
      have h2 := aeb (by omega) h
      refine ⟨h2.1, ?_⟩
      obtain ⟨c, c1, c2⟩ := adv (t := t) (i := k) (j := q - 1) ⟨h0, by omega, by omega⟩
      rw [c2]
      rw [c1] at hp h47 h9
      refine .one c _ (by simpa using hp) (fun e => h47 (by rw [e]; rfl)) (fun e => h9 ⟨by rw [e]; rfl, by omega⟩) h2.2
  ·cases h
theorem adf {t : List UInt8} {fr : Int} : ∀ {n : Nat} {out : List UInt8} {k : Int} {x : List UInt8} {q : Int}, k6 t fr n out k = .ok (x, q) → (x.length : Int) ≤ out.length + (q - k)
 | 0, _, _, _, _, h => by cases h
 | n + 1, out, k, x, q, h => by
  have hq := abw h
  rw [k6] at h
  split at h
  ·split at h
   ·simp only [Except.ok.injEq, Prod.mk.injEq] at h
    obtain ⟨rfl, rfl⟩ := h; omega
   ·split at h
    ·cases h
    ·split at h
     ·have := adf h
      rw [List.length_append] at this; simp only [List.length_cons, List.length_nil] at this; omega
     ·split at h
      ·cases h
      ·split at h
       ·cases h
       ·have h1 := adf h
        have h2 := (amq (t := t) (a := k) (b := (abf t k).1) (ok := (abf t k).2.1) (q := (abf t k).2.2) rfl).1
        rw [List.length_append] at h1; simp only [List.length_cons, List.length_nil] at h1; omega
  ·cases h
theorem ai6 : ∀ l : List UInt8, ∀ c ∈ l.take (v6 l), nmB c = true
 | [], c, h => by simp at h
 | d :: l, c, h => by
  rw [v6] at h
  split at h
  ·rename_i hd
   rw [Nat.add_comm, List.take_succ_cons] at h
   rcases List.mem_cons.1 h with rfl | h
   ·exact hd
   ·exact ai6 l c h
  ·simp at h
theorem apr {t : List UInt8} {a : Int} (hb : 0 ≤ a ∧ a < t.length) {k : Tok} {q : Int} (h : abd t a = .ok (k, q)) : adn k ∧ k.2.2.length ≤ t.length := by
 have hq := aek hb h
 unfold abd at h
 split at h
 ·rename_i hl
  split at h
  ·cases h
  ·rename_i h32
   simp only [Except.ok.injEq, Prod.mk.injEq] at h
   obtain ⟨rfl, rfl⟩ := h
   refine ⟨.inl ⟨rfl, ?_, ?_, ?_⟩, akd⟩
   ·obtain ⟨c, c1, c2⟩ := adv (t := t) (i := a) (j := a + v6 (t.drop a.toNat)) ⟨hb.1, by omega, hq.2⟩
    exact ⟨c, _, c2, by rw [← c1]; exact hl⟩
   ·intro c hc
    refine ai6 (t.drop a.toNat) c ?_
    have : cut t a (a + v6 (t.drop a.toNat)) = (t.drop a.toNat).take (v6 (t.drop a.toNat)) := by
     unfold cut; congr 1; omega
    rw [← this]; exact hc
   ·show (cut _ _ _).length ≤ 32
    unfold cut; rw [List.length_take]; omega
 ·split at h
  ·unfold z8 at h
   split at h
   ·rename_i he
    have h1 := adf he
    have h2 := abw he
    simp only [Except.ok.injEq, Prod.mk.injEq] at h
    obtain ⟨rfl, rfl⟩ := h
    refine ⟨.inr (.inl rfl), ?_⟩
    simp only [List.length_nil] at h1
    dsimp only
    omega
   ·cases h
  ·split at h
   ·unfold aa8 at h
    split at h
    ·rename_i he
     have h1 := aeb (by omega) he
     have h2 := aar he
     simp only [Except.ok.injEq, Prod.mk.injEq] at h
     obtain ⟨rfl, rfl⟩ := h
     refine ⟨.inr (.inr (.inl ⟨rfl, ?_⟩)), ?_⟩
     ·show Rx _
      rw [h1.1]; exact h1.2
     ·show List.length _ ≤ _
      rw [h1.1]; exact akd
    ·cases h
   ·split at h
    ·rename_i hm
     simp only [Except.ok.injEq, Prod.mk.injEq] at h
     obtain ⟨rfl, rfl⟩ := h
     obtain ⟨c, c1, c2⟩ := adv (t := t) (i := a) (j := a + 1) ⟨hb.1, by omega, by omega⟩
     refine ⟨.inr (.inr (.inr ⟨rfl, .inl ⟨c, ?_, ?_⟩⟩)), akd⟩
     ·show cut t a (a + 1) = [c]
      rw [c2, an6]
     ·rw [aqm c1] at hm; exact hm
    ·split at h
     ·rename_i h62
      simp only [Except.ok.injEq, Prod.mk.injEq] at h
      obtain ⟨rfl, rfl⟩ := h
      exact ⟨.inr (.inr (.inr ⟨rfl, .inr rfl⟩)), by show 2 ≤ t.length; omega⟩
     ·cases h
theorem afd {t : List UInt8} : ∀ {n : Nat} {l l' : List Tok} {a : Int}, 0 ≤ a → a ≤ t.length → y9 t n l a = .ok l' → (∀ k ∈ l, adn k ∧ k.2.2.length ≤ t.length) → ∃ ks, l' = ks ++ [((0, (t.length : Int), []) : Tok)] ∧ ∀ k ∈ ks, adn k ∧ k.2.2.length ≤ t.length
 | 0, _, _, _, _, _, h, _ => by cases h
 | n + 1, l, l', a, h0, h1, h, hl => by
  rw [y9] at h
  split at h
  ·rename_i ha
   split at h
   ·rename_i k q ho
    have hq := aek ⟨h0, ha⟩ ho
    have hg := x0 (t := t) (a := q) ⟨by omega, hq.2⟩
    have hk := apr ⟨h0, ha⟩ ho
    exact afd (by omega) hg.2 h fun x hx => by
     rcases List.mem_append.1 hx with hx | hx
     ·exact hl x hx
     ·rw [List.mem_singleton.1 hx]; exact hk
   ·cases h
  ·simp only [Except.ok.injEq] at h
   exact ⟨l, h.symm, hl⟩
theorem ak8 {u : List UInt8} {fr : Int} {r : List UInt8} : ∀ {x : List UInt8}, Rx x → ∀ (n p : Nat), u.drop p = x ++ 47 :: r → x.length < n → o7 u fr n (p : Int) = .ok (cut u (fr + 1) ((p + x.length : Nat) : Int), ((p + x.length + 1 : Nat) : Int)) := by
 intro x hx
 induction hx with
 | nil =>
  intro n p h hn
  obtain ⟨n, rfl⟩ : ∃ m, n = m + 1 := ⟨n - 1, by simp only [List.length_nil] at hn; omega⟩
  obtain ⟨h1, h2, _⟩ := s6 (v := r) h
  rw [o7, if_pos h1, if_neg (by rw [h2]; simp), if_neg (by rw [h2]; decide), if_pos (by rw [h2]; rfl)]; rfl
 | esc d w hd hw ih =>
  intro n p h hn
  obtain ⟨n, rfl⟩ : ∃ m, n = m + 1 := ⟨n - 1, by simp only [List.length_cons] at hn; omega⟩
  obtain ⟨h1, h2, h3⟩ := s6 (v := d :: w ++ 47 :: r) h
  obtain ⟨g1, g2, g3⟩ := s6 (v := w ++ 47 :: r) h3
  rw [o7, if_pos h1, if_pos ⟨by rw [h2]; rfl, by omega⟩, show (p : Int) + 1 = ((p + 1 : Nat) : Int) by omega, g2, if_neg (by rw [hd]; simp), show (p : Int) + 2 = ((p + 1 + 1 : Nat) : Int) by omega, ih n (p + 1 + 1) g3 (by simp only [List.length_cons] at hn; omega)]
  simp only [List.length_cons]
  rw [show p + 1 + 1 + w.length = p + (w.length + 1 + 1) by omega]
 | one c w hc h47 h92 hw ih =>
  intro n p h hn
  obtain ⟨n, rfl⟩ : ∃ m, n = m + 1 := ⟨n - 1, by simp only [List.length_cons] at hn; omega⟩
  obtain ⟨h1, h2, h3⟩ := s6 (v := w ++ 47 :: r) h
  rw [o7, if_pos h1, if_neg (fun e => h92 (UInt8.toNat_inj.1 (by have := e.1; rw [h2] at this; exact Int.ofNat.inj this))), h2, if_neg (by rw [hc]; simp), if_neg (fun e : (c.toNat : Int) = 47 => h47 (UInt8.toNat_inj.1 (by show c.toNat = 47; omega))), show (p : Int) + 1 = ((p + 1 : Nat) : Int) by omega, ih n (p + 1) h3 (by simp only [List.length_cons] at hn; omega)]
  simp only [List.length_cons]
  rw [show p + 1 + w.length = p + (w.length + 1) by omega]
theorem amy {u x r : List UInt8} {p : Nat} (h : u.drop p = x ++ r) : cut u (p : Int) ((p + x.length : Nat) : Int) = x := by
 unfold cut
 rw [Int.toNat_natCast, Int.toNat_natCast, h, show p + x.length - p = x.length by omega, List.take_left]
theorem ahi {u x r : List UInt8} {p : Nat} (h : u.drop p = x ++ r) (hx : x ≠ []) : p + x.length + r.length = u.length := by
 have := congrArg List.length h
 rw [List.length_drop, List.length_append] at this
 have : 0 < x.length := by cases x <;> simp_all
 omega
def bare (k : Tok) : List UInt8 := if k.1 = 2 then aaf k.2.2 else if k.1 = 3 then [47] ++ k.2.2 ++ [47] else k.2.2
theorem asg : ∀ s : List UInt8, s.length ≤ (s.flatMap qb).length
 | [] => by simp
 | c :: s => by
  have : 1 ≤ (qb c).length := by
   unfold qb
   repeat' split
   all_goals simp
  have := asg s
  rw [List.flatMap_cons, List.length_append, List.length_cons]; omega
theorem ajb : ∀ c ∈ ad4, j7 (c.toNat : Int) = false ∧ c ≠ 34 ∧ c ≠ 47 ∧ c ≠ 35 ∧ c ≠ 10 ∧ c ≠ 32 ∧ c ≠ 9 ∧ c ≠ 13 := by decide
theorem al7 {c : UInt8} (h : j7 (c.toNat : Int) = true) : c ≠ 35 ∧ c ≠ 10 ∧ c ≠ 32 ∧ c ≠ 9 ∧ c ≠ 13 := by
 refine ⟨?_, ?_, ?_, ?_, ?_⟩ <;> rintro rfl <;> exact absurd h (by decide)
theorem ap5 {k : Tok} (h : adn k) : ∃ c r, bare k = c :: r ∧ c ≠ 35 ∧ c ≠ 10 ∧ c ≠ 32 ∧ c ≠ 9 ∧ c ≠ 13 := by
 unfold bare
 rcases h with ⟨h1, ⟨c, r, e, hl⟩, _⟩ | h | ⟨h1, _⟩ | ⟨h1, h2⟩
 ·rw [if_neg (by omega), if_neg (by omega)]
  exact ⟨c, r, e, al7 hl⟩
 ·rw [if_pos h]
  exact ⟨34, _, rfl, by decide, by decide, by decide, by decide, by decide⟩
 ·rw [if_neg (by omega), if_pos h1]
  exact ⟨47, _, rfl, by decide, by decide, by decide, by decide, by decide⟩
 ·rw [if_neg (by omega), if_neg (by omega)]
  rcases h2 with ⟨c, e, hc⟩ | e
  ·have := ajb c (by simpa using hc)
   exact ⟨c, [], e, this.2.2.2⟩
  ·exact ⟨62, [62], e, by decide, by decide, by decide, by decide, by decide⟩
theorem asf {u r : List UInt8} {c : UInt8} {p : Nat} (h : u.drop p = c :: r) (hc : c ≠ 35 ∧ c ≠ 10 ∧ c ≠ 32 ∧ c ≠ 9 ∧ c ≠ 13) : r8 u (p : Int) = p := by
 unfold r8
 rw [Int.toNat_natCast, h, ae2]
 simp [hc]
theorem ap4 {u r : List UInt8} {p : Nat} (h : u.drop p = 32 :: r) : r8 u (p : Int) = r8 u ((p + 1 : Nat) : Int) := by
 unfold r8
 obtain ⟨_, _, h3⟩ := s6 h
 rw [Int.toNat_natCast, Int.toNat_natCast, h, h3, ae2]
 simp; omega
def kt (k : Tok) : Int × List UInt8 := (k.1, k.2.2)
end Go.Proofs.YtifajndacnfcbaaDoor
namespace Go.Proofs.YtifajndacnfcbaaDoor
open Go Go.RowKit
mutual
def WXt (ts : List Tok) : Ex → Prop
 | .name p s => ((1, p, s) : Tok) ∈ ts ∧ d7 s = 0
 | .text p s => ((2, p, s) : Tok) ∈ ts
 | .regex p s => ((3, p, s) : Tok) ∈ ts
 | .keyed p a => (∃ k, p = (a8 ts k).2.1) ∧ WXt ts a
 | .unary p o a => ((∃ k, p = (a8 ts k).2.1) ∧ (o = [42] ∨ o = [43] ∨ o = [63])) ∧ WXt ts a
 | .binary p o a b => ((∃ k, p = (a8 ts k).2.1) ∧ acy o ∧ 0 ≤ d4 o) ∧ WXt ts a ∧ WXt ts b
 | .call p w l => ((1, p, w) : Tok) ∈ ts ∧ 0 < d7 w ∧ (l.len : Int) = d7 w ∧ WXl ts l
def WXl (ts : List Tok) : ExL → Prop
 | .nil => True
 | .cons a r => WXt ts a ∧ WXl ts r
end
theorem WXl.snoc {ts : List Tok} {b : Ex} (hb : WXt ts b) : ∀ {l : ExL}, WXl ts l → WXl ts (l.snoc b)
 | .nil, _ => by rw [ExL.snoc, WXl, WXl]; exact ⟨hb, trivial⟩
 | .cons a r, h => by rw [WXl] at h; rw [ExL.snoc, WXl]; exact ⟨h.1, WXl.snoc hb h.2⟩
theorem aor (b : Ex) : ∀ l : ExL, wL (l.snoc b) = wL l + wX b + 1
 | .nil => by simp only [ExL.snoc, wL]; omega
 | .cons a r => by simp only [ExL.snoc, wL, aor b r]; omega
def au6 : Ex → Int
 | .name p _ => p
 | .text p _ => p
 | .regex p _ => p
 | .keyed p _ => p
 | .unary p _ _ => p
 | .binary p _ _ _ => p
 | .call p _ _ => p
theorem apk {o : Bs} (h : 0 ≤ d4 o) : acy o := by
 unfold d4 at h
 split at h
 ·rename_i h1; exact .inr ⟨_, h1⟩
 ·split at h
  ·rename_i h1; rcases h1 with h1 | h1 <;> exact .inr ⟨_, h1⟩
  ·split at h
   ·rename_i h1; exact .inl h1
   ·split at h
    ·rename_i h1; exact .inr ⟨_, h1⟩
    ·split at h
     ·rename_i h1; exact .inr ⟨_, h1⟩
     ·omega
theorem ag7 {ts : List Tok} {k : Nat} {j : Int} (h : (a8 ts k).1 = j) (hj : j ≠ 0) : ((j, (a8 ts k).2.1, (a8 ts k).2.2) : Tok) ∈ ts := by
 have := alv (afh (ts := ts) (k := k) (by rw [h]; exact hj))
 rw [← h]; exact this
structure Wf (ts : List Tok) (f : Nat) : Prop where
 e : ∀ l q a q1, pE ts f l q = .ok (a, q1) → WXt ts a ∧ q.1 + wX a ≤ q1.1
 l : ∀ l b q a q1, WXt ts b → pL ts f l b q = .ok (a, q1) → WXt ts a ∧ q.1 + wX a ≤ q1.1 + wX b
 p : ∀ q a q1, pP ts f q = .ok (a, q1) → WXt ts a ∧ q.1 + wX a ≤ q1.1
 s : ∀ b q a q1, WXt ts b → pS ts f b q = .ok (a, q1) → WXt ts a ∧ q.1 + wX a ≤ q1.1 + wX b
 a : ∀ q a q1, pA ts f q = .ok (a, q1) → WXt ts a ∧ q.1 + wX a ≤ q1.1
 c : ∀ q a q1, (a8 ts q.1).1 = 1 → 0 < d7 (a8 ts q.1).2.2 → pC ts f q = .ok (a, q1) → WXt ts a ∧ q.1 + wX a ≤ q1.1
 r : ∀ n b q a q1, WXl ts b → b.len ≤ n → pR ts f n b q = .ok (a, q1) → (WXl ts a ∧ a.len = n) ∧ q.1 + wL a ≤ q1.1 + wL b + (if b.len = 0 then 1 else 0)
theorem wf (ts : List Tok) : ∀ f, Wf ts f := by
 intro f
 induction f with
 | zero =>
  refine ⟨?_, ?_, ?_, ?_, ?_, ?_, ?_⟩ <;> intros <;> rename_i h <;> first | (rw [pE] at h; cases h; done) | (rw [pL] at h; cases h; done) | (rw [pP] at h; cases h; done) | (rw [pS] at h; cases h; done) | (rw [pA] at h; cases h; done) | (rw [pC] at h; cases h; done) | (rw [pR] at h; cases h; done)
 | succ f ih =>
  refine ⟨fun l q a q1 h => ?_, fun l b q a q1 hb h => ?_, fun q a q1 h => ?_, fun b q a q1 hb h => ?_, fun q a q1 h => ?_, fun q a q1 hk ha h => ?_, fun n b q a q1 hb hn h => ?_⟩
  ·rw [pE] at h
   split at h
   ·exact ih.p _ _ _ h
   ·split at h
    ·cases h
    ·rename_i a2 q2 h2
     obtain ⟨e1, e2⟩ := ih.e _ _ _ _ h2
     obtain ⟨g1, g2⟩ := ih.l _ _ _ _ _ e1 h
     exact ⟨g1, by omega⟩
  ·rw [pL] at h
   split at h
   ·rename_i hm
    split at h
    ·cases h
    ·rename_i a2 q2 h2
     obtain ⟨e1, e2⟩ := ih.e _ _ _ _ h2
     dsimp only at e2
     have hr : 0 ≤ d4 (a8 ts q.1).2.2 := by rw [hm.2]; omega
     obtain ⟨g1, g2⟩ := ih.l _ _ _ _ _ (by rw [WXt]; exact ⟨⟨⟨_, rfl⟩, apk hr, hr⟩, hb, e1⟩) h
     rw [wX] at g2
     exact ⟨g1, by omega⟩
   ·cases h; exact ⟨hb, Nat.le_refl _⟩
  ·rw [pP] at h
   split at h
   ·cases h
   ·rename_i a2 q2 h2
    obtain ⟨e1, e2⟩ := ih.a _ _ _ h2
    obtain ⟨g1, g2⟩ := ih.s _ _ _ _ e1 h
    exact ⟨g1, by omega⟩
  ·rw [pS] at h
   split at h
   ·rename_i hm
    obtain ⟨g1, g2⟩ := ih.s _ _ _ _ (by
     rw [WXt]
     refine ⟨⟨⟨_, rfl⟩, ?_⟩, hb⟩
     rcases hm with hm | hm | hm
     ·exact .inl (v7 hm).2.1
     ·exact .inr (.inl (v7 hm).2.1)
     ·exact .inr (.inr (v7 hm).2.1)) h
    rw [wX] at g2
    dsimp only at g2
    exact ⟨g1, by omega⟩
   ·cases h; exact ⟨hb, Nat.le_refl _⟩
  ·rw [pA] at h
   split at h
   ·rename_i h1; cases h; rw [WXt, wX]; exact ⟨ag7 h1 (by decide), Nat.le_refl _⟩
   ·split at h
    ·rename_i h1; cases h; rw [WXt, wX]; exact ⟨ag7 h1 (by decide), Nat.le_refl _⟩
    ·split at h
     ·rename_i h1; exact ih.c _ _ _ h1.1 h1.2 h
     ·split at h
      ·rename_i h1; cases h; rw [WXt, wX]; exact ⟨⟨ag7 h1.1 (by decide), h1.2⟩, Nat.le_refl _⟩
      ·split at h
       ·split at h
        ·cases h
        ·rename_i q2 h2
         obtain ⟨b1, b2, rfl⟩ := p9 h2
         split at h
         ·cases h
         ·rename_i a3 q3 h3
          obtain ⟨e1, e2⟩ := ih.e _ _ _ _ h3
          split at h
          ·cases h
          ·rename_i q4 h4
           obtain ⟨c1, rfl⟩ := acl h4
           cases h
           rw [WXt, wX]
           exact ⟨⟨⟨_, rfl⟩, e1⟩, by dsimp only at e2 ⊢; omega⟩
       ·split at h
        ·split at h
         ·cases h
         ·rename_i q2 h2
          obtain ⟨b1, b2, rfl⟩ := p9 h2
          split at h
          ·cases h
          ·rename_i a3 q3 h3
           obtain ⟨e1, e2⟩ := ih.e _ _ _ _ h3
           split at h
           ·cases h
           ·rename_i q4 h4
            obtain ⟨c1, rfl⟩ := acl h4
            cases h
            exact ⟨e1, by dsimp only at e2 ⊢; omega⟩
        ·cases h
  ·rw [pC] at h
   split at h
   ·cases h
   ·rename_i q2 h2
    obtain ⟨b1, b2, rfl⟩ := p9 h2
    split at h
    ·cases h
    ·rename_i a3 q3 h3
     obtain ⟨⟨e1, e2⟩, e3⟩ := ih.r _ _ _ _ _ (by rw [WXl]; trivial) (Nat.zero_le _) h3
     rw [if_pos (show ExL.nil.len = 0 from rfl), show wL .nil = 0 by rw [wL]] at e3
     split at h
     ·cases h
     ·rename_i q4 h4
      obtain ⟨c1, rfl⟩ := acl h4
      cases h
      rw [WXt, wX]
      exact ⟨⟨ag7 hk (by decide), ha, by omega, e1⟩, by dsimp only at e3 ⊢; omega⟩
  ·rw [pR] at h
   split at h
   ·rename_i h0; cases h; exact ⟨⟨hb, by omega⟩, by split <;> omega⟩
   ·rename_i h0
    split at h
    ·cases h
    ·rename_i q2 h2
     have hq2 : q.1 + (if b.len = 0 then 0 else 1) ≤ q2.1 := by
      split at h2
      ·obtain ⟨_, rfl⟩ := z7 h2; dsimp only; split <;> omega
      ·cases h2; split <;> omega
     split at h
     ·cases h
     ·rename_i a3 q3 h3
      obtain ⟨e1, e2⟩ := ih.e _ _ _ _ h3
      obtain ⟨g1, g2⟩ := ih.r _ _ _ _ _ (hb.snoc e1) (by rw [ExL.len_snoc]; omega) h
      rw [aor, if_neg (by rw [ExL.len_snoc]; omega)] at g2
      exact ⟨g1, by split at hq2 <;> split <;> omega⟩
mutual
theorem WXt.ok {ts : List Tok} (h : ∀ k ∈ ts, k.2.2.length ≤ 4096) : ∀ (e : Ex), WXt ts e → OKX e
 | .name p s, hw => by rw [WXt] at hw; rw [OKX]; exact h _ hw.1
 | .text p s, hw => by rw [WXt] at hw; rw [OKX]; exact h _ hw
 | .regex p s, hw => by rw [WXt] at hw; rw [OKX]; exact h _ hw
 | .keyed p a, hw => by rw [WXt] at hw; rw [OKX]; exact WXt.ok h a hw.2
 | .unary p o a, hw => by rw [WXt] at hw; rw [OKX]; exact ⟨by rcases hw.1.2 with rfl | rfl | rfl <;> decide, WXt.ok h a hw.2⟩
 | .binary p o a b, hw => by rw [WXt] at hw; rw [OKX]; exact ⟨hw.1.2, WXt.ok h a hw.2.1, WXt.ok h b hw.2.2⟩
 | .call p w l, hw => by rw [WXt] at hw; rw [OKX]; exact ⟨h _ hw.1, WXl.ok h l hw.2.2.2⟩
theorem WXl.ok {ts : List Tok} (h : ∀ k ∈ ts, k.2.2.length ≤ 4096) : ∀ (l : ExL), WXl ts l → OKL l
 | .nil, _ => by rw [OKL]; trivial
 | .cons a r, hw => by rw [WXl] at hw; rw [OKL]; exact ⟨WXt.ok h a hw.1, WXl.ok h r hw.2⟩
end
def WDs (ts : List Tok) (l : List l4) : Prop := ∀ d ∈ l, (((1, d.1, d.2.1) : Tok) ∈ ts ∧ d7 d.2.1 = 0) ∧ WXt ts d.2.2
theorem aol (d : l4) : ∀ l : List l4, wD (l ++ [d]) = wD l + wX d.2.2 + 1
 | [] => by simp only [List.nil_append, wD]; omega
 | x :: r => by simp only [List.cons_append, wD, aol d r]; omega
theorem aty {ts : List Tok} : ∀ {f : Nat} {l : List l4} {q : PSx} {l2 : List l4} {q2 : PSx}, WDs ts l → pD ts (BIG ts) f l q = .ok (l2, q2) → WDs ts l2 ∧ q.1 + wD l2 ≤ q2.1 + wD l
 | 0, _, _, _, _, _, h => by rw [pD] at h; cases h
 | f + 1, l, q, l2, q2, hl, h => by
  rw [ajp] at h
  split at h
  ·split at h
   ·cases h
   ·rename_i hk
    have hk1 : (a8 ts (q.1 + 1)).1 = 1 ∧ d7 (a8 ts (q.1 + 1)).2.2 = 0 := by
     rw [not_or] at hk; exact ⟨Decidable.not_not.1 hk.1, Decidable.not_not.1 hk.2⟩
    split at h
    ·cases h
    ·rename_i q3 h3
     obtain ⟨_, rfl⟩ := z7 h3
     split at h
     ·cases h
     ·rename_i b q4 h4
      obtain ⟨e1, e2⟩ := (wf ts _).e _ _ _ _ h4
      split at h
      ·cases h
      ·rename_i q5 h5
       obtain ⟨_, rfl⟩ := z7 h5
       have := aty (fun d hd => by
        rcases List.mem_append.1 hd with hd | hd
        ·exact hl d hd
        ·rw [List.mem_singleton.1 hd]; exact ⟨⟨ag7 hk1.1 (by decide), hk1.2⟩, e1⟩) h
       rw [aol] at this
       exact ⟨this.1, by dsimp only at e2 this ⊢; omega⟩
  ·cases h; exact ⟨hl, Nat.le_refl _⟩
theorem ajr {ts : List Tok} {l : List l4} {a : Ex} (h : aaa ts = .ok (l, a)) : WDs ts l ∧ WXt ts a ∧ wD l + wX a ≤ ts.length := by
 rw [abk] at h
 unfold anr at h
 split at h
 ·cases h
 ·rename_i l2 q h2
  obtain ⟨h3, h4⟩ := aty (fun d hd => by cases hd) h2
  split at h
  ·cases h
  ·rename_i a2 q1 h5
   obtain ⟨e1, e2⟩ := (wf ts _).e _ _ _ _ h5
   have h6 := (ab2 h5).2.1
   split at h
   ·cases h
    rw [wD] at h4
    dsimp only at h4
    exact ⟨h3, e1, by omega⟩
   ·cases h
theorem ann {t : List UInt8} (h : (g0 t).2.1 = 0) : ∀ k ∈ (g0 t).1, k.2.2.length ≤ 4096 := by
 have hs := ab1 h
 have hg := x0 (t := t) (a := 0) ⟨by omega, by omega⟩
 obtain ⟨ks, e, hk⟩ := afd hg.1 hg.2 (afq h hs) (fun k hk => by cases hk)
 rw [e]
 intro x hx
 rcases List.mem_append.1 hx with hx | hx
 ·have := (hk x hx).2; omega
 ·rw [List.mem_singleton.1 hx]; exact Nat.zero_le _
theorem ajn {t : List UInt8} {l : List l4} {a : Ex} (h : p4 t = .ok (l, a)) : (g0 t).2.1 = 0 ∧ aaa (g0 t).1 = .ok (l, a) := by
 unfold p4 at h
 split at h
 ·rename_i h0; exact ⟨h0, h⟩
 ·cases h
theorem ae9 {t : List UInt8} {l : List l4} {a : Ex} (h : p4 t = .ok (l, a)) : OKP l a := by
 obtain ⟨h0, h1⟩ := ajn h
 obtain ⟨h2, h3, h4⟩ := ajr h1
 have hs := ann h0
 have hlen := ajq t
 exact ⟨fun d hd => ⟨hs _ (h2 d hd).1.1, WXt.ok hs _ (h2 d hd).2⟩, WXt.ok hs _ h3, by omega⟩
end Go.Proofs.YtifajndacnfcbaaDoor
set_option maxRecDepth 100000
namespace Go.Proofs.YtifajndacnfcbaaDoor
open Go Go.RowKit
theorem ail : e9 Tryd.prog 71 0 = some 0 := by kernel_rfl
theorem aii : e9 Tryd.prog 73 0 = some 0 := by kernel_rfl
theorem aia : e9 Tryd.prog 74 0 = some 0 := by kernel_rfl
theorem aic : e9 Tryd.prog 76 0 = some 0 := by kernel_rfl
theorem aiv : e9 Tryd.prog 78 0 = some 0 := by kernel_rfl
theorem ain : e9 Tryd.prog 80 0 = some 0 := by kernel_rfl
theorem aif : e9 Tryd.prog 83 0 = some 0 := by kernel_rfl
def adl (e_0 : Int) (_ : List UInt8) (K : Int → Prop) : Prop :=
 K e_0
theorem ajz  (e_0 : Int) (e_1 : List UInt8) (K : Int → Prop) (h : adl e_0 e_1 K) :
  d8 Tryd.prog 23 [Value.agg [zI e_0, st e_1].toArray] [] [] (fun o => (∃ (v : Int), K v ∧ o = .ret (zI v) []) ∨ (False)) := by
 unfold adl at h
 refine c7 (n := 5) (L0 := [(0, Value.agg [zI e_0, st e_1].toArray)]) Tryd.func23 rfl rfl rfl rfl (fun w0 M Q hE => ?_)
 refine a7 (fun _ hK => ?_)
 refine a6 ?_
 refine WL.make (MV.box (cs := [zI e_0, st e_1]) rfl rfl) rfl rfl rfl (fun b => ?_)
 refine wA ?_
 refine WL.nil ?_
 refine kg (hK [(1, zP b)] _ ?_)
 refine a7 (fun _ hK_1' => ?_)
 refine a6 ?_
 refine wv (OV.fieldAddr0 rfl ail) ?_
 refine wv (OV.load rfl (At.own 0 rfl) rfl b9) ?_
 refine wA ?_
 refine WL.nil ?_
 refine kg (hK_1' [(2, zI e_0)] _ ?_)
 refine c9 ?_
 exact hE.ret [] rfl rfl (.inl ⟨_, h, rfl⟩) (e7.of1 rfl (RV.tmp rfl))
def ada (e_0 : Int) (_ : List UInt8) (K : Int → Prop) : Prop :=
 K e_0
theorem ajv  (e_0 : Int) (e_1 : List UInt8) (K : Int → Prop) (h : ada e_0 e_1 K) :
  d8 Tryd.prog 24 [Value.agg [zI e_0, st e_1].toArray] [] [] (fun o => (∃ (v : Int), K v ∧ o = .ret (zI v) []) ∨ (False)) := by
 unfold ada at h
 refine c7 (n := 5) (L0 := [(0, Value.agg [zI e_0, st e_1].toArray)]) Tryd.func24 rfl rfl rfl rfl (fun w0 M Q hE => ?_)
 refine a7 (fun _ hK => ?_)
 refine a6 ?_
 refine WL.make (MV.box (cs := [zI e_0, st e_1]) rfl rfl) rfl rfl rfl (fun b => ?_)
 refine wA ?_
 refine WL.nil ?_
 refine kg (hK [(1, zP b)] _ ?_)
 refine a7 (fun _ hK_1' => ?_)
 refine a6 ?_
 refine wv (OV.fieldAddr0 rfl aii) ?_
 refine wv (OV.load rfl (At.own 0 rfl) rfl b9) ?_
 refine wA ?_
 refine WL.nil ?_
 refine kg (hK_1' [(2, zI e_0)] _ ?_)
 refine c9 ?_
 exact hE.ret [] rfl rfl (.inl ⟨_, h, rfl⟩) (e7.of1 rfl (RV.tmp rfl))
def ab8 (e_0 : Int) (_ : List UInt8) (K : Int → Prop) : Prop :=
 K e_0
theorem ah9  (e_0 : Int) (e_1 : List UInt8) (K : Int → Prop) (h : ab8 e_0 e_1 K) :
  d8 Tryd.prog 25 [Value.agg [zI e_0, st e_1].toArray] [] [] (fun o => (∃ (v : Int), K v ∧ o = .ret (zI v) []) ∨ (False)) := by
 unfold ab8 at h
 refine c7 (n := 5) (L0 := [(0, Value.agg [zI e_0, st e_1].toArray)]) Tryd.func25 rfl rfl rfl rfl (fun w0 M Q hE => ?_)
 refine a7 (fun _ hK => ?_)
 refine a6 ?_
 refine WL.make (MV.box (cs := [zI e_0, st e_1]) rfl rfl) rfl rfl rfl (fun b => ?_)
 refine wA ?_
 refine WL.nil ?_
 refine kg (hK [(1, zP b)] _ ?_)
 refine a7 (fun _ hK_1' => ?_)
 refine a6 ?_
 refine wv (OV.fieldAddr0 rfl aia) ?_
 refine wv (OV.load rfl (At.own 0 rfl) rfl b9) ?_
 refine wA ?_
 refine WL.nil ?_
 refine kg (hK_1' [(2, zI e_0)] _ ?_)
 refine c9 ?_
 exact hE.ret [] rfl rfl (.inl ⟨_, h, rfl⟩) (e7.of1 rfl (RV.tmp rfl))
def acd (e_0 : Int) (_ : Value) (K : Int → Prop) : Prop :=
 K e_0
theorem aiw  (e_0 : Int) (e_1 : Value) (K : Int → Prop) (h : acd e_0 e_1 K) :
  d8 Tryd.prog 26 [Value.agg [zI e_0, e_1].toArray] [] [] (fun o => (∃ (v : Int), K v ∧ o = .ret (zI v) []) ∨ (False)) := by
 unfold acd at h
 refine c7 (n := 5) (L0 := [(0, Value.agg [zI e_0, e_1].toArray)]) Tryd.func26 rfl rfl rfl rfl (fun w0 M Q hE => ?_)
 refine a7 (fun _ hK => ?_)
 refine a6 ?_
 refine WL.make (MV.box (cs := [zI e_0, e_1]) rfl rfl) rfl rfl rfl (fun b => ?_)
 refine wA ?_
 refine WL.nil ?_
 refine kg (hK [(1, zP b)] _ ?_)
 refine a7 (fun _ hK_1' => ?_)
 refine a6 ?_
 refine wv (OV.fieldAddr0 rfl aic) ?_
 refine wv (OV.load rfl (At.own 0 rfl) rfl b9) ?_
 refine wA ?_
 refine WL.nil ?_
 refine kg (hK_1' [(2, zI e_0)] _ ?_)
 refine c9 ?_
 exact hE.ret [] rfl rfl (.inl ⟨_, h, rfl⟩) (e7.of1 rfl (RV.tmp rfl))
def ab9 (e_0 : Int) (_ : List UInt8) (_ : Value) (K : Int → Prop) : Prop :=
 K e_0
theorem aie  (e_0 : Int) (e_1 : List UInt8) (e_2 : Value) (K : Int → Prop) (h : ab9 e_0 e_1 e_2 K) :
  d8 Tryd.prog 27 [Value.agg [zI e_0, st e_1, e_2].toArray] [] [] (fun o => (∃ (v : Int), K v ∧ o = .ret (zI v) []) ∨ (False)) := by
 unfold ab9 at h
 refine c7 (n := 5) (L0 := [(0, Value.agg [zI e_0, st e_1, e_2].toArray)]) Tryd.func27 rfl rfl rfl rfl (fun w0 M Q hE => ?_)
 refine a7 (fun _ hK => ?_)
 refine a6 ?_
 refine WL.make (MV.box (cs := [zI e_0, st e_1, e_2]) rfl rfl) rfl rfl rfl (fun b => ?_)
 refine wA ?_
 refine WL.nil ?_
 refine kg (hK [(1, zP b)] _ ?_)
 refine a7 (fun _ hK_1' => ?_)
 refine a6 ?_
 refine wv (OV.fieldAddr0 rfl aiv) ?_
 refine wv (OV.load rfl (At.own 0 rfl) rfl b9) ?_
 refine wA ?_
 refine WL.nil ?_
 refine kg (hK_1' [(2, zI e_0)] _ ?_)
 refine c9 ?_
 exact hE.ret [] rfl rfl (.inl ⟨_, h, rfl⟩) (e7.of1 rfl (RV.tmp rfl))
def abx (e_0 : Int) (_ : List UInt8) (_ : Value) (_ : Value) (K : Int → Prop) : Prop :=
 K e_0
theorem ahh  (e_0 : Int) (e_1 : List UInt8) (e_2 : Value) (e_3 : Value) (K : Int → Prop) (h : abx e_0 e_1 e_2 e_3 K) :
  d8 Tryd.prog 28 [Value.agg [zI e_0, st e_1, e_2, e_3].toArray] [] [] (fun o => (∃ (v : Int), K v ∧ o = .ret (zI v) []) ∨ (False)) := by
 unfold abx at h
 refine c7 (n := 5) (L0 := [(0, Value.agg [zI e_0, st e_1, e_2, e_3].toArray)]) Tryd.func28 rfl rfl rfl rfl (fun w0 M Q hE => ?_)
 refine a7 (fun _ hK => ?_)
 refine a6 ?_
 refine WL.make (MV.box (cs := [zI e_0, st e_1, e_2, e_3]) rfl rfl) rfl rfl rfl (fun b => ?_)
 refine wA ?_
 refine WL.nil ?_
 refine kg (hK [(1, zP b)] _ ?_)
 refine a7 (fun _ hK_1' => ?_)
 refine a6 ?_
 refine wv (OV.fieldAddr0 rfl ain) ?_
 refine wv (OV.load rfl (At.own 0 rfl) rfl b9) ?_
 refine wA ?_
 refine WL.nil ?_
 refine kg (hK_1' [(2, zI e_0)] _ ?_)
 refine c9 ?_
 exact hE.ret [] rfl rfl (.inl ⟨_, h, rfl⟩) (e7.of1 rfl (RV.tmp rfl))
def adh (e_0 : Int) (_ : List UInt8) (_ : Value) (K : Int → Prop) : Prop :=
 K e_0
theorem aki  (e_0 : Int) (e_1 : List UInt8) (e_2 : Value) (K : Int → Prop) (h : adh e_0 e_1 e_2 K) :
  d8 Tryd.prog 29 [Value.agg [zI e_0, st e_1, e_2].toArray] [] [] (fun o => (∃ (v : Int), K v ∧ o = .ret (zI v) []) ∨ (False)) := by
 unfold adh at h
 refine c7 (n := 5) (L0 := [(0, Value.agg [zI e_0, st e_1, e_2].toArray)]) Tryd.func29 rfl rfl rfl rfl (fun w0 M Q hE => ?_)
 refine a7 (fun _ hK => ?_)
 refine a6 ?_
 refine WL.make (MV.box (cs := [zI e_0, st e_1, e_2]) rfl rfl) rfl rfl rfl (fun b => ?_)
 refine wA ?_
 refine WL.nil ?_
 refine kg (hK [(1, zP b)] _ ?_)
 refine a7 (fun _ hK_1' => ?_)
 refine a6 ?_
 refine wv (OV.fieldAddr0 rfl aif) ?_
 refine wv (OV.load rfl (At.own 0 rfl) rfl b9) ?_
 refine wA ?_
 refine WL.nil ?_
 refine kg (hK_1' [(2, zI e_0)] _ ?_)
 refine c9 ?_
 exact hE.ret [] rfl rfl (.inl ⟨_, h, rfl⟩) (e7.of1 rfl (RV.tmp rfl))
abbrev plX : Ex → Int := au6
theorem aam {v : Int} {x : Out} (h : (∃ d : Int, d = v ∧ x = .ret (.int .i64 d) []) ∨ False) : x = .ret (.int .i64 v) [] := by
 rcases h with ⟨d, rfl, rfl⟩ | h
 ·rfl
 ·exact h.elim
theorem as1 : aes Tryd.prog 71 "Place" = some 23 := by kernel_rfl
theorem atc : aci Tryd.prog 71 = true := by kernel_rfl
theorem as8 : l6 Tryd.prog 23 = true := by kernel_rfl
theorem atp : aes Tryd.prog 73 "Place" = some 24 := by kernel_rfl
theorem ate : aci Tryd.prog 73 = true := by kernel_rfl
theorem as0 : l6 Tryd.prog 24 = true := by kernel_rfl
theorem aro : aes Tryd.prog 74 "Place" = some 25 := by kernel_rfl
theorem ars : aci Tryd.prog 74 = true := by kernel_rfl
theorem arg : l6 Tryd.prog 25 = true := by kernel_rfl
theorem arh : aes Tryd.prog 76 "Place" = some 26 := by kernel_rfl
theorem ard : aci Tryd.prog 76 = true := by kernel_rfl
theorem aqs : l6 Tryd.prog 26 = true := by kernel_rfl
theorem ar2 : aes Tryd.prog 78 "Place" = some 27 := by kernel_rfl
theorem asd : aci Tryd.prog 78 = true := by kernel_rfl
theorem arb : l6 Tryd.prog 27 = true := by kernel_rfl
theorem apw : aes Tryd.prog 80 "Place" = some 28 := by kernel_rfl
theorem apq : aci Tryd.prog 80 = true := by kernel_rfl
theorem apu : l6 Tryd.prog 28 = true := by kernel_rfl
theorem atr : aes Tryd.prog 83 "Place" = some 29 := by kernel_rfl
theorem asw : aci Tryd.prog 83 = true := by kernel_rfl
theorem atf : l6 Tryd.prog 29 = true := by kernel_rfl
theorem an8 {B : List (Nat × Obj)} {e : Ex} {u : Value} (h : TV B e u) : arv Tryd.prog u "Place" [] (.int .i64 (plX e)) := by
 cases e with
 | name p s =>
  rw [TV] at h; subst h
  exact ⟨_, _, _, rfl, as1, atc, as8, (ajz p s (fun d => d = p) (by unfold adl; rfl)).weak fun x h => aam h⟩
 | text p s =>
  rw [TV] at h; subst h
  exact ⟨_, _, _, rfl, atp, ate, as0, (ajv p s (fun d => d = p) (by unfold ada; rfl)).weak fun x h => aam h⟩
 | regex p s =>
  rw [TV] at h; subst h
  exact ⟨_, _, _, rfl, aro, ars, arg, (ah9 p s (fun d => d = p) (by unfold ab8; rfl)).weak fun x h => aam h⟩
 | keyed p a =>
  rw [TV] at h; obtain ⟨u1, _, rfl⟩ := h
  exact ⟨_, _, _, rfl, arh, ard, aqs, (aiw p u1 (fun d => d = p) (by unfold acd; rfl)).weak fun x h => aam h⟩
 | unary p o a =>
  rw [TV] at h; obtain ⟨u1, _, rfl⟩ := h
  exact ⟨_, _, _, rfl, ar2, asd, arb, (aie p o u1 (fun d => d = p) (by unfold ab9; rfl)).weak fun x h => aam h⟩
 | binary p o a b =>
  rw [TV] at h; obtain ⟨u1, u2, _, _, rfl⟩ := h
  exact ⟨_, _, _, rfl, apw, apq, apu, (ahh p o u1 u2 (fun d => d = p) (by unfold abx; rfl)).weak fun x h => aam h⟩
 | call p w l =>
  rw [TV] at h; obtain ⟨us, u1, b, cs, _, _, _, rfl⟩ := h
  exact ⟨_, _, _, rfl, atr, asw, atf, (aki p w u1 (fun d => d = p) (by unfold adh; rfl)).weak fun x h => aam h⟩
theorem aqr {B : List (Nat × Obj)} {e : Ex} {u : Value} (h : TV B e u) : ∃ T v, u = Value.iface T v := by
 obtain ⟨_, T, r, h1, _⟩ := an8 h
 exact ⟨T, r, h1⟩
end Go.Proofs.YtifajndacnfcbaaDoor
namespace Go.Proofs.YtifajndacnfcbaaDoor
open Go Go.RowKit
section
variable {P : Program} {ops : Array Oper} {Q : Exit → Act → World → Prop} {C : Cx} {L : Sl} {H : List HA} {rest : List Oper} {o : Oper}
theorem At.pool {B : List (Nat × Obj)} {b : Nat} {ob : Obj} (i : Nat) (hi : H[i]? = some (pool B)) (hb : (b, ob) ∈ B) : At C H b ob := fun w hp => by
 obtain ⟨F, h1, _⟩ := hp.own
 exact (h1.mem_pool hi _ hb).1
def ak6 (C : Cx) (H : List HA) (R : List (Nat × Obj)) : Prop := ∀ q ∈ R, At C H q.1 q.2
theorem ak6.pool {B R2 : List (Nat × Obj)} (i : Nat) (hi : H[i]? = some (pool B)) (hr : ∀ q ∈ R2, q ∈ C.R) : ak6 C H (B ++ R2) := fun q hq => by
 rcases List.mem_append.1 hq with hq | hq
 ·exact At.pool i hi hq
 ·exact At.old (hr q hq)
section
variable {x y : Operand} {ty t e' : TypeId} {p : String} {e : Array Edge} {g : Option (Nat × Bool)} {d : Option Tmp} {v u : Value} {T sz n : Nat} {xs : List Value} {B1 : List (Nat × Obj)} {kk : IntKind}
theorem OV.lenLaid (hx : ev L x = some v) (ht : slB P t e' sz = true) (hl : afk v T sz n xs B1) : OV P C L H ⟨d, .call ⟨.builtin .len, #[x], #[t]⟩, ty, p, e, g⟩ (.int .i64 (n : Int)) := by
 rcases hl with ⟨rfl, rfl, _⟩ | ⟨b, cs, ⟨cap, rfl, _⟩, _⟩
 ·exact OV.lenS hx ht
 ·exact OV.lenS hx ht
end
end
theorem OV.neqNilX {P : Program} {C : Cx} {L : Sl} {H : List HA} {x y : Operand} {t t' ty : TypeId} {d : Option Tmp} {p : String} {e : Array Edge} {g : Option (Nat × Bool)} {m : Value} {ms : Array (String × TypeId)} (hx : ev L x = some m) (hm : ∃ T u, m = .iface T u) (hu : P.underlying t = some (.interface ms)) (hy : ev L y = some .nilIface := by rfl) : OV P C L H ⟨d, .binOp .neq t x y t', ty, p, e, g⟩ (.bool true) := by
 obtain ⟨T, u, rfl⟩ := hm
 exact OV.neqNil hx hy hu
theorem acp.more {B B2 : List (Nat × Obj)} {b : Nat} {w m : Value} {ds : List aa9} {B1 : List (Nat × Obj)} {l : List l4} {a : Ex} (h : ∀ p ∈ B, p ∈ B2) (hp : acp B b w m ds B1 l a) : acp B2 b w m ds B1 l a :=
 ⟨hp.1.more h, TV.more h _ _ hp.2.1, hp.2.2.1, fun p hq => h _ (hp.2.2.2.1 p hq), h _ hp.2.2.2.2⟩
theorem afy (te : TypeId) (fre : Nat × Nat) (t : List UInt8) (B : List (Nat × Obj)) (l : List l4) (a : Ex) (h : p4 t = .ok (l, a)) : d8 Tryd.prog 9 [st t] (ab4 te fre) [pool B]
  (fun o => ∃ b dw m ds B1 B2, (acp B2 b dw m ds B1 l a ∧ ∀ x ∈ B, x ∈ B2) ∧ o = .ret (.tuple #[.pointer (some ⟨b, 0, none⟩), .agg [Value.int .i64 0, Value.int .i64 0, st []].toArray]) [pool B2]) :=
 (agk te fre t B).weak fun o ho => by
  rcases ho with ⟨l2, a2, b, w, m, ds, B1, B2, ⟨h1, h2, h3⟩, rfl⟩ | ⟨c, p, B2, ⟨h1, _⟩, rfl⟩
  ·rw [h] at h1; cases h1; exact ⟨b, w, m, ds, B1, B2, ⟨h2, h3⟩, rfl⟩
  ·rw [h] at h1; cases h1
theorem amx (te : TypeId) (fre : Nat × Nat) (t : List UInt8) (B : List (Nat × Obj)) (c p : Int) (h : p4 t = .error (c, p)) : d8 Tryd.prog 9 [st t] (ab4 te fre) [pool B]
  (fun o => ∃ B2, True ∧ o = .ret (.tuple #[.pointer none, .agg [Value.int .i64 c, Value.int .i64 p, st []].toArray]) [pool B2]) :=
 (agk te fre t B).weak fun o ho => by
  rcases ho with ⟨l2, a2, b, w, m, ds, B1, B2, ⟨h1, h2, h3⟩, rfl⟩ | ⟨c2, p2, B2, ⟨h1, _⟩, rfl⟩
  ·rw [h] at h1; cases h1
  ·rw [h] at h1; cases h1; exact ⟨B2, trivial, rfl⟩
end Go.Proofs.YtifajndacnfcbaaDoor
set_option maxRecDepth 100000
namespace Go.Proofs.YtifajndacnfcbaaDoor
open Go Go.RowKit
theorem aff : l6 Tryd.prog 9 = true := by kernel_rfl
theorem afw : l6 Tryd.prog 12 = true := by kernel_rfl
def aex (l1 : List l4) (a1 : Ex) (K : Bool → Prop) : Prop :=
 (p4 ([97, 46, 40, 98, 124, 99, 41] : List UInt8) = .ok (l1, a1)) ∧
 (∀ (qb1 : Nat) (dw1 : Value) (mv1 : Value) (ds1 : List aa9) (R1 : List (Nat × Obj)) (B : List (Nat × Obj)), (acp B qb1 dw1 mv1 ds1 R1 l1 a1 ∧ ∀ x ∈ ([] : List (Nat × Obj)), x ∈ B) →
  ((qb1, Obj.cells [dw1, mv1].toArray 39 (0, 0)) ∈ B) ∧
  (∃ T u, mv1 = Value.iface T u) ∧
  ((qb1, Obj.cells [dw1, mv1].toArray 39 (0, 0)) ∈ B) ∧
  (arv Tryd.prog mv1 "Place" [] (zI (plX a1))) ∧
  ((decide (plX a1 = 1)) = true → (acp B qb1 dw1 mv1 ds1 R1 l1 a1 ∧ OKP l1 a1)) ∧
  K ((decide (plX a1 = 1)) && (decide (j4 l1 a1 = ([97, 32, 46, 32, 40, 98, 32, 124, 32, 99, 41, 10] : List UInt8)))))
theorem amr (te : TypeId) (fre : Nat × Nat) (l1 : List l4) (a1 : Ex) (K : Bool → Prop) (h : aex l1 a1 K) :
  d8 Tryd.prog 8 [] [(0, .cells [st ([124] : List UInt8), st ([38, 45] : List UInt8), st ([62, 62] : List UInt8), st ([126] : List UInt8), st ([46] : List UInt8)].toArray te fre)] [] (fun o => (∃ (v : Bool), K v ∧ o = .ret (zB v) []) ∨ (False)) := by
 unfold aex at h
 refine c7 (n := 34) (L0 := []) Tryd.func8 rfl rfl rfl rfl (fun w0 M Q hE => ?_)
 refine WC.newPool ?_
 refine a7 (fun _ hK => ?_)
 refine a6 ?_
 refine wA ?_
 refine WL.nil ?_
 refine KX.go (hK [] _ ?_) trivial
 refine a7 (fun _ hK_1' => ?_)
 refine a6 ?_
 obtain ⟨o, h⟩ := h
 refine WL.callS aff rfl (afy te fre ([97, 46, 40, 98, 124, 99, 41] : List UInt8) ([] : List (Nat × Obj)) l1 a1 o) rfl ⟨.inr (List.mem_of_getElem? (i := 0) rfl), trivial⟩ rfl rfl (fun r H' hS => ?_) (fun c H' hS => ?_)
 ·obtain ⟨qb1, dw1, mv1, ds1, R1, B, hc, ho⟩ := hS
  cases ho
  replace h := h qb1 dw1 mv1 ds1 R1 B hc
  refine wm ?_
  refine wv (OV.extract 0 rfl rfl) ?_
  refine wv (OV.extract 1 rfl rfl) ?_
  refine WL.make (MV.alloc aal) rfl rfl rfl (fun b => ?_)
  refine wA ?_
  refine WL.storeW (vs := [zI 0, zI 0, st []]) 0 rfl rfl rfl rfl rfl n4 rfl rfl rfl ?_
  refine WL.nil ?_
  refine kg (hK_1' [(1, zP qb1), (2, zP b)] _ ?_)
  refine a7 (fun _ hK_2' => ?_)
  refine a6 ?_
  refine wv (OV.loadR rfl (At.own 0 rfl) o0) ?_
  refine wv (OV.build rfl (cs := [zI 0, zI 0, st []]) rfl) ?_
  refine wv (OV.cast (OV.eqlF (rs := [decide ((0 : Int) = 0), decide ((0 : Int) = 0), decide (([] : List UInt8) = [])]) rfl rfl Tryd.underlying26 aa5 acx ⟨rfl, aan, ⟨_, _, rfl, rfl, p7.int Tryd.underlying24⟩, ⟨rfl, b9, ⟨_, _, rfl, rfl, p7.int Tryd.underlying3⟩, ⟨rfl, c8, ⟨_, _, rfl, rfl, p7.str Tryd.underlying9⟩, trivial⟩⟩⟩) (v' := zB true) rfl) ?_
  refine wm ?_
  refine wm ?_
  refine wv (OV.neqPN rfl rfl Tryd.underlying23) ?_
  refine wv (OV.pickT rfl rfl) ?_
  refine wm ?_
  refine wm ?_
  refine wv (OV.nilCheck rfl) ?_
  refine wv (OV.fieldAddr0 rfl aax) ?_
  obtain ⟨o_1', h⟩ := h
  refine wv (OV.load rfl (At.pool 1 rfl o_1') rfl n5) ?_
  obtain ⟨o_2', h⟩ := h
  refine wv (OV.neqNilX rfl o_2' Tryd.underlying37) ?_
  refine wv (OV.pickT rfl rfl) ?_
  refine wm ?_
  refine wm ?_
  refine wv (OV.nilCheck rfl) ?_
  refine wv (OV.fieldAddr0 rfl aax) ?_
  obtain ⟨o_3', h⟩ := h
  refine wv (OV.load rfl (At.pool 1 rfl o_3') rfl n5) ?_
  obtain ⟨o_4', h⟩ := h
  refine WL.cv (CV.meth rfl o_4' rfl) rfl rfl rfl ?_
  refine wv (OV.eql rfl rfl) ?_
  refine wv (OV.pickT rfl rfl) ?_
  refine wm ?_
  obtain ⟨o_6', h⟩ := h
  refine WL.cut 4 [(33, zB ((decide (plX a1 = 1)) && (decide (j4 l1 a1 = ([97, 32, 46, 32, 40, 98, 32, 124, 32, 99, 41, 10] : List UInt8)))))] ?_ (fun K0_3' hK_3' => ?_)
  rotate_left
  ·refine WL.split (decide (plX a1 = 1)) (fun hb => ?_) (fun hb => ?_)
   ·have o_5' := o_6' hb
    refine WL.set 29 rfl (congrArg zB hb) ?_
    refine wm ?_
    refine WL.cv ⟨_, _, _, EN.fn afw rfl, aez te fre B qb1 dw1 mv1 ds1 R1 l1 a1 o_5', ak6.pool 1 rfl (fun _ h => h)⟩ rfl rfl rfl ?_
    refine wv (OV.eqlS rfl rfl) ?_
    refine wv (OV.pickT rfl rfl) ?_
    refine WL.set 33 rfl (bT (v := decide (j4 l1 a1 = ([97, 32, 46, 32, 40, 98, 32, 124, 32, 99, 41, 10] : List UInt8))) hb) ?_
    exact WL.end_ (kg hK_3')
   ·refine WL.set 29 rfl (congrArg zB hb) ?_
    refine wk ?_
    refine wk ?_
    refine wk ?_
    refine wv (OV.pickF rfl rfl) ?_
    refine WL.set 33 rfl (bF (v := decide (j4 l1 a1 = ([97, 32, 46, 32, 40, 98, 32, 124, 32, 99, 41, 10] : List UInt8))) hb) ?_
    exact WL.end_ (kg hK_3')
  refine wA ?_
  refine WL.nil ?_
  refine kg (hK_2' [(0, zB ((decide (plX a1 = 1)) && (decide (j4 l1 a1 = ([97, 32, 46, 32, 40, 98, 32, 124, 32, 99, 41, 10] : List UInt8)))))] _ ?_)
  refine c9 ?_
  exact hE.ret [] rfl rfl (.inl ⟨_, h, rfl⟩) (e7.of1 rfl (RV.tmp rfl))
 ·obtain ⟨qb1, dw1, mv1, ds1, R1, B, hc, ho⟩ := hS
  cases ho
theorem afi : p4 ([97, 46, 40, 98, 124, 99, 41] : List UInt8) = .ok ([], .binary 1 [46] (.name 0 [97]) (.binary 4 [124] (.name 3 [98]) (.name 5 [99]))) := by kernel_rfl
theorem aj8 : j4 [] (.binary 1 [46] (.name 0 [97]) (.binary 4 [124] (.name 3 [98]) (.name 5 [99]))) = ([97, 32, 46, 32, 40, 98, 32, 124, 32, 99, 41, 10] : List UInt8) := by kernel_rfl
theorem afl (te : TypeId) (fre : Nat × Nat) : d8 Tryd.prog 8 [] (ab4 te fre) [] (Ret (.bool true) []) := by
 refine (amr te fre [] (.binary 1 [46] (.name 0 [97]) (.binary 4 [124] (.name 3 [98]) (.name 5 [99]))) (fun b => b = true) ?_).weak ?_
 ·unfold aex
  refine ⟨afi, fun b w m ds B1 B hp => ⟨hp.1.2.2.2.2, aqr hp.1.2.1, hp.1.2.2.2.2, an8 hp.1.2.1, fun _ => ⟨hp.1, ae9 afi⟩, ?_⟩⟩
  rw [aj8]
  decide
 ·rintro x (⟨b, rfl, rfl⟩ | h)
  ·rfl
  ·exact h.elim
end Go.Proofs.YtifajndacnfcbaaDoor
namespace Go.Proofs.YtifajndacnfcbaaDoor
open Go Go.RowKit
abbrev Pc := Int × Bs
def shP (k : Pc) : Bs := if k.1 = 9 then k.2 else bare (k.1, 0, k.2)
def z6 (l : List Pc) : Bs := l.flatMap shP
def n6 (l : List Pc) : List Pc := l.filter (fun k => decide (k.1 ≠ 9))
theorem m7 (a b : List Pc) : z6 (a ++ b) = z6 a ++ z6 b := by unfold z6; rw [List.flatMap_append]
theorem o5 (a : Pc) (b : List Pc) : z6 (a :: b) = shP a ++ z6 b := by unfold z6; rw [List.flatMap_cons]
theorem l7 (a b : List Pc) : n6 (a ++ b) = n6 a ++ n6 b := by unfold n6; rw [List.filter_append]
def Nx : List Pc → Prop
 | [] => True
 | x :: _ => x.1 = 4 ∨ x.1 = 9
def OkP (k : Pc) : Prop := (k.1 = 9 ∧ (k.2 = [32] ∨ k.2 = [10])) ∨ adn (k.1, 0, k.2)
def Chn : List Pc → Prop
 | [] => True
 | k :: r => OkP k ∧ (k.1 = 1 → Nx r) ∧ Chn r
def nmH : Bs → Bool
 | [] => false
 | c :: _ => nmB c
theorem arc : ∀ c ∈ ad4, nmB c = false := by decide
theorem atg : ∀ {r : List Pc}, Nx r → Chn r → nmH (z6 r) = false
 | [], _, _ => rfl
 | x :: r, h, hc => by
  rw [Nx] at h
  rw [Chn] at hc
  rw [o5]
  rcases hc.1 with ⟨h9, h | h⟩ | hg
  ·unfold shP; rw [if_pos h9, h]; rfl
  ·unfold shP; rw [if_pos h9, h]; rfl
  ·have h4 : x.1 = 4 := by
    rcases h with h | h
    ·exact h
    ·rcases hg with g | g | g | g
     ·have := g.1; dsimp only at this; omega
     ·dsimp only at g; omega
     ·have := g.1; dsimp only at this; omega
     ·exact g.1
   unfold shP
   rw [if_neg (by omega)]
   unfold bare
   rw [if_neg (by dsimp only; omega), if_neg (by dsimp only; omega)]
   rcases hg with g | g | g | g
   ·have := g.1; dsimp only at this; omega
   ·dsimp only at g; omega
   ·have := g.1; dsimp only at this; omega
   ·rcases g.2 with ⟨c, e, hm⟩ | e
    ·dsimp only at e ⊢
     rw [e]; exact arc c (by simpa using hm)
    ·dsimp only at e ⊢
     rw [e]; rfl
theorem ajm : ∀ (w r : List UInt8), (∀ c ∈ w, nmB c = true) → nmH r = false → v6 (w ++ r) = w.length
 | [], [], _, _ => by rw [List.nil_append, v6]; rfl
 | [], c :: r, _, h => by
  have h2 : (j7 (c.toNat : Int) || p5 (c.toNat : Int)) = false := h
  rw [List.nil_append, v6, if_neg (by rw [h2]; decide)]; rfl
 | c :: w, r, h, hr => by
  have hc : nmB c = true := h c (by simp)
  unfold nmB at hc
  rw [List.cons_append, v6, if_pos hc, ajm w r (fun d hd => h d (by simp [hd])) hr, List.length_cons]; omega
theorem aqw {u r : List UInt8} {k : Tok} {p : Nat} (hk : adn k) (h : u.drop p = bare k ++ r) (hr : k.1 = 1 → nmH r = false) : abd u (p : Int) = .ok ((k.1, (p : Int), k.2.2), ((p + (bare k).length : Nat) : Int)) := by
 unfold bare at h ⊢
 rcases hk with ⟨h1, ⟨c, w, e, hl⟩, hall, h32⟩ | h1 | ⟨h1, hrx⟩ | ⟨h1, h2⟩
 ·rw [if_neg (by omega), if_neg (by omega)] at h ⊢
  have hd := h
  rw [e] at hd
  obtain ⟨g1, g2, _⟩ := s6 (v := w ++ r) hd
  have hn : v6 (u.drop (p : Int).toNat) = k.2.2.length := by rw [Int.toNat_natCast, h]; exact ajm _ _ hall (hr h1)
  unfold abd
  rw [g2, if_pos hl, hn, if_neg (by omega), show (p : Int) + (k.2.2.length : Int) = ((p + k.2.2.length : Nat) : Int) by omega, amy h, h1]
 ·rw [if_pos h1] at h ⊢
  have hd : u.drop p = 34 :: (k.2.2.flatMap qb ++ 34 :: r) := by rw [h]; unfold aaf; simp
  obtain ⟨g1, g2, g3⟩ := s6 hd
  have hlen := ahi (x := k.2.2.flatMap qb ++ [34]) (r := r) (p := p + 1) (by rw [g3]; simp) (by simp)
  have hge := asg k.2.2
  rw [List.length_append] at hlen
  simp only [List.length_cons, List.length_nil] at hlen
  unfold abd
  rw [g2, if_neg (by decide), if_pos (by decide)]
  unfold z8
  rw [show (p : Int) + 1 = ((p + 1 : Nat) : Int) by omega, afv (r := r) k.2.2 (u.length + 1) (p + 1) [] g3 (by omega)]
  simp only [List.nil_append, h1]
  unfold aaf
  rw [List.length_append, List.length_append]
  simp only [List.length_cons, List.length_nil]
  rw [show p + 1 + (k.2.2.flatMap qb).length + 1 = p + (0 + 1 + (k.2.2.flatMap qb).length + (0 + 1)) by omega]
 ·rw [if_neg (by omega), if_pos h1] at h ⊢
  have hd : u.drop p = 47 :: (k.2.2 ++ 47 :: r) := by rw [h]; simp
  obtain ⟨g1, g2, g3⟩ := s6 hd
  have hlen := ahi (x := k.2.2 ++ [47]) (r := r) (p := p + 1) (by rw [g3]; simp) (by simp)
  rw [List.length_append] at hlen
  simp only [List.length_cons, List.length_nil] at hlen
  unfold abd
  rw [g2, if_neg (by decide), if_neg (by decide), if_pos (by decide)]
  unfold aa8
  rw [show (p : Int) + 1 = ((p + 1 : Nat) : Int) by omega, ak8 (r := r) hrx (u.length + 1) (p + 1) g3 (by omega)]
  simp only
  rw [show (p : Int) + 1 = ((p + 1 : Nat) : Int) by omega, amy g3, h1, List.length_append, List.length_append]
  simp only [List.length_cons, List.length_nil]
  rw [show p + 1 + k.2.2.length + 1 = p + (0 + 1 + k.2.2.length + (0 + 1)) by omega]
 ·rw [if_neg (by omega), if_neg (by omega)] at h ⊢
  rcases h2 with ⟨c, e, hc⟩ | e
  ·rw [e] at h ⊢
   obtain ⟨g1, g2, g3⟩ := s6 (v := r) h
   obtain ⟨m1, m2, m3, _⟩ := ajb c (by simpa using hc)
   unfold abd
   rw [g2, if_neg (by rw [m1]; simp), if_neg (fun x : (c.toNat : Int) = 34 => m2 (UInt8.toNat_inj.1 (by show c.toNat = 34; omega))), if_neg (fun x : (c.toNat : Int) = 47 => m3 (UInt8.toNat_inj.1 (by show c.toNat = 47; omega))), if_pos (by simpa using hc), h1]
   have := amy (x := [c]) (r := r) h
   simp only [List.length_cons, List.length_nil] at this ⊢
   rw [show (p : Int) + 1 = ((p + (0 + 1) : Nat) : Int) by omega, this]
  ·rw [e] at h ⊢
   obtain ⟨g1, g2, g3⟩ := s6 (v := 62 :: r) h
   obtain ⟨f1, f2, f3⟩ := s6 (v := r) g3
   unfold abd
   rw [show (p : Int) + 1 = ((p + 1 : Nat) : Int) by omega, g2, f2, if_neg (by decide), if_neg (by decide), if_neg (by decide), if_neg (by decide), if_pos ⟨by omega, rfl, rfl⟩, h1]
   rfl
theorem at7 {u r : List UInt8} {p : Nat} (h : u.drop p = 10 :: r) : r8 u (p : Int) = r8 u ((p + 1 : Nat) : Int) := by
 unfold r8
 obtain ⟨_, _, h3⟩ := s6 h
 rw [Int.toNat_natCast, Int.toNat_natCast, h, h3, ae2]
 simp; omega
theorem aen {u : List UInt8} : ∀ (ks : List Pc) (n p : Nat) (l : List Tok), Chn ks → u.drop p = z6 ks → p ≤ u.length → u.length - p < n →
  ∃ l2, l2.map kt = n6 ks ∧ y9 u n l (r8 u p) = .ok (l ++ l2 ++ [((0, (u.length : Int), []) : Tok)])
 | [], n, p, l, _, h, hp, hn => by
  obtain ⟨n, rfl⟩ : ∃ m, n = m + 1 := ⟨n - 1, by omega⟩
  have hp2 : u.length ≤ p := by
   have := congrArg List.length h
   rw [List.length_drop] at this
   simp [z6] at this; omega
  have hg : r8 u (p : Int) = u.length := by
   unfold r8; rw [ag0 _ (by omega)]; simp; omega
  refine ⟨[], rfl, ?_⟩
  rw [hg, y9, if_neg (by omega)]; simp
 | k :: ks, n, p, l, hk, h, hp, hn => by
  rw [Chn] at hk
  obtain ⟨hk1, hk2, hk3⟩ := hk
  rw [o5] at h
  by_cases h9 : k.1 = 9
  ·have hb : k.2 = [32] ∨ k.2 = [10] := by
    rcases hk1 with g | g
    ·exact g.2
    ·exfalso
     rcases g with g | g | g | g
     ·have := g.1; dsimp only at this; omega
     ·dsimp only at g; omega
     ·have := g.1; dsimp only at this; omega
     ·have := g.1; dsimp only at this; omega
   have hs : shP k = k.2 := by unfold shP; rw [if_pos h9]
   rw [hs] at h
   have ht : n6 (k :: ks) = n6 ks := by unfold n6; rw [List.filter_cons_of_neg (by simp [h9])]
   rw [ht]
   rcases hb with hb | hb
   ·rw [hb] at h
    obtain ⟨g1, _, g3⟩ := s6 (v := z6 ks) h
    obtain ⟨l2, e1, e2⟩ := aen ks n (p + 1) l hk3 g3 (by omega) (by omega)
    refine ⟨l2, e1, ?_⟩
    rw [ap4 (r := z6 ks) h]; exact e2
   ·rw [hb] at h
    obtain ⟨g1, _, g3⟩ := s6 (v := z6 ks) h
    obtain ⟨l2, e1, e2⟩ := aen ks n (p + 1) l hk3 g3 (by omega) (by omega)
    refine ⟨l2, e1, ?_⟩
    rw [at7 (r := z6 ks) h]; exact e2
  ·obtain ⟨n, rfl⟩ : ∃ m, n = m + 1 := ⟨n - 1, by omega⟩
   have hgk : adn (k.1, 0, k.2) := by
    rcases hk1 with g | g
    ·exact absurd g.1 h9
    ·exact g
   have hs : shP k = bare (k.1, 0, k.2) := by unfold shP; rw [if_neg h9]
   rw [hs] at h
   have ht : n6 (k :: ks) = k :: n6 ks := by unfold n6; rw [List.filter_cons_of_pos (by simp [h9])]
   rw [ht]
   obtain ⟨c, r, e, hc⟩ := ap5 hgk
   have hne : bare (k.1, 0, k.2) ≠ [] := by rw [e]; simp
   have hlen := ahi h hne
   have hpos : 0 < (bare (k.1, 0, k.2)).length := by rw [e]; simp
   have hd2 : u.drop (p + (bare (k.1, 0, k.2)).length) = z6 ks := by rw [← List.drop_drop, h, List.drop_left]
   obtain ⟨l2, e1, e2⟩ := aen ks n (p + (bare (k.1, 0, k.2)).length) (l ++ [((k.1, (p : Int), k.2) : Tok)]) hk3 hd2 (by omega) (by omega)
   refine ⟨(k.1, (p : Int), k.2) :: l2, by rw [List.map_cons, e1]; rfl, ?_⟩
   rw [asf (by rw [h, e]; rfl) hc, y9, if_pos (by omega), aqw hgk h (fun h1 => atg (hk2 h1) hk3)]
   simp only
   rw [e2]; simp
theorem aqn {ks : List Pc} (hk : Chn ks) (hl : (z6 ks).length ≤ 4096) : ∃ m, g0 (z6 ks) = (m, 0, 0) ∧ m.map kt = n6 ks ++ [((0, []) : Pc)] := by
 obtain ⟨l2, e1, e2⟩ := aen (u := z6 ks) ks ((z6 ks).length + 1) 0 [] hk rfl (by omega) (by omega)
 refine ⟨l2 ++ [((0, ((z6 ks).length : Int), []) : Tok)], ?_, by rw [List.map_append, e1]; rfl⟩
 unfold g0
 rw [if_neg (by omega)]
 have e2' : y9 (z6 ks) ((z6 ks).length + 1) [] (r8 (z6 ks) 0) = _ := e2
 rw [e2']; simp
def p3 (r need : Int) (s : List Pc) : List Pc := if r < need then [(4, [40])] ++ s ++ [(4, [41])] else s
mutual
def pcB : Ex → List Pc
 | .name _ s => [(1, s)]
 | .text _ s => [(2, s)]
 | .regex _ s => [(3, s)]
 | .keyed _ a => [(4, [123])] ++ p3 (rkX a) 0 (pcB a) ++ [(4, [125])]
 | .unary _ o a => p3 (rkX a) 5 (pcB a) ++ [(4, o)]
 | .binary _ o a b => p3 (rkX a) (d4 o) (pcB a) ++ [(9, [32]), (4, o), (9, [32])] ++ p3 (rkX b) (d4 o + 1) (pcB b)
 | .call _ w l => [(1, w), (4, [40])] ++ pcA l ++ [(4, [41])]
def pcA : ExL → List Pc
 | .nil => []
 | .cons a r => p3 (rkX a) 0 (pcB a) ++ pcR r
def pcR : ExL → List Pc
 | .nil => []
 | .cons a r => [(4, [44]), (9, [32])] ++ p3 (rkX a) 0 (pcB a) ++ pcR r
end
def pcX (e : Ex) (need : Int) : List Pc := p3 (rkX e) need (pcB e)
theorem ad5 : z6 [] = [] := rfl
theorem abv (r need : Int) (s : List Pc) : z6 (p3 r need s) = par r need (z6 s) := by
 unfold p3 par
 split
 ·rw [m7, m7]; rfl
 ·rfl
theorem aot (s : Bs) : shP (4, s) = s := rfl
theorem ara (s : Bs) : shP (9, s) = s := rfl
theorem agy (s : Bs) : shP (1, s) = s := rfl
mutual
theorem abt : ∀ e : Ex, z6 (pcB e) = j9 e
 | .name p s => by rw [pcB, j9, o5, agy, ad5, List.append_nil]
 | .text p s => by rw [pcB, j9, o5, ad5, List.append_nil]; rfl
 | .regex p s => by rw [pcB, j9, o5, ad5, List.append_nil]; rfl
 | .keyed p a => by rw [pcB, j9, m7, m7, abv, abt a]; rfl
 | .unary p o a => by rw [pcB, j9, m7, abv, abt a, o5, aot, ad5, List.append_nil]
 | .binary p o a b => by
  rw [pcB, j9, m7, m7, abv, abv, abt a, abt b, o5, o5, o5, aot, ara, ad5, List.append_nil, List.append_assoc [32] o [32]]
 | .call p w l => by rw [pcB, j9, m7, m7, arn l, o5, agy]; rfl
theorem arn : ∀ l : ExL, z6 (pcA l) = aaz l
 | .nil => by rw [pcA, aaz]; rfl
 | .cons a r => by rw [pcA, aaz, m7, abv, abt a, ak4 r]
theorem ak4 : ∀ l : ExL, z6 (pcR l) = aai l
 | .nil => by rw [pcR, aai]; rfl
 | .cons a r => by rw [pcR, aai, m7, m7, abv, abt a, ak4 r]; rfl
end
theorem ak1 (e : Ex) (need : Int) : z6 (pcX e need) = f7 e need := by unfold pcX f7; rw [abv, abt]
mutual
def WG : Ex → Prop
 | .name _ s => adn (1, 0, s) ∧ d7 s = 0
 | .text _ _ => True
 | .regex _ s => adn (3, 0, s)
 | .keyed _ a => WG a
 | .unary _ o a => (o = [42] ∨ o = [43] ∨ o = [63]) ∧ WG a
 | .binary _ o a b => 0 ≤ d4 o ∧ WG a ∧ WG b
 | .call _ w l => adn (1, 0, w) ∧ 0 < d7 w ∧ (l.len : Int) = d7 w ∧ WGl l
def WGl : ExL → Prop
 | .nil => True
 | .cons a r => WG a ∧ WGl r
end
theorem u4 {c : UInt8} (h : ad4.contains c = true) : OkP (4, [c]) := .inr (.inr (.inr (.inr ⟨rfl, .inl ⟨c, rfl, h⟩⟩)))
theorem as7 {o : Bs} (h : 0 ≤ d4 o) : OkP (4, o) := by
 unfold d4 at h
 split at h
 ·rename_i h1; rw [h1]; exact u4 rfl
 ·split at h
  ·rename_i h1; rcases h1 with h1 | h1 <;> rw [h1] <;> exact u4 rfl
  ·split at h
   ·rename_i h1; rw [h1]; exact .inr (.inr (.inr (.inr ⟨rfl, .inr rfl⟩)))
   ·split at h
    ·rename_i h1; rw [h1]; exact u4 rfl
    ·split at h
     ·rename_i h1; rw [h1]; exact u4 rfl
     ·omega
theorem auq : OkP (9, [32]) := .inl ⟨rfl, .inl rfl⟩
theorem w5 {o : Bs} {r : List Pc} (h : OkP (4, o)) (hr : Chn r) : Chn ((4, o) :: r) := ⟨h, fun g => absurd (show (4 : Int) = 1 from g) (by decide), hr⟩
theorem am2 {r : List Pc} (hr : Chn r) : Chn ((9, [32]) :: r) := ⟨auq, fun g => absurd (show (9 : Int) = 1 from g) (by decide), hr⟩
theorem adc {o : Bs} {r : List Pc} : Nx ((4, o) :: r) := .inl rfl
theorem aoe {o : Bs} {r : List Pc} : Nx ((9, o) :: r) := .inr rfl
def Ahd (s : List Pc) : Prop := ∀ r, Nx r → Chn r → Chn (s ++ r)
theorem Ahd.par {s : List Pc} (h : Ahd s) (r need : Int) : Ahd (p3 r need s) := fun x hx hc => by
 unfold p3
 split
 ·rw [List.append_assoc, List.append_assoc]
  exact w5 (u4 rfl) (h _ adc (w5 (u4 rfl) hc))
 ·exact h x hx hc
mutual
theorem ac2 : ∀ e : Ex, WG e → Ahd (pcB e)
 | .name p s, h => fun r hx hc => by rw [WG] at h; rw [pcB]; exact ⟨.inr h.1, fun _ => hx, hc⟩
 | .text p s, h => fun r hx hc => by rw [pcB]; exact ⟨.inr (.inr (.inl rfl)), fun g => absurd (show (2 : Int) = 1 from g) (by decide), hc⟩
 | .regex p s, h => fun r hx hc => by rw [WG] at h; rw [pcB]; exact ⟨.inr h, fun g => absurd (show (3 : Int) = 1 from g) (by decide), hc⟩
 | .keyed p a, h => fun r hx hc => by
  rw [WG] at h
  rw [pcB, List.append_assoc, List.append_assoc]
  exact w5 (u4 rfl) ((ac2 a h).par _ _ _ adc (w5 (u4 rfl) hc))
 | .unary p o a, h => fun r hx hc => by
  rw [WG] at h
  rw [pcB, List.append_assoc]
  exact (ac2 a h.2).par _ _ _ adc (w5 (by rcases h.1 with rfl | rfl | rfl <;> exact u4 rfl) hc)
 | .binary p o a b, h => fun r hx hc => by
  rw [WG] at h
  rw [pcB, List.append_assoc, List.append_assoc]
  exact (ac2 a h.2.1).par _ _ _ aoe (am2 (w5 (as7 h.1) (am2 ((ac2 b h.2.2).par _ _ _ hx hc))))
 | .call p w l, h => fun r hx hc => by
  rw [WG] at h
  rw [pcB, List.append_assoc, List.append_assoc]
  exact ⟨.inr h.1, fun _ => adc, w5 (u4 rfl) (as5 l h.2.2.2 _ adc (w5 (u4 rfl) hc))⟩
theorem as5 : ∀ l : ExL, WGl l → Ahd (pcA l)
 | .nil, h => fun r hx hc => by rw [pcA]; exact hc
 | .cons a l, h => fun r hx hc => by
  rw [WGl] at h
  rw [pcA, List.append_assoc]
  exact (ac2 a h.1).par _ _ _ (aqi l hx) (aok l h.2 r hx hc)
theorem aok : ∀ l : ExL, WGl l → Ahd (pcR l)
 | .nil, h => fun r hx hc => by rw [pcR]; exact hc
 | .cons a l, h => fun r hx hc => by
  rw [WGl] at h
  rw [pcR, List.append_assoc, List.append_assoc]
  exact w5 (u4 rfl) (am2 ((ac2 a h.1).par _ _ _ (aqi l hx) (aok l h.2 r hx hc)))
theorem aqi : ∀ l : ExL, ∀ {r : List Pc}, Nx r → Nx (pcR l ++ r)
 | .nil, r, h => by rw [pcR]; exact h
 | .cons a l, r, h => by rw [pcR, List.append_assoc, List.append_assoc]; exact adc
end
theorem aoa (e : Ex) (need : Int) (h : WG e) : Ahd (pcX e need) := (ac2 e h).par _ _
def pcD (d : l4) : List Pc := [(1, [108, 101, 116]), (9, [32]), (1, d.2.1), (9, [32]), (4, [61]), (9, [32])] ++ pcX d.2.2 0 ++ [(4, [59]), (9, [10])]
def pcP (l : List l4) (a : Ex) : List Pc := l.flatMap pcD ++ pcX a 0 ++ [(9, [10])]
theorem auc (d : l4) : z6 (pcD d) = alg d := by
 unfold pcD alg
 rw [m7, m7, ak1, o5, o5, o5, agy]
 show [108, 101, 116] ++ ([32] ++ (shP (1, d.2.1) ++ ([32, 61, 32]))) ++ _ ++ [59, 10] = _
 rw [agy]
 simp only [List.append_assoc]
 rfl
theorem aqz (l : List l4) (a : Ex) : z6 (pcP l a) = j4 l a := by
 unfold pcP j4 aea
 rw [m7, m7, ak1]
 congr 2
 induction l with
 | nil => rfl
 | cons d l ih => rw [List.flatMap_cons, List.flatMap_cons, m7, auc, ih]
def WGd (d : l4) : Prop := adn (1, 0, d.2.1) ∧ d7 d.2.1 = 0 ∧ WG d.2.2
theorem acm {o : Bs} {r : List Pc} (h : o = [32] ∨ o = [10]) (hr : Chn r) : Chn ((9, o) :: r) := ⟨.inl ⟨rfl, h⟩, fun g => absurd (show (9 : Int) = 1 from g) (by decide), hr⟩
theorem asj : adn (1, 0, [108, 101, 116]) := .inl ⟨rfl, ⟨108, [101, 116], rfl, by decide⟩, by decide, by decide⟩
theorem aon (a : Ex) (ha : WG a) : ∀ l : List l4, (∀ d ∈ l, WGd d) → Chn (pcP l a)
 | [], _ => by
  unfold pcP
  rw [List.flatMap_nil, List.nil_append]
  exact aoa a 0 ha _ aoe (acm (.inr rfl) trivial)
 | d :: l, h => by
  have ih := aon a ha l (fun x hx => h x (List.mem_cons_of_mem _ hx))
  have hd := h d (List.mem_cons_self ..)
  have e : pcP (d :: l) a = pcD d ++ pcP l a := by unfold pcP; rw [List.flatMap_cons, List.append_assoc, List.append_assoc, List.append_assoc]
  rw [e]
  unfold pcD
  rw [List.append_assoc, List.append_assoc]
  exact ⟨.inr asj, fun _ => aoe, acm (.inl rfl) ⟨.inr hd.1, fun _ => aoe, acm (.inl rfl) (w5 (u4 rfl) (acm (.inl rfl) (aoa _ _ hd.2.2 _ adc (w5 (u4 rfl) (acm (.inr rfl) ih)))))⟩⟩
end Go.Proofs.YtifajndacnfcbaaDoor
namespace Go.Proofs.YtifajndacnfcbaaDoor
open Go Go.RowKit
mutual
def q6 : Ex → Ex
 | .name _ s => .name 0 s
 | .text _ s => .text 0 s
 | .regex _ s => .regex 0 s
 | .keyed _ a => .keyed 0 (q6 a)
 | .unary _ o a => .unary 0 o (q6 a)
 | .binary _ o a b => .binary 0 o (q6 a) (q6 b)
 | .call _ w l => .call 0 w (afr l)
def afr : ExL → ExL
 | .nil => .nil
 | .cons a r => .cons (q6 a) (afr r)
end
theorem ae5 (e : Ex) : rkX (q6 e) = rkX e := by cases e <;> simp only [q6, rkX]
mutual
theorem aa1 : ∀ e : Ex, j9 (q6 e) = j9 e
 | .name p s => by simp only [q6, j9]
 | .text p s => by simp only [q6, j9]
 | .regex p s => by simp only [q6, j9]
 | .keyed p a => by simp only [q6, j9, ae5, aa1 a]
 | .unary p o a => by simp only [q6, j9, ae5, aa1 a]
 | .binary p o a b => by simp only [q6, j9, ae5, aa1 a, aa1 b]
 | .call p w l => by simp only [q6, j9, aqd l]
theorem aqd : ∀ l : ExL, aaz (afr l) = aaz l
 | .nil => by rw [afr]
 | .cons a r => by simp only [afr, aaz, ae5, aa1 a, ak3 r]
theorem ak3 : ∀ l : ExL, aai (afr l) = aai l
 | .nil => by rw [afr]
 | .cons a r => by simp only [afr, aai, ae5, aa1 a, ak3 r]
end
theorem alw {a b : Ex} (h : q6 a = q6 b) (n : Int) : f7 a n = f7 b n := by
 unfold f7
 rw [← ae5 a, ← ae5 b, ← aa1 a, ← aa1 b, h]
def ad3 (r need : Int) (d : Nat) : Nat := if r < need then d + 1 else d
mutual
def dB : Ex → Nat
 | .name .. => 0
 | .text .. => 0
 | .regex .. => 0
 | .keyed _ a => ad3 (rkX a) 0 (dB a) + 1
 | .unary _ _ a => ad3 (rkX a) 5 (dB a)
 | .binary _ o a b => max (ad3 (rkX a) (d4 o) (dB a)) (ad3 (rkX b) (d4 o + 1) (dB b))
 | .call _ _ l => dA l + 1
def dA : ExL → Nat
 | .nil => 0
 | .cons a r => max (ad3 (rkX a) 0 (dB a)) (dA r)
end
def dP (e : Ex) (need : Int) : Nat := ad3 (rkX e) need (dB e)
theorem atb (e : Ex) {m n : Int} (h : m ≤ n) : dP e m ≤ dP e n := by
 unfold dP ad3
 split <;> split <;> omega
theorem aq8 (e : Ex) (n : Int) : dP e n ≤ dB e + 1 ∧ dB e ≤ dP e n := by
 unfold dP ad3
 split <;> omega
theorem aog (b : Ex) : ∀ l : ExL, dA (l.snoc b) = max (dA l) (dP b 0)
 | .nil => by rw [ExL.snoc, dA, dA, dA]; unfold dP; omega
 | .cons a r => by rw [ExL.snoc, dA, dA, aog b r]; omega
structure Dep (ts : List Tok) (f : Nat) : Prop where
 e : ∀ (l : Nat) (q : PSx) a q1, l ≤ 5 → q.2 ≤ 64 → pE ts f l q = .ok (a, q1) → q.2 + (dP a l : Int) ≤ 64
 l : ∀ (l : Nat) b (q : PSx) a q1, q.2 ≤ 64 → q.2 + dP b l ≤ 64 → pL ts f l b q = .ok (a, q1) → q.2 + (dP a l : Int) ≤ 64
 p : ∀ (q : PSx) a q1, q.2 ≤ 64 → pP ts f q = .ok (a, q1) → q.2 + dP a 5 ≤ 64
 s : ∀ b (q : PSx) a q1, q.2 + dP b 5 ≤ 64 → pS ts f b q = .ok (a, q1) → q.2 + dP a 5 ≤ 64
 a : ∀ (q : PSx) a q1, q.2 ≤ 64 → pA ts f q = .ok (a, q1) → q.2 + dP a 5 ≤ 64
 c : ∀ (q : PSx) a q1, q.2 ≤ 64 → pC ts f q = .ok (a, q1) → q.2 + dP a 5 ≤ 64
 r : ∀ n b (q : PSx) a q1, q.2 ≤ 64 → q.2 + dA b ≤ 64 → pR ts f n b q = .ok (a, q1) → q.2 + dA a ≤ 64
theorem aei {e : Ex} (h : 5 ≤ rkX e) : dP e 5 = dB e := by unfold dP ad3; rw [if_neg (by omega)]
theorem dep (ts : List Tok) : ∀ f, Dep ts f := by
 intro f
 induction f with
 | zero =>
  refine ⟨?_, ?_, ?_, ?_, ?_, ?_, ?_⟩ <;> intros <;> rename_i h <;> first | (rw [pE] at h; cases h; done) | (rw [pL] at h; cases h; done) | (rw [pP] at h; cases h; done) | (rw [pS] at h; cases h; done) | (rw [pA] at h; cases h; done) | (rw [pC] at h; cases h; done) | (rw [pR] at h; cases h; done)
 | succ f ih =>
  have pg := prog ts (fun _ => afh) f
  refine ⟨fun l q a q1 hl hq h => ?_, fun l b q a q1 hq hb h => ?_, fun q a q1 hq h => ?_, fun b q a q1 hb h => ?_, fun q a q1 hq h => ?_, fun q a q1 hq h => ?_, fun n b q a q1 hq hb h => ?_⟩
  ·rw [pE] at h
   split at h
   ·rename_i h5
    obtain rfl : l = 5 := Nat.le_antisymm hl h5
    exact ih.p _ _ _ hq h
   ·rename_i h5
    split at h
    ·cases h
    ·rename_i a2 q2 h2
     have e1 := ih.e _ _ _ _ (by omega) hq h2
     have e2 := (pg.e _ _ _ _ h2).2.2
     have e3 := atb a2 (show (l : Int) ≤ ((l + 1 : Nat) : Int) by omega)
     have := ih.l _ _ _ _ _ (by omega) (by omega) h
     omega
  ·rw [pL] at h
   split at h
   ·rename_i hm
    have hr := (agz (a8 ts q.1).2.2).2
    split at h
    ·cases h
    ·rename_i a2 q2 h2
     have e1 := ih.e _ _ _ _ (by omega) (show ((q.1 + 1, q.2) : PSx).2 ≤ 64 from hq) h2
     have e2 := (pg.e _ _ _ _ h2).2.2
     dsimp only at e1 e2
     have e3 : dP (.binary (a8 ts q.1).2.1 (a8 ts q.1).2.2 b a2) l = max (dP b l) (dP a2 ((l : Int) + 1)) := by
      show ad3 (rkX _) _ _ = _
      rw [show rkX (.binary (a8 ts q.1).2.1 (a8 ts q.1).2.2 b a2) = d4 (a8 ts q.1).2.2 from rfl, hm.2, dB, hm.2]
      unfold ad3
      rw [if_neg (Int.lt_irrefl _)]
      rfl
     have e4 : ((l + 1 : Nat) : Int) = (l : Int) + 1 := by omega
     rw [e4] at e1
     have := ih.l _ _ _ _ _ (by omega) (by rw [e3]; omega) h
     omega
   ·cases h; exact hb
  ·rw [pP] at h
   split at h
   ·cases h
   ·rename_i a2 q2 h2
    have e1 := ih.a _ _ _ hq h2
    have e2 := (pg.a _ _ _ h2).2.2
    have := ih.s _ _ _ _ (by omega) h
    omega
  ·rw [pS] at h
   split at h
   ·exact ih.s (.unary (a8 ts q.1).2.1 (a8 ts q.1).2.2 b) (q.1 + 1, q.2) a q1 (by
     rw [aei (by show (5 : Int) ≤ 5; decide), dB]; exact hb) h
   ·cases h; exact hb
  ·rw [pA] at h
   split at h
   ·cases h; rw [aei (by show (5 : Int) ≤ 6; decide), dB]; omega
   ·split at h
    ·cases h; rw [aei (by show (5 : Int) ≤ 6; decide), dB]; omega
    ·split at h
     ·exact ih.c _ _ _ hq h
     ·split at h
      ·cases h; rw [aei (by show (5 : Int) ≤ 6; decide), dB]; omega
      ·split at h
       ·split at h
        ·cases h
        ·rename_i q2 h2
         obtain ⟨b1, b2, rfl⟩ := p9 h2
         split at h
         ·cases h
         ·rename_i a3 q3 h3
          have e1 := ih.e _ _ _ _ (Nat.zero_le _) (by dsimp only; omega) h3
          split at h
          ·cases h
          ·cases h
           rw [aei (by show (5 : Int) ≤ 6; decide), dB]
           dsimp only at e1
           unfold dP at e1
           have e4 : ((0 : Nat) : Int) = 0 := rfl
           rw [e4] at e1
           omega
       ·split at h
        ·split at h
         ·cases h
         ·rename_i q2 h2
          obtain ⟨b1, b2, rfl⟩ := p9 h2
          split at h
          ·cases h
          ·rename_i a3 q3 h3
           have e1 := ih.e _ _ _ _ (Nat.zero_le _) (by dsimp only; omega) h3
           split at h
           ·cases h
           ·cases h
            have e5 := (aq8 a 5).1
            have e6 := (aq8 a ((0 : Nat) : Int)).2
            dsimp only at e1
            omega
        ·cases h
  ·rw [pC] at h
   split at h
   ·cases h
   ·rename_i q2 h2
    obtain ⟨b1, b2, rfl⟩ := p9 h2
    split at h
    ·cases h
    ·rename_i a3 q3 h3
     have e1 := ih.r _ _ _ _ _ (by dsimp only at b2 ⊢; omega) (by rw [dA]; dsimp only at b2 ⊢; omega) h3
     split at h
     ·cases h
     ·cases h
      rw [aei (by show (5 : Int) ≤ 6; decide), dB]
      dsimp only at e1
      omega
  ·rw [pR] at h
   split at h
   ·cases h; exact hb
   ·split at h
    ·cases h
    ·rename_i q2 h2
     have hq2 : q2.2 = q.2 := by
      split at h2
      ·obtain ⟨_, rfl⟩ := z7 h2; rfl
      ·cases h2; rfl
     split at h
     ·cases h
     ·rename_i a3 q3 h3
      have e1 := ih.e _ _ _ _ (Nat.zero_le _) (by omega) h3
      have e2 := (pg.e _ _ _ _ h3).2.2
      have e4 : ((0 : Nat) : Int) = 0 := rfl
      rw [e4] at e1
      have := ih.r _ _ _ _ _ (by omega) (by rw [aog]; omega) h
      omega
def Sf (ts : List Tok) (k : Nat) (us : List Pc) : Prop := (ts.map kt).drop k = us
theorem Sf.head {ts : List Tok} {k : Nat} {x : Pc} {r : List Pc} (h : Sf ts k (x :: r)) : (a8 ts k).1 = x.1 ∧ (a8 ts k).2.2 = x.2 ∧ Sf ts (k + 1) r := by
 unfold Sf at h
 have h1 : (ts.map kt)[k]? = some x := by
  have := congrArg (fun l => l[0]?) h
  simpa using this
 rw [List.getElem?_map] at h1
 have h2 : Sf ts (k + 1) r := by unfold Sf; rw [← List.drop_drop, h]; rfl
 cases h3 : ts[k]? with
 | none => rw [h3] at h1; cases h1
 | some y =>
  rw [h3] at h1
  cases h1
  have h4 : a8 ts k = y := by unfold a8; rw [List.getD_eq_getElem?_getD, h3]; rfl
  rw [h4]
  exact ⟨rfl, rfl, h2⟩
theorem Sf.skip {ts : List Tok} : ∀ {s : List Pc} {k : Nat} {r : List Pc}, Sf ts k (s ++ r) → Sf ts (k + s.length) r
 | [], k, r, h => h
 | x :: s, k, r, h => by
  have := Sf.skip (Sf.head (x := x) (r := s ++ r) h).2.2
  rw [List.length_cons, show k + (s.length + 1) = k + 1 + s.length by omega]; exact this
theorem Sf.isM {ts : List Tok} {k : Nat} {x : Pc} {r : List Pc} (h : Sf ts k (x :: r)) (m : Bs) : isM ts k m = (decide (x.1 = 4) && decide (x.2 = m)) := by
 obtain ⟨h1, h2, _⟩ := h.head
 unfold Go.Proofs.YtifajndacnfcbaaDoor.isM; rw [h1, h2]
def Fol (ts : List Tok) (need : Int) (k : Nat) : Prop := ¬ Sg ts (need + 1) (k, 0) ∧ ∀ m : Bs, m = [42] ∨ m = [43] ∨ m = [63] → Go.Proofs.YtifajndacnfcbaaDoor.isM ts k m = false
theorem Fol.mono {ts : List Tok} {m n : Int} {k : Nat} (h : Fol ts m k) (hm : m ≤ n) : Fol ts n k := ⟨fun ⟨g1, g2⟩ => h.1 ⟨g1, by omega⟩, h.2⟩
theorem Fol.sS {ts : List Tok} {n : Int} {k : Nat} (h : Fol ts n k) (a : Ex) (o : Int) : sS ts a (k, o) = .ok (a, (k, o)) := by
 rw [aos, if_neg]
 dsimp only
 rw [h.2 _ (.inl rfl), h.2 _ (.inr (.inl rfl)), h.2 _ (.inr (.inr rfl))]
 rintro (g | g | g) <;> cases g
theorem Fol.W {ts : List Tok} {n : Int} {k : Nat} (h : Fol ts n k) {m : Nat} (hm : n + 1 ≤ m) (a : Ex) (o : Int) (j : Nat) : W ts m j a (k, o) = .ok (a, (k, o)) := ar4 (fun ⟨g1, g2⟩ => h.1 ⟨g1, by dsimp only at g2 ⊢; omega⟩) j
theorem Sf.fol {ts : List Tok} {k : Nat} {x : Pc} {r : List Pc} (h : Sf ts k (x :: r)) {n : Int} (h1 : x.1 = 4 → d4 x.2 ≤ n ∧ x.2 ≠ [42] ∧ x.2 ≠ [43] ∧ x.2 ≠ [63]) : Fol ts n k := by
 obtain ⟨g1, g2, _⟩ := h.head
 constructor
 ·rintro ⟨g3, g4⟩
  dsimp only at g3 g4
  rw [g1] at g3; rw [g2] at g4
  have := (h1 g3).1; omega
 ·intro m hm
  rw [h.isM]
  by_cases h4 : x.1 = 4
  ·have h5 := (h1 h4).2
   have : ¬ x.2 = m := by
    rcases hm with rfl | rfl | rfl
    ·exact h5.1
    ·exact h5.2.1
    ·exact h5.2.2
   rw [decide_eq_false this, Bool.and_false]
  ·rw [decide_eq_false h4, Bool.false_and]
mutual
def tkB : Ex → List Pc
 | .name _ s => [(1, s)]
 | .text _ s => [(2, s)]
 | .regex _ s => [(3, s)]
 | .keyed _ a => (4, [123]) :: (p3 (rkX a) 0 (tkB a) ++ [(4, [125])])
 | .unary _ o a => p3 (rkX a) 5 (tkB a) ++ [(4, o)]
 | .binary _ o a b => p3 (rkX a) (d4 o) (tkB a) ++ (4, o) :: p3 (rkX b) (d4 o + 1) (tkB b)
 | .call _ w l => (1, w) :: (4, [40]) :: (tkA l ++ [(4, [41])])
def tkA : ExL → List Pc
 | .nil => []
 | .cons a r => p3 (rkX a) 0 (tkB a) ++ tkR r
def tkR : ExL → List Pc
 | .nil => []
 | .cons a r => (4, [44]) :: (p3 (rkX a) 0 (tkB a) ++ tkR r)
end
theorem aji {x : Pc} {r : List Pc} (h : x.1 ≠ 9) : n6 (x :: r) = x :: n6 r := by unfold n6; rw [List.filter_cons_of_pos (by simpa using h)]
theorem arx {x : Pc} {r : List Pc} (h : x.1 = 9) : n6 (x :: r) = n6 r := by unfold n6; rw [List.filter_cons_of_neg (by simpa using h)]
theorem o6 {o : Bs} {r : List Pc} : n6 ((4, o) :: r) = (4, o) :: n6 r := aji (by show (4 : Int) ≠ 9; decide)
theorem adj {o : Bs} {r : List Pc} : n6 ((1, o) :: r) = (1, o) :: n6 r := aji (by show (1 : Int) ≠ 9; decide)
theorem aa4 {o : Bs} {r : List Pc} : n6 ((9, o) :: r) = n6 r := arx rfl
theorem s8 : n6 [] = [] := rfl
theorem aap (r need : Int) (s : List Pc) : n6 (p3 r need s) = p3 r need (n6 s) := by
 unfold p3
 split
 ·rw [l7, l7, o6, o6, s8]
 ·rfl
mutual
theorem adp : ∀ e : Ex, n6 (pcB e) = tkB e
 | .name p s => by rw [pcB, tkB, adj, s8]
 | .text p s => by rw [pcB, tkB]; rfl
 | .regex p s => by rw [pcB, tkB]; rfl
 | .keyed p a => by rw [pcB, tkB, l7, l7, aap, adp a, o6, o6, s8, List.append_assoc]; rfl
 | .unary p o a => by rw [pcB, tkB, l7, aap, adp a, o6, s8]
 | .binary p o a b => by
  rw [pcB, tkB, l7, l7, aap, aap, adp a, adp b, aa4, o6, aa4, s8, List.append_assoc]; rfl
 | .call p w l => by rw [pcB, tkB, l7, l7, atk l, adj, o6, o6, s8, List.append_assoc]; rfl
theorem atk : ∀ l : ExL, n6 (pcA l) = tkA l
 | .nil => by rw [pcA, tkA]; rfl
 | .cons a r => by rw [pcA, tkA, l7, aap, adp a, aoj r]
theorem aoj : ∀ l : ExL, n6 (pcR l) = tkR l
 | .nil => by rw [pcR, tkR]; rfl
 | .cons a r => by rw [pcR, tkR, l7, l7, aap, adp a, aoj r, o6, aa4, s8, List.append_assoc]; rfl
end
def BX (ts : List Tok) (e : Ex) : Prop := ∀ (k : Nat) (rest : List Pc), Sf ts k (tkB e ++ rest) → ∃ e2, q6 e2 = q6 e ∧ ∀ o : Int, o + dB e ≤ 64 →
 (5 ≤ rkX e → sP ts (k, o) = sS ts e2 (k + (tkB e).length, o)) ∧
 (rkX e < 5 → Fol ts (rkX e) (k + (tkB e).length) → ∀ m : Nat, (m : Int) ≤ rkX e → sE ts m (k, o) = W ts m (5 - m) e2 (k + (tkB e).length, o))
def tkX (e : Ex) (need : Int) : List Pc := p3 (rkX e) need (tkB e)
theorem aou {ts : List Tok} {m k : Nat} {o : Int} (hm : m ≤ 5) {a : Ex} {q : PSx} {n : Int} (h : sP ts (k, o) = sS ts a q) (hf : Fol ts n q.1) : sE ts m (k, o) = W ts m (5 - m) a q := by
 rw [E_P hm, h]
 obtain ⟨q1, q2⟩ := q
 rw [hf.sS]
theorem BX.full {ts : List Tok} {e : Ex} (h : BX ts e) (hr : 0 ≤ rkX e) {k : Nat} {rest : List Pc} (hs : Sf ts k (tkB e ++ rest)) (hf : Fol ts (-1) (k + (tkB e).length)) : ∃ e2, q6 e2 = q6 e ∧ ∀ o : Int, o + dB e ≤ 64 → sE ts 0 (k, o) = .ok (e2, (k + (tkB e).length, o)) := by
 obtain ⟨e2, h1, h2⟩ := h k rest hs
 refine ⟨e2, h1, fun o ho => ?_⟩
 obtain ⟨h3, h4⟩ := h2 o ho
 by_cases h5 : 5 ≤ rkX e
 ·rw [aou (m := 0) (by omega) (h3 h5) hf]
  exact hf.W (m := 0) (by omega) _ _ _
 ·rw [h4 (by omega) (hf.mono (by omega)) 0 hr]
  exact hf.W (m := 0) (by omega) _ _ _
theorem BX.post {ts : List Tok} {e : Ex} (h : BX ts e) (hr : 0 ≤ rkX e) {need : Int} (hn : rkX e < need ∨ 5 ≤ rkX e) {k : Nat} {rest : List Pc} (hs : Sf ts k (tkX e need ++ rest)) : ∃ e2, q6 e2 = q6 e ∧ ∀ o : Int, o + dP e need ≤ 64 → sP ts (k, o) = sS ts e2 (k + (tkX e need).length, o) := by
 unfold tkX p3 at hs ⊢
 by_cases hp : rkX e < need
 ·rw [if_pos hp] at hs ⊢
  rw [List.append_assoc, List.append_assoc] at hs
  have hs1 : Sf ts k ((4, [40]) :: (tkB e ++ ((4, [41]) :: rest))) := hs
  obtain ⟨g1, g2, g3⟩ := hs1.head
  have g4 := g3.skip
  have hf : Fol ts (-1) (k + 1 + (tkB e).length) := g4.fol (fun _ => by refine ⟨?_, ?_, ?_, ?_⟩ <;> decide)
  obtain ⟨e2, f1, f2⟩ := h.full hr g3 hf
  refine ⟨e2, f1, fun o ho => ?_⟩
  have hd : dP e need = dB e + 1 := by unfold dP ad3; rw [if_pos hp]
  rw [hd] at ho
  have f3 := f2 (o + 1) (by omega)
  have i1 := fun m => hs1.isM m
  have i2 := fun m => g4.isM m
  have hA : sA ts (k, o) = .ok (e2, (k + 1 + (tkB e).length + 1, o)) := by
   rw [ack]
   dsimp only at g1 g2 ⊢
   rw [g1, if_neg (by decide), if_neg (by decide), if_neg (by rintro ⟨g, _⟩; exact absurd g (by decide)), if_neg (by rintro ⟨g, _⟩; exact absurd g (by decide)), i1, if_neg (by decide), i1, if_pos (by decide)]
   unfold brM l9
   dsimp only
   rw [i1, if_pos (by decide), if_neg (by omega)]
   dsimp only
   rw [f3]
   dsimp only
   unfold m9
   dsimp only
   rw [i2, if_pos (by decide)]
   dsimp only
   rw [show o + 1 - 1 = o by omega]
  rw [aom, hA]
  dsimp only
  simp only [List.length_append, List.length_cons, List.length_nil]
  rw [show k + 1 + (tkB e).length + 1 = k + (0 + 1 + (tkB e).length + (0 + 1)) by omega]
 ·rw [if_neg hp] at hs ⊢
  obtain ⟨e2, f1, f2⟩ := h k rest hs
  refine ⟨e2, f1, fun o ho => (f2 o ?_).1 (by omega)⟩
  have hd : dP e need = dB e := by unfold dP ad3; rw [if_neg hp]
  omega
theorem BX.expr {ts : List Tok} {e : Ex} (h : BX ts e) (hr : 0 ≤ rkX e) {need : Nat} (hn : need ≤ 5) {k : Nat} {rest : List Pc} (hs : Sf ts k (tkX e need ++ rest)) (hf : Fol ts need (k + (tkX e need).length)) :
  ∃ e2, q6 e2 = q6 e ∧ ∀ o : Int, o + dP e need ≤ 64 → ∀ m, m ≤ need → sE ts m (k, o) = W ts m (5 - m) e2 (k + (tkX e need).length, o) := by
 by_cases hp : rkX e < need ∨ 5 ≤ rkX e
 ·obtain ⟨e2, f1, f2⟩ := h.post hr hp hs
  exact ⟨e2, f1, fun o ho m hm => aou (by omega) (f2 o ho) hf⟩
 ·rw [not_or] at hp
  have ht : tkX e need = tkB e := by unfold tkX p3; rw [if_neg hp.1]
  have hd : dP e need = dB e := by unfold dP ad3; rw [if_neg hp.1]
  rw [ht] at hs hf ⊢
  rw [hd]
  obtain ⟨e2, f1, f2⟩ := h k rest hs
  exact ⟨e2, f1, fun o ho m hm => (f2 o ho).2 (by omega) (hf.mono (by omega)) m (by omega)⟩
theorem BX.stop {ts : List Tok} {e : Ex} (h : BX ts e) (hr : 0 ≤ rkX e) {need : Nat} (hn : need ≤ 5) {k : Nat} {rest : List Pc} (hs : Sf ts k (tkX e need ++ rest)) {n : Int} (hf : Fol ts n (k + (tkX e need).length)) (h1 : n + 1 ≤ need) :
  ∃ e2, q6 e2 = q6 e ∧ ∀ o : Int, o + dP e need ≤ 64 → sE ts need (k, o) = .ok (e2, (k + (tkX e need).length, o)) := by
 obtain ⟨e2, f1, f2⟩ := h.expr hr hn hs (hf.mono (by omega))
 refine ⟨e2, f1, fun o ho => ?_⟩
 rw [f2 o ho need (Nat.le_refl _)]
 exact hf.W h1 _ _ _
def ExL.app : ExL → ExL → ExL
 | .nil, m => m
 | .cons a r, m => .cons a (r.app m)
theorem ExL.snoc_app (b : Ex) (m : ExL) : ∀ l : ExL, (l.snoc b).app m = l.app (.cons b m)
 | .nil => rfl
 | .cons a r => by rw [ExL.snoc, ExL.app, ExL.app, ExL.snoc_app b m r]
theorem ExL.app_nil : ∀ l : ExL, l.app .nil = l
 | .nil => rfl
 | .cons a r => by rw [ExL.app, ExL.app_nil r]
def RX (ts : List Tok) (l : ExL) : Prop := ∀ (k : Nat) (rest : List Pc), Sf ts k (tkR l ++ (4, [41]) :: rest) → ∃ l2, afr l2 = afr l ∧ ∀ (o : Int) (b : ExL) (n : Nat), o + dA l ≤ 64 → 0 < b.len → n = b.len + l.len → sR ts n b (k, o) = .ok (b.app l2, (k + (tkR l).length, o))
theorem WG.rk {e : Ex} (h : WG e) : 0 ≤ rkX e := by
 cases e with
 | binary p o a b => rw [WG] at h; exact h.1
 | unary p o a => show (0 : Int) ≤ 5; decide
 | name p s => show (0 : Int) ≤ 6; decide
 | text p s => show (0 : Int) ≤ 6; decide
 | regex p s => show (0 : Int) ≤ 6; decide
 | keyed p a => show (0 : Int) ≤ 6; decide
 | call p w l => show (0 : Int) ≤ 6; decide
theorem ak0 {ts : List Tok} {q q1 : PSx} {a : Ex} (h : sA ts q = .ok (a, q1)) : sP ts q = sS ts a q1 := by rw [aom, h]
theorem aeg {ts : List Tok} {k : Nat} {c : UInt8} {r : List Pc} (h : Sf ts k ((4, [c]) :: r)) (hc : c = 41 ∨ c = 125 ∨ c = 44 ∨ c = 59) : Fol ts (-1) k :=
 h.fol (fun _ => by rcases hc with rfl | rfl | rfl | rfl <;> refine ⟨?_, ?_, ?_, ?_⟩ <;> decide)
theorem atm {ts : List Tok} (p : Int) (s : Bs) (h : d7 s = 0) : BX ts (.name p s) := fun k rest hs => by
 rw [tkB] at hs
 obtain ⟨g1, g2, g3⟩ := (show Sf ts k ((1, s) :: rest) from hs).head
 dsimp only at g1 g2
 refine ⟨.name (a8 ts k).2.1 s, by rw [q6, q6], fun o ho => ⟨fun _ => ?_, fun h => absurd h (by show ¬ (6 : Int) < 5; decide)⟩⟩
 have hA : sA ts (k, o) = .ok (.name (a8 ts k).2.1 s, (k + 1, o)) := by
  rw [ack]
  dsimp only
  rw [g1, g2, h, if_neg (by decide), if_neg (by decide), if_neg (by decide), if_pos (by decide)]
 rw [ak0 hA, tkB]; rfl
theorem atj {ts : List Tok} (p : Int) (s : Bs) : BX ts (.text p s) := fun k rest hs => by
 rw [tkB] at hs
 obtain ⟨g1, g2, g3⟩ := (show Sf ts k ((2, s) :: rest) from hs).head
 dsimp only at g1 g2
 refine ⟨.text (a8 ts k).2.1 s, by rw [q6, q6], fun o ho => ⟨fun _ => ?_, fun h => absurd h (by show ¬ (6 : Int) < 5; decide)⟩⟩
 have hA : sA ts (k, o) = .ok (.text (a8 ts k).2.1 s, (k + 1, o)) := by
  rw [ack]
  dsimp only
  rw [g1, g2, if_pos rfl]
 rw [ak0 hA, tkB]; rfl
theorem aqe {ts : List Tok} (p : Int) (s : Bs) : BX ts (.regex p s) := fun k rest hs => by
 rw [tkB] at hs
 obtain ⟨g1, g2, g3⟩ := (show Sf ts k ((3, s) :: rest) from hs).head
 dsimp only at g1 g2
 refine ⟨.regex (a8 ts k).2.1 s, by rw [q6, q6], fun o ho => ⟨fun _ => ?_, fun h => absurd h (by show ¬ (6 : Int) < 5; decide)⟩⟩
 have hA : sA ts (k, o) = .ok (.regex (a8 ts k).2.1 s, (k + 1, o)) := by
  rw [ack]
  dsimp only
  rw [g1, g2, if_neg (by decide), if_pos rfl]
 rw [ak0 hA, tkB]; rfl
theorem are {ts : List Tok} (p : Int) {a : Ex} (hr : 0 ≤ rkX a) (h : BX ts a) : BX ts (.keyed p a) := fun k rest hs => by
 rw [tkB] at hs
 have hs1 : Sf ts k ((4, [123]) :: (tkX a 0 ++ ((4, [125]) :: rest))) := by
  have : (4, [123]) :: (p3 (rkX a) 0 (tkB a) ++ [(4, [125])]) ++ rest = (4, [123]) :: (tkX a 0 ++ ((4, [125]) :: rest)) := by unfold tkX; simp
  rw [this] at hs; exact hs
 obtain ⟨g1, g2, g3⟩ := hs1.head
 have g4 := g3.skip
 obtain ⟨e2, f1, f2⟩ := h.stop (need := 0) hr (by omega) g3 (aeg g4 (.inr (.inl rfl))) (by omega)
 dsimp only at g1 g2
 refine ⟨.keyed (a8 ts k).2.1 e2, by rw [q6, q6, f1], fun o ho => ⟨fun _ => ?_, fun h => absurd h (by show ¬ (6 : Int) < 5; decide)⟩⟩
 rw [dB] at ho
 have f3 := f2 (o + 1) (by unfold dP; show o + 1 + (ad3 (rkX a) 0 (dB a) : Int) ≤ 64; omega)
 have hA : sA ts (k, o) = .ok (.keyed (a8 ts k).2.1 e2, (k + 1 + (tkX a 0).length + 1, o)) := by
  rw [ack]
  dsimp only
  rw [g1, if_neg (by decide), if_neg (by decide), if_neg (by rintro ⟨g, _⟩; exact absurd g (by decide)), if_neg (by rintro ⟨g, _⟩; exact absurd g (by decide)), hs1.isM, if_pos (by decide)]
  unfold brM l9
  dsimp only
  rw [hs1.isM, if_pos (by decide), if_neg (by omega)]
  dsimp only
  rw [f3]
  dsimp only
  unfold m9
  dsimp only
  rw [show k + 1 + (tkX a ((0 : Nat) : Int)).length = k + 1 + (tkX a 0).length from rfl, g4.isM, if_pos (by decide)]
  dsimp only
  rw [show o + 1 - 1 = o by omega]
 rw [ak0 hA, tkB]
 simp only [List.length_append, List.length_cons, List.length_nil]
 unfold tkX
 rw [show k + 1 + (p3 (rkX a) 0 (tkB a)).length + 1 = k + ((p3 (rkX a) 0 (tkB a)).length + (0 + 1) + 1) by omega]
theorem aqj {ts : List Tok} (p : Int) {o1 : Bs} {a : Ex} (ho1 : o1 = [42] ∨ o1 = [43] ∨ o1 = [63]) (hr : 0 ≤ rkX a) (h : BX ts a) : BX ts (.unary p o1 a) := fun k rest hs => by
 rw [tkB] at hs
 have hs1 : Sf ts k (tkX a 5 ++ ((4, o1) :: rest)) := by
  have : p3 (rkX a) 5 (tkB a) ++ [(4, o1)] ++ rest = tkX a 5 ++ ((4, o1) :: rest) := by unfold tkX; simp
  rw [this] at hs; exact hs
 obtain ⟨e2, f1, f2⟩ := h.post hr (need := 5) (by omega) hs1
 have g4 := hs1.skip
 obtain ⟨g1, g2, g3⟩ := g4.head
 dsimp only at g1 g2
 refine ⟨.unary (a8 ts (k + (tkX a 5).length)).2.1 o1 e2, by rw [q6, q6, f1], fun o ho => ⟨fun _ => ?_, fun h => absurd h (by show ¬ (5 : Int) < 5; decide)⟩⟩
 rw [dB] at ho
 rw [f2 o ho, aos]
 dsimp only
 rw [g4.isM, g4.isM, g4.isM, if_pos (by rcases ho1 with rfl | rfl | rfl <;> decide), g2, tkB]
 simp only [List.length_append, List.length_cons, List.length_nil]
 rfl
theorem api {ts : List Tok} (p : Int) {o1 : Bs} {a b : Ex} (ho1 : 0 ≤ d4 o1) (hra : 0 ≤ rkX a) (ha : BX ts a) (hrb : 0 ≤ rkX b) (hb : BX ts b) : BX ts (.binary p o1 a b) := fun k rest hs => by
 obtain ⟨r, hr⟩ : ∃ r : Nat, d4 o1 = (r : Int) := ⟨(d4 o1).toNat, by omega⟩
 have hr4 := (agz o1).2
 rw [tkB, hr] at hs
 have hs1 : Sf ts k (tkX a r ++ ((4, o1) :: (tkX b ((r : Int) + 1) ++ rest))) := by
  have : p3 (rkX a) r (tkB a) ++ (4, o1) :: p3 (rkX b) ((r : Int) + 1) (tkB b) ++ rest = tkX a r ++ ((4, o1) :: (tkX b ((r : Int) + 1) ++ rest)) := by unfold tkX; simp
  rw [this] at hs; exact hs
 have g4 := hs1.skip
 obtain ⟨g1, g2, g3⟩ := g4.head
 dsimp only at g1 g2
 have hfa : Fol ts (r : Int) (k + (tkX a r).length) := g4.fol (fun _ => by
  dsimp only
  refine ⟨by omega, ?_, ?_, ?_⟩ <;> rintro rfl <;> exact absurd ho1 (by decide))
 obtain ⟨a2, f1, f2⟩ := ha.expr hra (need := r) (by omega) hs1 hfa
 have e1 : ((r + 1 : Nat) : Int) = (r : Int) + 1 := by omega
 by_cases hf : Fol ts (r : Int) (k + (tkX a r).length + 1 + (tkX b ((r : Int) + 1)).length)
 ·obtain ⟨b2, d1, d2⟩ := hb.stop hrb (need := r + 1) (by omega) (k := k + (tkX a r).length + 1) (rest := rest) (by rw [e1]; exact g3) (n := r) (by rw [e1]; exact hf) (by omega)
  rw [e1] at d2
  refine ⟨.binary (a8 ts (k + (tkX a r).length)).2.1 o1 a2 b2, by rw [q6, q6, f1, d1], fun o ho => ⟨fun h => absurd h (by show ¬ (5 : Int) ≤ d4 o1; omega), fun _ _ m hm => ?_⟩⟩
  rw [dB, hr] at ho
  have hm2 : (m : Int) ≤ r := by rw [← hr]; exact hm
  rw [f2 o (by unfold dP; omega) m (by omega), at6 (k := r) g1 (by rw [show ((k + (tkX a r).length, o) : PSx).1 = k + (tkX a r).length from rfl, g2, hr]) (by omega) (by omega)]
  dsimp only
  rw [d2 o (by unfold dP; omega)]
  dsimp only
  rw [g2, tkB, hr]
  simp only [List.length_append, List.length_cons]
  unfold tkX
  rw [show k + (p3 (rkX a) r (tkB a)).length + 1 + (p3 (rkX b) ((r : Int) + 1) (tkB b)).length = k + ((p3 (rkX a) r (tkB a)).length + ((p3 (rkX b) ((r : Int) + 1) (tkB b)).length + 1)) by omega]
 ·refine ⟨.binary p o1 a b, rfl, fun o ho => ⟨fun h => absurd h (by show ¬ (5 : Int) ≤ d4 o1; omega), fun _ hf2 => ?_⟩⟩
  exfalso
  apply hf
  rw [show rkX (.binary p o1 a b) = d4 o1 from rfl, hr, tkB, hr] at hf2
  simp only [List.length_append, List.length_cons] at hf2
  unfold tkX
  rw [show k + (p3 (rkX a) r (tkB a)).length + 1 + (p3 (rkX b) ((r : Int) + 1) (tkB b)).length = k + ((p3 (rkX a) r (tkB a)).length + ((p3 (rkX b) ((r : Int) + 1) (tkB b)).length + 1)) by omega]
  exact hf2
theorem alj {ts : List Tok} {k : Nat} {l : ExL} {rest : List Pc} (h : Sf ts k (tkR l ++ (4, [41]) :: rest)) : Fol ts (-1) k := by
 cases l with
 | nil => rw [tkR] at h; exact aeg (c := 41) h (.inl rfl)
 | cons a r => rw [tkR] at h; exact aeg (c := 44) h (.inr (.inr (.inl rfl)))
theorem at5 {ts : List Tok} : RX ts .nil := fun k rest hs => ⟨.nil, rfl, fun o b n ho hb hn => by
 rw [alf, if_pos (by rw [hn]; exact Nat.le_refl _), ExL.app_nil, tkR]; rfl⟩
theorem ath {ts : List Tok} {a : Ex} {l : ExL} (hr : 0 ≤ rkX a) (ha : BX ts a) (hl : RX ts l) : RX ts (.cons a l) := fun k rest hs => by
 rw [tkR] at hs
 have hs1 : Sf ts k ((4, [44]) :: (tkX a 0 ++ (tkR l ++ (4, [41]) :: rest))) := by
  have : (4, [44]) :: (p3 (rkX a) 0 (tkB a) ++ tkR l) ++ (4, [41]) :: rest = (4, [44]) :: (tkX a 0 ++ (tkR l ++ (4, [41]) :: rest)) := by unfold tkX; simp
  rw [this] at hs; exact hs
 obtain ⟨g1, g2, g3⟩ := hs1.head
 have g4 := g3.skip
 obtain ⟨a2, f1, f2⟩ := ha.stop (need := 0) hr (by omega) g3 (alj g4) (by omega)
 obtain ⟨l2, d1, d2⟩ := hl _ _ g4
 refine ⟨.cons a2 l2, by rw [afr, afr, f1, d1], fun o b n ho hb hn => ?_⟩
 rw [dA] at ho
 have hlen : (ExL.cons a l).len = l.len + 1 := rfl
 rw [alf, if_neg (by rw [hn, hlen]; omega), if_pos hb]
 unfold n0
 dsimp only
 rw [hs1.isM, if_pos (by decide)]
 dsimp only
 have f3 := f2 o (by unfold dP; show o + (ad3 (rkX a) 0 (dB a) : Int) ≤ 64; omega)
 rw [show ((0 : Nat) : Int) = 0 from rfl] at f3
 rw [f3]
 dsimp only
 rw [d2 o (b.snoc a2) n (by omega) (by rw [ExL.len_snoc]; omega) (by rw [ExL.len_snoc, hn, hlen]; omega), ExL.snoc_app, tkR]
 simp only [List.length_append, List.length_cons]
 unfold tkX
 rw [show k + 1 + (p3 (rkX a) 0 (tkB a)).length + (tkR l).length = k + ((p3 (rkX a) 0 (tkB a)).length + (tkR l).length + 1) by omega]
theorem as2 {ts : List Tok} (p : Int) {w : Bs} {a : Ex} {l : ExL} (hw : 0 < d7 w) (hn : ((ExL.cons a l).len : Int) = d7 w) (hr : 0 ≤ rkX a) (ha : BX ts a) (hl : RX ts l) : BX ts (.call p w (.cons a l)) := fun k rest hs => by
 rw [tkB, tkA] at hs
 have hs1 : Sf ts k ((1, w) :: (4, [40]) :: (tkX a 0 ++ (tkR l ++ (4, [41]) :: rest))) := by
  have : (1, w) :: (4, [40]) :: (p3 (rkX a) 0 (tkB a) ++ tkR l ++ [(4, [41])]) ++ rest = (1, w) :: (4, [40]) :: (tkX a 0 ++ (tkR l ++ (4, [41]) :: rest)) := by unfold tkX; simp
  rw [this] at hs; exact hs
 obtain ⟨g1, g2, g3⟩ := hs1.head
 have i3 := fun m => g3.isM m
 obtain ⟨_, _, g5⟩ := g3.head
 have g6 := g5.skip
 obtain ⟨a2, f1, f2⟩ := ha.stop (need := 0) hr (by omega) g5 (alj g6) (by omega)
 obtain ⟨l2, d1, d2⟩ := hl _ _ g6
 have g7 := g6.skip
 dsimp only at g1 g2
 refine ⟨.call (a8 ts k).2.1 w (.cons a2 l2), by rw [q6, q6, afr, afr, f1, d1], fun o ho => ⟨fun _ => ?_, fun h => absurd h (by show ¬ (6 : Int) < 5; decide)⟩⟩
 rw [dB, dA] at ho
 have f3 := f2 (o + 1) (by unfold dP; show o + 1 + (ad3 (rkX a) 0 (dB a) : Int) ≤ 64; omega)
 rw [show ((0 : Nat) : Int) = 0 from rfl] at f3
 have hlen : (ExL.cons a l).len = l.len + 1 := rfl
 have hnn : (d7 w).toNat = l.len + 1 := by omega
 have hR : sR ts (d7 w).toNat .nil (k + 1 + 1, o + 1) = .ok (.cons a2 l2, (k + 1 + 1 + (tkX a 0).length + (tkR l).length, o + 1)) := by
  rw [alf, if_neg (by rw [hnn]; exact Nat.not_succ_le_zero _), if_neg (by show ¬ (0 < 0); decide)]
  dsimp only
  rw [f3]
  dsimp only
  rw [d2 (o + 1) (ExL.nil.snoc a2) _ (by omega) (by show 0 < 1; decide) (by rw [hnn]; show _ = 1 + l.len; omega), ExL.snoc_app]
  rfl
 have hC : sC ts (k, o) = .ok (.call (a8 ts k).2.1 w (.cons a2 l2), (k + 1 + 1 + (tkX a 0).length + (tkR l).length + 1, o)) := by
  rw [at3 (by show (a8 ts k).1 ≠ 0; rw [g1]; decide)]
  unfold l9
  dsimp only
  rw [i3, if_pos (by decide), if_neg (by omega)]
  dsimp only
  rw [g2, hR]
  dsimp only
  unfold m9
  dsimp only
  rw [g7.isM, if_pos (by decide)]
  dsimp only
  rw [show o + 1 - 1 = o by omega]
 have hA : sA ts (k, o) = .ok (.call (a8 ts k).2.1 w (.cons a2 l2), (k + 1 + 1 + (tkX a 0).length + (tkR l).length + 1, o)) := by
  rw [ack]
  dsimp only
  rw [if_neg (by rw [g1]; decide), if_neg (by rw [g1]; decide), if_pos ⟨g1, by rw [g2]; exact hw⟩, hC]
 rw [ak0 hA, tkB, tkA]
 simp only [List.length_append, List.length_cons, List.length_nil]
 unfold tkX
 rw [show k + 1 + 1 + (p3 (rkX a) 0 (tkB a)).length + (tkR l).length + 1 = k + ((p3 (rkX a) 0 (tkB a)).length + (tkR l).length + (0 + 1) + 1 + 1) by omega]
mutual
theorem adt (ts : List Tok) : ∀ e : Ex, WG e → BX ts e
 | .name p s, h => by rw [WG] at h; exact atm p s h.2
 | .text p s, _ => atj p s
 | .regex p s, _ => aqe p s
 | .keyed p a, h => by rw [WG] at h; exact are p h.rk (adt ts a h)
 | .unary p o a, h => by rw [WG] at h; exact aqj p h.1 h.2.rk (adt ts a h.2)
 | .binary p o a b, h => by rw [WG] at h; exact api p h.1 h.2.1.rk (adt ts a h.2.1) h.2.2.rk (adt ts b h.2.2)
 | .call p w .nil, h => by rw [WG] at h; have h1 := h.2.1; have h2 := h.2.2.1; rw [← h2] at h1; exact absurd h1 (by decide)
 | .call p w (.cons a l), h => by
  rw [WG, WGl] at h
  exact as2 p h.2.1 h.2.2.1 h.2.2.2.1.rk (adt ts a h.2.2.2.1) (ar6 ts l h.2.2.2.2)
theorem ar6 (ts : List Tok) : ∀ l : ExL, WGl l → RX ts l
 | .nil, _ => at5
 | .cons a l, h => by rw [WGl] at h; exact ath h.1.rk (adt ts a h.1) (ar6 ts l h.2)
end
end Go.Proofs.YtifajndacnfcbaaDoor
namespace Go.Proofs.YtifajndacnfcbaaDoor
open Go Go.RowKit
def tkD (d : l4) : List Pc := (1, [108, 101, 116]) :: (1, d.2.1) :: (4, [61]) :: (tkX d.2.2 0 ++ [(4, [59])])
theorem an9 (e : Ex) (n : Int) : n6 (pcX e n) = tkX e n := by unfold pcX tkX; rw [aap, adp]
theorem asl (d : l4) : n6 (pcD d) = tkD d := by
 unfold pcD tkD
 rw [l7, l7, an9, adj, aa4, adj, aa4, o6, aa4, s8, o6, aa4, s8, List.append_assoc]
 rfl
theorem asy (l : List l4) (a : Ex) : n6 (pcP l a) = l.flatMap tkD ++ tkX a 0 := by
 unfold pcP
 rw [l7, l7, an9, aa4, s8, List.append_nil]
 congr 1
 induction l with
 | nil => rfl
 | cons d l ih => rw [List.flatMap_cons, List.flatMap_cons, l7, asl, ih]
theorem ag2 : ∀ e : Ex, WG e → ∃ x y, tkB e = x :: y ∧ x ≠ ((1, [108, 101, 116]) : Pc)
 | .name p s, h => by
  rw [WG] at h
  exact ⟨_, _, by rw [tkB], fun g => by cases g; exact absurd h.2 (by decide)⟩
 | .text p s, _ => ⟨_, _, by rw [tkB], fun g => by cases g⟩
 | .regex p s, _ => ⟨_, _, by rw [tkB], fun g => by cases g⟩
 | .keyed p a, _ => ⟨_, _, by rw [tkB], fun g => by cases g⟩
 | .unary p o a, h => by
  rw [WG] at h
  obtain ⟨x, y, e, hx⟩ := ag2 a h.2
  rw [tkB]
  unfold p3
  split
  ·exact ⟨(4, [40]), _, rfl, fun g => by cases g⟩
  ·rw [e]; exact ⟨x, _, rfl, hx⟩
 | .binary p o a b, h => by
  rw [WG] at h
  obtain ⟨x, y, e, hx⟩ := ag2 a h.2.1
  rw [tkB]
  unfold p3
  split
  ·exact ⟨(4, [40]), _, rfl, fun g => by cases g⟩
  ·rw [e]; exact ⟨x, _, rfl, hx⟩
 | .call p w l, h => by
  rw [WG] at h
  exact ⟨_, _, by rw [tkB], fun g => by cases g; exact absurd h.2.1 (by decide)⟩
theorem aqp {e : Ex} (h : WG e) : ∃ x y, tkX e 0 = x :: y ∧ x ≠ ((1, [108, 101, 116]) : Pc) := by
 unfold tkX p3
 split
 ·exact ⟨(4, [40]), _, rfl, fun g => by cases g⟩
 ·exact ag2 e h
def al5 (d : l4) : l4 := (0, d.2.1, q6 d.2.2)
theorem aoq {ts : List Tok} : ∀ (l : List l4) (f : Nat) (acc : List l4) (k : Nat) (x : Pc) (rest : List Pc), (∀ d ∈ l, WGd d ∧ dP d.2.2 0 ≤ 64) → l.length < f → Sf ts k (l.flatMap tkD ++ x :: rest) → x ≠ (1, [108, 101, 116]) →
  ∃ l2, l2.map al5 = l.map al5 ∧ pD ts (BIG ts) f acc (k, 0) = .ok (acc ++ l2, (k + (l.flatMap tkD).length, 0))
 | _, 0, _, _, _, _, _, h, _, _ => absurd h (Nat.not_lt_zero _)
 | [], f + 1, acc, k, x, rest, _, _, hs, hx => by
  obtain ⟨g1, g2, _⟩ := (show Sf ts k (x :: rest) from hs).head
  refine ⟨[], rfl, ?_⟩
  rw [ajp, if_neg]
  ·rw [List.append_nil]; rfl
  ·rintro ⟨h1, h2⟩
   dsimp only at h1 h2
   rw [g1] at h1; rw [g2] at h2
   exact hx (Prod.ext h1 h2)
 | d :: l, f + 1, acc, k, x, rest, hd, hf, hs, hx => by
  obtain ⟨hw, hdp⟩ := hd d (List.mem_cons_self ..)
  have hs1 : Sf ts k ((1, [108, 101, 116]) :: (1, d.2.1) :: (4, [61]) :: (tkX d.2.2 0 ++ ((4, [59]) :: (l.flatMap tkD ++ x :: rest)))) := by
   have : (d :: l).flatMap tkD ++ x :: rest = (1, [108, 101, 116]) :: (1, d.2.1) :: (4, [61]) :: (tkX d.2.2 0 ++ ((4, [59]) :: (l.flatMap tkD ++ x :: rest))) := by rw [List.flatMap_cons]; unfold tkD; simp
   rw [this] at hs; exact hs
  obtain ⟨g1, g2, g3⟩ := hs1.head
  obtain ⟨b1, b2, b3⟩ := g3.head
  have i3 := fun m => b3.isM m
  obtain ⟨_, _, b4⟩ := b3.head
  have b5 := b4.skip
  have i5 := fun m => b5.isM m
  obtain ⟨_, _, b6⟩ := b5.head
  dsimp only at g1 g2 b1 b2
  obtain ⟨e2, f1, f2⟩ := (adt ts d.2.2 hw.2.2).stop (need := 0) hw.2.2.rk (by omega) b4 (aeg b5 (.inr (.inr (.inr rfl)))) (by omega)
  have f3 := f2 0 (by rw [show ((0 : Nat) : Int) = 0 from rfl]; omega)
  rw [show ((0 : Nat) : Int) = 0 from rfl] at f3
  obtain ⟨l2, d1, d2⟩ := aoq l f (acc ++ [((a8 ts (k + 1)).2.1, d.2.1, e2)]) _ x rest (fun y hy => hd y (List.mem_cons_of_mem _ hy)) (by rw [List.length_cons] at hf; omega) b6 hx
  refine ⟨((a8 ts (k + 1)).2.1, d.2.1, e2) :: l2, by rw [List.map_cons, List.map_cons, d1]; unfold al5; dsimp only; rw [f1], ?_⟩
  rw [ajp]
  dsimp only
  rw [if_pos ⟨g1, g2⟩, if_neg (by rintro (h | h); exact h b1; rw [b2] at h; exact h hw.2.1)]
  unfold n0
  dsimp only
  rw [show k + 2 = k + 1 + 1 from rfl, i3, if_pos (by decide)]
  dsimp only
  rw [f3]
  dsimp only
  rw [i5, if_pos (by decide)]
  dsimp only
  rw [b2, d2, List.append_assoc, List.flatMap_cons]
  unfold tkD
  simp only [List.length_append, List.length_cons, List.length_nil, List.singleton_append]
  rw [show ∀ A B : Nat, k + 1 + 1 + 1 + A + 1 + B = k + (A + (0 + 1) + 1 + 1 + 1 + B) from fun A B => by omega]
theorem apb (l : List l4) : l.length ≤ (l.flatMap tkD).length := by
 induction l with
 | nil => exact Nat.le_refl _
 | cons d l ih => rw [List.flatMap_cons, List.length_append, List.length_cons]; unfold tkD; simp only [List.length_cons]; unfold tkD at ih; omega
theorem akq {ts : List Tok} {l : List l4} {a : Ex} (hl : ∀ d ∈ l, WGd d ∧ dP d.2.2 0 ≤ 64) (ha : WG a) (hd : dP a 0 ≤ 64) (hs : ts.map kt = l.flatMap tkD ++ tkX a 0 ++ [((0, []) : Pc)]) :
  ∃ l2 a2, aaa ts = .ok (l2, a2) ∧ l2.map al5 = l.map al5 ∧ q6 a2 = q6 a := by
 obtain ⟨x, y, hx, hn⟩ := aqp ha
 have h0 : Sf ts 0 (l.flatMap tkD ++ (tkX a 0 ++ [((0, []) : Pc)])) := by unfold Sf; rw [List.drop_zero, hs, List.append_assoc]
 have hlen : l.length ≤ ts.length := by
  have h1 := congrArg List.length hs
  rw [List.length_map, List.length_append, List.length_append] at h1
  have := apb l
  omega
 obtain ⟨l2, d1, d2⟩ := aoq l (BIG ts) [] 0 x (y ++ [((0, []) : Pc)]) hl (by unfold BIG; omega) (by rw [hx] at h0; exact h0) hn
 have h1 := h0.skip
 have h2 := h1.skip
 have hf : Fol ts (-1) (0 + (l.flatMap tkD).length + (tkX a 0).length) := h2.fol (fun h => absurd (show (0 : Int) = 4 from h) (by decide))
 obtain ⟨a2, f1, f2⟩ := (adt ts a ha).stop (need := 0) ha.rk (by omega) h1 hf (by omega)
 have f3 := f2 0 (by rw [show ((0 : Nat) : Int) = 0 from rfl]; omega)
 rw [show ((0 : Nat) : Int) = 0 from rfl] at f3
 refine ⟨l2, a2, ?_, d1, f1⟩
 rw [abk, d2]
 unfold anr
 dsimp only
 rw [f3]
 dsimp only
 rw [h2.head.1, if_pos rfl]
 rfl
mutual
theorem ahb {ts : List Tok} (hG : ∀ k ∈ ts, k.1 ≠ 0 → adn k) : ∀ e : Ex, WXt ts e → WG e
 | .name p s, h => by rw [WXt] at h; rw [WG]; exact ⟨show adn (1, p, s) from hG _ h.1 (by show (1 : Int) ≠ 0; decide), h.2⟩
 | .text p s, h => by rw [WG]; trivial
 | .regex p s, h => by rw [WXt] at h; rw [WG]; exact show adn (3, p, s) from hG _ h (by show (3 : Int) ≠ 0; decide)
 | .keyed p a, h => by rw [WXt] at h; rw [WG]; exact ahb hG a h.2
 | .unary p o a, h => by rw [WXt] at h; rw [WG]; exact ⟨h.1.2, ahb hG a h.2⟩
 | .binary p o a b, h => by rw [WXt] at h; rw [WG]; exact ⟨h.1.2.2, ahb hG a h.2.1, ahb hG b h.2.2⟩
 | .call p w l, h => by rw [WXt] at h; rw [WG]; exact ⟨show adn (1, p, w) from hG _ h.1 (by show (1 : Int) ≠ 0; decide), h.2.1, h.2.2.1, aqv hG l h.2.2.2⟩
theorem aqv {ts : List Tok} (hG : ∀ k ∈ ts, k.1 ≠ 0 → adn k) : ∀ l : ExL, WXl ts l → WGl l
 | .nil, _ => by rw [WGl]; trivial
 | .cons a r, h => by rw [WXl] at h; rw [WGl]; exact ⟨ahb hG a h.1, aqv hG r h.2⟩
end
theorem aq1 {ts : List Tok} : ∀ {f : Nat} {l : List l4} {q : PSx} {l2 : List l4} {q2 : PSx}, q.2 = 0 → (∀ d ∈ l, dP d.2.2 0 ≤ 64) → pD ts (BIG ts) f l q = .ok (l2, q2) → (∀ d ∈ l2, dP d.2.2 0 ≤ 64) ∧ q2.2 = 0
 | 0, _, _, _, _, _, _, h => by rw [pD] at h; cases h
 | f + 1, l, q, l2, q2, hq, hl, h => by
  rw [ajp] at h
  split at h
  ·split at h
   ·cases h
   ·split at h
    ·cases h
    ·rename_i q3 h3
     obtain ⟨_, rfl⟩ := z7 h3
     split at h
     ·cases h
     ·rename_i b q4 h4
      have e1 := (dep ts _).e 0 _ _ _ (Nat.zero_le _) (by dsimp only; omega) h4
      have e2 := (ab2 h4).2.2
      dsimp only at e1 e2
      split at h
      ·cases h
      ·rename_i q5 h5
       obtain ⟨_, rfl⟩ := z7 h5
       refine aq1 (by dsimp only; omega) (fun d hd => ?_) h
       rcases List.mem_append.1 hd with hd | hd
       ·exact hl d hd
       ·rw [List.mem_singleton.1 hd]
        rw [show ((0 : Nat) : Int) = 0 from rfl] at e1
        dsimp only; omega
  ·cases h; exact ⟨hl, hq⟩
theorem ald : ∀ {l m : List l4}, l.map al5 = m.map al5 → aea l = aea m
 | [], [], _ => rfl
 | [], _ :: _, h => by cases h
 | _ :: _, [], h => by cases h
 | a :: l, b :: m, h => by
  rw [List.map_cons, List.map_cons, List.cons.injEq] at h
  have ih := ald h.2
  unfold aea at ih ⊢
  rw [List.flatMap_cons, List.flatMap_cons, ih]
  have h1 := h.1
  unfold al5 at h1
  rw [Prod.mk.injEq, Prod.mk.injEq] at h1
  unfold alg
  rw [h1.2.1, alw h1.2.2]
theorem alz {t : Bs} {l : List l4} {a : Ex} (h : p4 t = .ok (l, a)) (hp : (j4 l a).length ≤ 4096) : ∃ l2 a2, p4 (j4 l a) = .ok (l2, a2) ∧ j4 l2 a2 = j4 l a ∧ l2.length = l.length := by
 obtain ⟨h0, h1⟩ := ajn h
 obtain ⟨w1, w2, _⟩ := ajr h1
 have hs := ab1 h0
 have hg := x0 (t := t) (a := 0) ⟨by omega, by omega⟩
 obtain ⟨ks, e, hk⟩ := afd hg.1 hg.2 (afq h0 hs) (fun k hk => by cases hk)
 have hG : ∀ k ∈ (g0 t).1, k.1 ≠ 0 → adn k := fun k hk2 hn => by
  rw [e] at hk2
  rcases List.mem_append.1 hk2 with hk2 | hk2
  ·exact (hk k hk2).1
  ·rw [List.mem_singleton.1 hk2] at hn; exact absurd rfl hn
 have hdep : (∀ d ∈ l, dP d.2.2 0 ≤ 64) ∧ dP a 0 ≤ 64 := by
  rw [abk] at h1
  unfold anr at h1
  split at h1
  ·cases h1
  ·rename_i l2 q2 h2
   obtain ⟨e1, e2⟩ := aq1 (show ((0, 0) : PSx).2 = 0 from rfl) (fun d hd => by cases hd) h2
   split at h1
   ·cases h1
   ·rename_i a3 q3 h3
    have e3 := (dep _ _).e 0 _ _ _ (Nat.zero_le _) (by omega) h3
    rw [show ((0 : Nat) : Int) = 0 from rfl] at e3
    split at h1
    ·cases h1; exact ⟨e1, by omega⟩
    ·cases h1
 have wl : ∀ d ∈ l, WGd d := fun d hd => ⟨show adn (1, d.1, d.2.1) from hG _ (w1 d hd).1.1 (by show (1 : Int) ≠ 0; decide), (w1 d hd).1.2, ahb hG _ (w1 d hd).2⟩
 have wa := ahb hG a w2
 obtain ⟨m, g1, g2⟩ := aqn (aon a wa l wl) (by rw [aqz]; exact hp)
 rw [aqz] at g1
 rw [asy] at g2
 obtain ⟨l2, a2, f1, f2, f3⟩ := akq (fun d hd => ⟨wl d hd, hdep.1 d hd⟩) wa hdep.2 g2
 refine ⟨l2, a2, ?_, ?_, ?_⟩
 ·unfold p4; rw [g1, if_pos rfl]; exact f1
 ·unfold j4; rw [ald f2, alw f3]
 ·have := congrArg List.length f2; rwa [List.length_map, List.length_map] at this
end Go.Proofs.YtifajndacnfcbaaDoor
set_option maxRecDepth 100000
namespace Go.Proofs.YtifajndacnfcbaaDoor
open Go Go.RowKit
theorem ak9 : l6 Tryd.prog 8 = true := by kernel_rfl
theorem aid : e9 Tryd.prog 26 0 = some 0 := by kernel_rfl
def aej (text : List UInt8) (l1 : List l4) (a1 : Ex) (l2 : List l4) (a2 : Ex) (K : Bool → Prop) : Prop :=
 (p4 text = .ok (l1, a1)) ∧
 (∀ (qb1 : Nat) (dw1 : Value) (mv1 : Value) (ds1 : List aa9) (R1 : List (Nat × Obj)) (B : List (Nat × Obj)), (acp B qb1 dw1 mv1 ds1 R1 l1 a1 ∧ ∀ x ∈ ([] : List (Nat × Obj)), x ∈ B) →
  (acp B qb1 dw1 mv1 ds1 R1 l1 a1 ∧ OKP l1 a1) ∧
  (if (decide (4096 < ((j4 l1 a1).length : Int))) = true then
   K true
  else
   (p4 (j4 l1 a1) = .ok (l2, a2)) ∧
   (∀ (qb2 : Nat) (dw2 : Value) (mv2 : Value) (ds2 : List aa9) (R2 : List (Nat × Obj)) (B_1' : List (Nat × Obj)), (acp B_1' qb2 dw2 mv2 ds2 R2 l2 a2 ∧ ∀ x ∈ B, x ∈ B_1') →
    (acp B_1' qb2 dw2 mv2 ds2 R2 l2 a2 ∧ OKP l2 a2) ∧
    ((decide (j4 l2 a2 = j4 l1 a1)) = true → ((qb2, Obj.cells [dw2, mv2].toArray 39 (0, 0)) ∈ B_1') ∧ (afk dw2 41 3 ds2.length (ds2.flatMap ac8) R2) ∧ ((qb1, Obj.cells [dw1, mv1].toArray 39 (0, 0)) ∈ B_1') ∧ (afk dw1 41 3 ds1.length (ds1.flatMap ac8) R1)) ∧
    K ((decide (j4 l2 a2 = j4 l1 a1)) && (decide ((ds2.length : Int) = (ds1.length : Int)))))))
theorem ajh (te : TypeId) (fre : Nat × Nat) (text : List UInt8) (l1 : List l4) (a1 : Ex) (l2 : List l4) (a2 : Ex) (K : Bool → Prop) (h : aej text l1 a1 l2 a2 K) :
  d8 Tryd.prog 5 [st text] [(0, .cells [st ([124] : List UInt8), st ([38, 45] : List UInt8), st ([62, 62] : List UInt8), st ([126] : List UInt8), st ([46] : List UInt8)].toArray te fre)] [] (fun o => (∃ (v : Bool), K v ∧ o = .ret (zB v) []) ∨ (False)) := by
 unfold aej at h
 refine c7 (n := 57) (L0 := [(0, st text)]) Tryd.func5 rfl rfl rfl rfl (fun w0 M Q hE => ?_)
 refine WC.newPool ?_
 refine a7 (fun _ hK => ?_)
 refine a6 ?_
 refine wA ?_
 refine WL.nil ?_
 refine kg (hK [(0, st text)] _ ?_)
 refine a7 (fun _ hK_1' => ?_)
 refine a7 (fun _ hK_2' => ?_)
 refine a6 ?_
 refine WL.cv ⟨_, _, _, EN.fn ak9 rfl, afl te fre, Rd.old⟩ rfl rfl rfl ?_
 refine wv (OV.not rfl) ?_
 refine WL.nil ?_
 refine kg (hK_2' [(0, st text), (9, zB false)] _ ?_)
 refine d6 rfl ?_
 refine c5 ?_
 refine kg (hK_1' [(0, st text)] _ ?_)
 refine a7 (fun _ hK_3' => ?_)
 refine a6 ?_
 refine wm ?_
 obtain ⟨o, h⟩ := h
 refine WL.callS aff rfl (afy te fre text ([] : List (Nat × Obj)) l1 a1 o) rfl ⟨.inr (List.mem_of_getElem? (i := 0) rfl), trivial⟩ rfl rfl (fun r H' hS => ?_) (fun c H' hS => ?_)
 ·obtain ⟨qb1, dw1, mv1, ds1, R1, B, hc, ho⟩ := hS
  cases ho
  replace h := h qb1 dw1 mv1 ds1 R1 B hc
  refine wm ?_
  refine wv (OV.extract 0 rfl rfl) ?_
  refine wv (OV.extract 1 rfl rfl) ?_
  refine WL.make (MV.alloc aal) rfl rfl rfl (fun b => ?_)
  refine wA ?_
  refine WL.storeW (vs := [zI 0, zI 0, st []]) 0 rfl rfl rfl rfl rfl n4 rfl rfl rfl ?_
  refine WL.nil ?_
  refine kg (hK_3' [(3, zP qb1), (4, zP b)] _ ?_)
  refine a7 (fun _ hK_4' => ?_)
  refine a7 (fun _ hK_5' => ?_)
  refine a6 ?_
  refine wv (OV.loadR rfl (At.own 0 rfl) o0) ?_
  refine wv (OV.build rfl (cs := [zI 0, zI 0, st []]) rfl) ?_
  refine wv (OV.cast (OV.neqF (rs := [decide ((0 : Int) = 0), decide ((0 : Int) = 0), decide (([] : List UInt8) = [])]) rfl rfl Tryd.underlying26 aa5 acx ⟨rfl, aan, ⟨_, _, rfl, rfl, p7.int Tryd.underlying24⟩, ⟨rfl, b9, ⟨_, _, rfl, rfl, p7.int Tryd.underlying3⟩, ⟨rfl, c8, ⟨_, _, rfl, rfl, p7.str Tryd.underlying9⟩, trivial⟩⟩⟩) (v' := zB false) rfl) ?_
  refine WL.nil ?_
  refine kg (hK_5' [(3, zP qb1), (4, zP b), (17, zB false)] _ ?_)
  refine d6 rfl ?_
  refine c5 ?_
  refine kg (hK_4' [(3, zP qb1)] _ ?_)
  refine a7 (fun _ hK_6' => ?_)
  refine a6 ?_
  refine wm ?_
  obtain ⟨o_1', h⟩ := h
  refine WL.cv ⟨_, _, _, EN.fn afw rfl, aez te fre B qb1 dw1 mv1 ds1 R1 l1 a1 o_1', ak6.pool 1 rfl (fun _ h => h)⟩ rfl rfl rfl ?_
  refine wA ?_
  refine WL.nil ?_
  refine kg (hK_6' [(3, zP qb1), (5, st (j4 l1 a1))] _ ?_)
  refine a7 (fun _ hK_7' => ?_)
  refine a7 (fun _ hK_8' => ?_)
  refine a6 ?_
  refine wm ?_
  refine wv (OV.len rfl d5) ?_
  refine wv (OV.gtr rfl rfl) ?_
  refine WL.nil ?_
  refine kg (hK_8' [(3, zP qb1), (5, st (j4 l1 a1)), (29, zB (decide (4096 < ((j4 l1 a1).length : Int))))] _ ?_)
  refine b8 (b := decide (4096 < ((j4 l1 a1).length : Int))) rfl (fun hb => ?_) (fun hb => ?_)
  ·replace h := j3 h hb
   refine a7 (fun _ hK_9' => ?_)
   refine a6 ?_
   refine wA ?_
   refine WL.nil ?_
   refine kg (hK_9' [(2, zB true)] _ ?_)
   refine c9 ?_
   exact hE.ret [] rfl rfl (.inl ⟨_, h, rfl⟩) (e7.of1 rfl (RV.tmp rfl))
  ·replace h := j0 h hb
   refine c5 ?_
   refine kg (hK_7' [(3, zP qb1), (5, st (j4 l1 a1))] _ ?_)
   refine a7 (fun _ hK_10' => ?_)
   refine a6 ?_
   refine wm ?_
   obtain ⟨o_2', h⟩ := h
   refine WL.pick (H' := [pool B, HA.blk b (.cells [zI 0, zI 0, st []].toArray 26 (0, 0))]) [1, 0] rfl rfl ?_
   refine WL.callS aff rfl (afy te fre (j4 l1 a1) B l2 a2 o_2') rfl ⟨.inr (List.mem_of_getElem? (i := 0) rfl), trivial⟩ rfl rfl (fun r H' hS => ?_) (fun c H' hS => ?_)
   ·obtain ⟨qb2, dw2, mv2, ds2, R2, B_1', hc, ho⟩ := hS
    cases ho
    replace h := h qb2 dw2 mv2 ds2 R2 B_1' hc
    refine wm ?_
    refine wv (OV.extract 0 rfl rfl) ?_
    refine wv (OV.extract 1 rfl rfl) ?_
    refine WL.make (MV.alloc aal) rfl rfl rfl (fun b_1' => ?_)
    refine wA ?_
    refine WL.storeW (vs := [zI 0, zI 0, st []]) 0 rfl rfl rfl rfl rfl n4 rfl rfl rfl ?_
    refine WL.nil ?_
    refine kg (hK_10' [(3, zP qb1), (5, st (j4 l1 a1)), (6, zP qb2), (7, zP b_1')] _ ?_)
    refine a7 (fun _ hK_11' => ?_)
    refine abz [] h8 (by kernel_rfl) rfl (fun T hT => ?_)
    refine fv (fun _ => OV.loadR rfl (At.own 0 rfl) o0) ?_
    refine fv (fun _ => OV.build rfl (cs := [zI 0, zI 0, st []]) rfl) ?_
    refine fv (fun _ => OV.cast (OV.eqlF (rs := [decide ((0 : Int) = 0), decide ((0 : Int) = 0), decide (([] : List UInt8) = [])]) rfl rfl Tryd.underlying26 aa5 acx ⟨rfl, aan, ⟨_, _, rfl, rfl, p7.int Tryd.underlying24⟩, ⟨rfl, b9, ⟨_, _, rfl, rfl, p7.int Tryd.underlying3⟩, ⟨rfl, c8, ⟨_, _, rfl, rfl, p7.str Tryd.underlying9⟩, trivial⟩⟩⟩) (v' := zB true) rfl) ?_
    refine fv (fun _ => OV.move rfl) ?_
    refine fv (fun _ => OV.move rfl) ?_
    obtain ⟨o_3', h⟩ := h
    refine FL.cv (fun _ => ⟨_, _, _, EN.fn afw rfl, aez te fre B_1' qb2 dw2 mv2 ds2 R2 l2 a2 o_3', ak6.pool 1 rfl (fun _ h => h)⟩) rfl rfl (fun _ => rfl) rfl ?_
    refine fv (fun _ => OV.move rfl) ?_
    refine fv (fun _ => OV.eqlS rfl rfl) ?_
    refine fv (fun _ => OV.pickT rfl rfl) ?_
    refine fv (fun _ => OV.move rfl) ?_
    obtain ⟨o_8', h⟩ := h
    refine FL.cut 12 rfl (fun _ => [(56, zB ((decide (j4 l2 a2 = j4 l1 a1)) && (decide ((ds2.length : Int) = (ds1.length : Int)))))]) ?_ (fun K0_12' hK_12' => ?_)
    rotate_left
    ·refine FL.split (decide (j4 l2 a2 = j4 l1 a1)) (fun hb => ?_) (fun hb => ?_)
     ·obtain ⟨o_4', o_5', o_6', o_7'⟩ := o_8' hb
      refine FL.set 44 (fun _ => rfl) (congrArg zB hb) ?_
      refine fv (fun _ => OV.move rfl) ?_
      refine fv (fun _ => OV.nilCheck rfl) ?_
      refine fv (fun _ => OV.fieldAddr0 rfl y8) ?_
      refine fv (fun _ => OV.load rfl (At.pool 1 rfl o_4') rfl adi) ?_
      refine fv (fun _ => OV.lenLaid rfl acw o_5') ?_
      refine fv (fun _ => OV.move rfl) ?_
      refine fv (fun _ => OV.nilCheck rfl) ?_
      refine fv (fun _ => OV.fieldAddr0 rfl y8) ?_
      refine fv (fun _ => OV.load rfl (At.pool 1 rfl o_6') rfl adi) ?_
      refine fv (fun _ => OV.lenLaid rfl acw o_7') ?_
      refine fv (fun _ => OV.eql rfl rfl) ?_
      refine fv (fun _ => OV.pickT rfl rfl) ?_
      refine FL.set 56 (fun _ => rfl) (bT (v := decide ((ds2.length : Int) = (ds1.length : Int))) hb) ?_
      exact FL.weak (L' := fun _ => [(56, zB ((decide (j4 l2 a2 = j4 l1 a1)) && (decide ((ds2.length : Int) = (ds1.length : Int)))))]) (fun _ => ⟨rfl, trivial⟩) (FL.nil hK_12')
     ·refine FL.set 44 (fun _ => rfl) (congrArg zB hb) ?_
      refine FL.skip rfl (fun _ => rfl) rfl rfl ?_
      refine FL.skip rfl (fun _ => rfl) rfl rfl ?_
      refine FL.skip rfl (fun _ => rfl) rfl rfl ?_
      refine FL.skip rfl (fun _ => rfl) rfl rfl ?_
      refine FL.skip rfl (fun _ => rfl) rfl rfl ?_
      refine FL.skip rfl (fun _ => rfl) rfl rfl ?_
      refine FL.skip rfl (fun _ => rfl) rfl rfl ?_
      refine FL.skip rfl (fun _ => rfl) rfl rfl ?_
      refine FL.skip rfl (fun _ => rfl) rfl rfl ?_
      refine FL.skip rfl (fun _ => rfl) rfl rfl ?_
      refine FL.skip rfl (fun _ => rfl) rfl rfl ?_
      refine fv (fun _ => OV.pickF rfl rfl) ?_
      refine FL.set 56 (fun _ => rfl) (bF (v := decide ((ds2.length : Int) = (ds1.length : Int))) hb) ?_
      exact FL.weak (L' := fun _ => [(56, zB ((decide (j4 l2 a2 = j4 l1 a1)) && (decide ((ds2.length : Int) = (ds1.length : Int)))))]) (fun _ => ⟨rfl, trivial⟩) (FL.nil hK_12')
    refine fv (fun _ => OV.assign rfl) ?_
    refine FL.weak (L' := fun _ => [(2, zB ((decide (j4 l2 a2 = j4 l1 a1)) && (decide ((ds2.length : Int) = (ds1.length : Int)))))]) (fun _ => ⟨rfl, trivial⟩) (FL.nil (hT (fun _ => [(2, zB ((decide (j4 l2 a2 = j4 l1 a1)) && (decide ((ds2.length : Int) = (ds1.length : Int)))))]) (fun _ => ?_)))
    refine kg (hK_11' [(2, zB ((decide (j4 l2 a2 = j4 l1 a1)) && (decide ((ds2.length : Int) = (ds1.length : Int)))))] _ ?_)
    refine c9 ?_
    exact hE.ret [] rfl rfl (.inl ⟨_, h, rfl⟩) (e7.of1 rfl (RV.tmp rfl))
   ·obtain ⟨qb2, dw2, mv2, ds2, R2, B_1', hc, ho⟩ := hS
    cases ho
 ·obtain ⟨qb1, dw1, mv1, ds1, R1, B, hc, ho⟩ := hS
  cases ho
def af0 (text : List UInt8) (c1 : Int) (p1 : Int) (K : Bool → Prop) : Prop :=
 (p4 text = .error (c1, p1)) ∧
 (∀ (_B : List (Nat × Obj)), True →
  (¬ (c1 = 0)) ∧
  K (!decide (c1 = 0)))
theorem aph (te : TypeId) (fre : Nat × Nat) (text : List UInt8) (c1 : Int) (p1 : Int) (K : Bool → Prop) (h : af0 text c1 p1 K) :
  d8 Tryd.prog 5 [st text] [(0, .cells [st ([124] : List UInt8), st ([38, 45] : List UInt8), st ([62, 62] : List UInt8), st ([126] : List UInt8), st ([46] : List UInt8)].toArray te fre)] [] (fun o => (∃ (v : Bool), K v ∧ o = .ret (zB v) []) ∨ (False)) := by
 unfold af0 at h
 refine c7 (n := 57) (L0 := [(0, st text)]) Tryd.func5 rfl rfl rfl rfl (fun w0 M Q hE => ?_)
 refine WC.newPool ?_
 refine a7 (fun _ hK => ?_)
 refine a6 ?_
 refine wA ?_
 refine WL.nil ?_
 refine kg (hK [(0, st text)] _ ?_)
 refine a7 (fun _ hK_1' => ?_)
 refine a7 (fun _ hK_2' => ?_)
 refine a6 ?_
 refine WL.cv ⟨_, _, _, EN.fn ak9 rfl, afl te fre, Rd.old⟩ rfl rfl rfl ?_
 refine wv (OV.not rfl) ?_
 refine WL.nil ?_
 refine kg (hK_2' [(0, st text), (9, zB false)] _ ?_)
 refine d6 rfl ?_
 refine c5 ?_
 refine kg (hK_1' [(0, st text)] _ ?_)
 refine a7 (fun _ hK_3' => ?_)
 refine a6 ?_
 refine wm ?_
 obtain ⟨o, h⟩ := h
 refine WL.callS aff rfl (amx te fre text ([] : List (Nat × Obj)) c1 p1 o) rfl ⟨.inr (List.mem_of_getElem? (i := 0) rfl), trivial⟩ rfl rfl (fun r H' hS => ?_) (fun c H' hS => ?_)
 ·obtain ⟨B, hc, ho⟩ := hS
  cases ho
  replace h := h B hc
  refine wm ?_
  refine wv (OV.extract 0 rfl rfl) ?_
  refine wv (OV.extract 1 rfl rfl) ?_
  refine WL.make (MV.alloc aal) rfl rfl rfl (fun b => ?_)
  refine wA ?_
  refine WL.storeW (vs := [zI c1, zI p1, st []]) 0 rfl rfl rfl rfl rfl n4 rfl rfl rfl ?_
  refine WL.nil ?_
  refine kg (hK_3' [(3, Value.pointer none), (4, zP b)] _ ?_)
  refine a7 (fun _ hK_4' => ?_)
  refine a7 (fun _ hK_5' => ?_)
  refine a6 ?_
  refine wv (OV.loadR rfl (At.own 0 rfl) o0) ?_
  refine wv (OV.build rfl (cs := [zI 0, zI 0, st []]) rfl) ?_
  obtain ⟨o_1', h⟩ := h
  refine wv (OV.cast (OV.neqF (rs := [decide (c1 = 0), decide (p1 = 0), decide (([] : List UInt8) = [])]) rfl rfl Tryd.underlying26 aa5 acx ⟨rfl, aan, ⟨_, _, rfl, rfl, p7.int Tryd.underlying24⟩, ⟨rfl, b9, ⟨_, _, rfl, rfl, p7.int Tryd.underlying3⟩, ⟨rfl, c8, ⟨_, _, rfl, rfl, p7.str Tryd.underlying9⟩, trivial⟩⟩⟩) (v' := zB true) (by rw [decide_eq_false o_1']; rfl)) ?_
  refine WL.nil ?_
  refine kg (hK_5' [(3, Value.pointer none), (4, zP b), (17, zB true)] _ ?_)
  refine g8 rfl ?_
  refine a7 (fun _ hK_6' => ?_)
  refine a6 ?_
  refine wm ?_
  refine wv (OV.eqlPN rfl rfl Tryd.underlying23) ?_
  refine wm ?_
  refine wv (OV.fieldAddr0 rfl aid) ?_
  refine wv (OV.load rfl (At.own 0 rfl) rfl aan) ?_
  refine wv (OV.neq rfl rfl) ?_
  refine wv (OV.pickT rfl rfl) ?_
  refine wA ?_
  refine WL.nil ?_
  refine kg (hK_6' [(2, zB (!decide (c1 = 0)))] _ ?_)
  refine c9 ?_
  exact hE.ret [] rfl rfl (.inl ⟨_, h, rfl⟩) (e7.of1 rfl (RV.tmp rfl))
 ·obtain ⟨B, hc, ho⟩ := hS
  cases ho
theorem amm (te : TypeId) (fre : Nat × Nat) (t : List UInt8) : d8 Tryd.prog 5 [st t] (ab4 te fre) [] (Ret (.bool true) []) := by
 have out : ∀ {x : Out}, (∃ v : Bool, v = true ∧ x = .ret (.bool v) []) ∨ False → x = .ret (.bool true) [] := by
  rintro x (⟨v, rfl, rfl⟩ | h)
  ·rfl
  ·exact h.elim
 cases hp : p4 t with
 | error x =>
  obtain ⟨c, p⟩ := x
  refine (aph te fre t c p (fun b => b = true) ?_).weak fun x h => out h
  unfold af0
  have hc : ¬ c = 0 := by
   unfold p4 at hp
   split at hp
   ·exact ag5 hp
   ·rename_i h0; cases hp; exact h0
  exact ⟨hp, fun _ _ => ⟨hc, by rw [decide_eq_false hc]; rfl⟩⟩
 | ok x =>
  obtain ⟨l, a⟩ := x
  have hw := ae9 hp
  by_cases hl : 4096 < ((j4 l a).length : Int)
  ·refine (ajh te fre t l a [] a (fun b => b = true) ?_).weak fun x h => out h
   unfold aej
   refine ⟨hp, fun b1 dw1 mv1 ds1 R1 B ⟨g1, _⟩ => ⟨⟨g1, hw⟩, ?_⟩⟩
   rw [if_pos (decide_eq_true hl)]
  ·obtain ⟨l2, a2, e1, e2, e3⟩ := alz hp (by omega)
   refine (ajh te fre t l a l2 a2 (fun b => b = true) ?_).weak fun x h => out h
   unfold aej
   refine ⟨hp, fun b1 dw1 mv1 ds1 R1 B ⟨g1, _⟩ => ⟨⟨g1, hw⟩, ?_⟩⟩
   rw [if_neg (by rw [decide_eq_true_eq]; exact hl)]
   refine ⟨e1, fun b2 dw2 mv2 ds2 R2 B2 ⟨g2, gm⟩ => ⟨⟨g2, ae9 e1⟩, fun _ => ⟨g2.2.2.2.2, g2.2.2.1, (g1.more gm).2.2.2.2, g1.2.2.1⟩, ?_⟩⟩
   have k1 : ds1.length = l.length := g1.1.len
   have k2 : ds2.length = l2.length := g2.1.len
   rw [decide_eq_true e2, decide_eq_true (show (ds2.length : Int) = (ds1.length : Int) by rw [k1, k2, e3])]
   rfl
end Go.Proofs.YtifajndacnfcbaaDoor
namespace Go.Proofs.YtifajndacnfcbaaDoor
open Go Go.ChangeShapes Go.WideShapes Go.ChangeAt Go.RowKit
theorem ade (os : Os) : laidMet Tryd.prog Rows.syntaxThereAndBackRow.laid ((af1 os).forCall (fun _ _ => 0) ⟨#[], #[.string ByteArray.empty], []⟩).memory :=
 laidMet_of_run' 8 (by kernel_rfl) (by kernel_rfl)
theorem ab7 (os : Os) {H : Type} (enc : TypeId × Value → H) : ∃ places, DataW.whole enc Tryd.prog ((af1 os).forCall (fun _ _ => 0) ⟨#[], #[.string ByteArray.empty], []⟩).memory Tryd.f5.params.toList Rows.syntaxThereAndBackSpec.vars false (#[.string ByteArray.empty] : Array Value).toList 8 = some ([.lit (.string [])], [], places) :=
 ⟨[], by kernel_rfl⟩
set_option maxRecDepth 100000 in
theorem aby (os : Os) (started : os.Started) (H : Type) (enc : TypeId × Value → H) (F : Stop.Interp) :
  ReturnsInHanded {} Tryd.checked os 5 .any ((OpenSpec.ofChange Rows.syntaxThereAndBackSpec).preRow enc Tryd.prog Tryd.f5 Rows.syntaxThereAndBackRow.domain false Rows.syntaxThereAndBackRow.laid) (((OpenSpec.ofChange Rows.syntaxThereAndBackSpec).at F).post enc Tryd.prog Tryd.f5 false true false false) := by
 obtain ⟨places, hx⟩ := ab7 os enc
 refine returnsInHanded_of_row (C := Tryd.checked) (s := OpenSpec.ofChange Rows.syntaxThereAndBackSpec) arq started (by kernel_rfl) Tryd.func5
  (witness_row_atRef (enc := enc) (C := Tryd.checked) false (af1 os) #[.string ByteArray.empty] rfl (by kernel_rfl) (by kernel_rfl) (by kernel_rfl)
   (OpenSpec.preRow_of_cond 8 hx (by kernel_rfl) (fun k hk => by cases hk) (by kernel_rfl) (ade os))) ?_
 intro W base args ds gs before hval0 hW _ hcond hwt0 hL _ _
 have hval : ∀ (j : Nat) t v, Tryd.f5.params[j]? = some t → args[j]? = some v → Value.okWide Tryd.prog W .any base t v := hval0
 have hW' : DataW.Whole enc Tryd.prog Tryd.f5.params.toList Rows.syntaxThereAndBackSpec.vars false W args.toList ds gs before := hW
 obtain ⟨p, q, hA0, hV, rfl, _, _⟩ := hW'
 have hA : DataW.TrodAll enc Tryd.prog W 0 (fun _ => true) true Tryd.f5.params.toList args.toList ds p := hA0
 have hwt : (DataW.weightsEach Tryd.prog (Tryd.f5.params.toList ++ Rows.syntaxThereAndBackSpec.plain.varTypes Tryd.prog) (ds ++ gs)).all (· ≤ reachBytes) = true := hwt0
 rw [Tryd.params5] at hA hval hwt
 obtain ⟨v0, d0, rfl, rfl, h0⟩ := trodAll_one hA
 obtain ⟨rfl, rfl⟩ := trodVars_none hV
 obtain ⟨a0, rfl, e0, _, _⟩ := ChangeMaps.open_string Tryd.underlying9 (hval 0 _ v0 rfl rfl) h0
 have y0 : a0.data.toList.length ≤ reachBytes := sized_string hwt (j := 0) (t := 9) rfl (by rw [e0]; rfl)
 have r0 : a0.data.toList.length ≤ 140737488351232 := y0
 refine (ame hL (fun te fre => amm te fre a0.data.toList)).mono fun e W' ⟨he, hb⟩ => ?_
 subst he
 exact ⟨_, rfl, aq6 asc rfl Tryd.underlying4 (by kernel_rfl) rfl hW rfl hb⟩
theorem acs : Rows.SyntaxThereAndBackSaid :=
 OpenClaim.holds_of_cond 5 Tryd.f5 rfl rfl rfl rfl rfl rfl rfl ⟨rfl, rfl, rfl, rfl, rfl⟩ rfl rfl rfl rfl rfl (by kernel_rfl) Tryd.func5 (by kernel_rfl)
  (of_decide_eq_true (by kernel_rfl)) (by unfold Func.isWrapper; rw [if_neg (of_decide_eq_false (by kernel_rfl))]; exact ⟨rfl, rfl⟩)
  (fun os started H enc _ F => by rw [OpenClaim.pre_eq_preRow]; exact aby os started H enc F)
theorem syntaxThereAndBack_card_holds : Rows.SyntaxThereAndBackCardSaid :=
 Claim7.holds_tied_plain_at .later [] _ _ _ _ acs (fun _ h => by cases h) (by kernel_rfl) (fun _ h => by cases h) syntaxThereAndBack_row_tie rfl ⟨rfl, rfl⟩ (by kernel_rfl) rfl
  (fun f fn hf hfn => by
   obtain rfl : f = 5 := Option.some.inj ((show Tryd.prog.funcNamed "loupe/loupelaw13.SyntaxThereAndBack" = some 5 by kernel_rfl).symm.trans hf) |>.symm
   obtain rfl : fn = Tryd.f5 := (Option.some.inj (Tryd.func5.symm.trans hfn)).symm
   refine ⟨by kernel_rfl, fun j t ht => ?_⟩
   rw [Tryd.params5] at ht
   have h3 : t = 9 := by simpa using Array.mem_of_getElem? ht
   rcases h3 with rfl
   ·exact (show Tryd.prog.wantsStandIn 9 = false by kernel_rfl))
  (by kernel_rfl)
end Go.Proofs.YtifajndacnfcbaaDoor
