/-
  Merged: SyS, SyG, SyH, SyI, SyJ, SyL, SyR, SyNa, SyNb.
-/
import Derived.Test.YtifajndacnfcbaaDoorSq7
set_option maxRecDepth 100000
namespace Go.Proofs.YtifajndacnfcbaaDoor
open Go Go.RowKit
def nmB (c : UInt8) : Bool := j5 (c.toNat : Int) || m8 (c.toNat : Int)
inductive Rx : List UInt8 → Prop
 | nil : Rx []
 | esc (d : UInt8) (r : List UInt8) : m9 (d.toNat : Int) = true → Rx r → Rx (92 :: d :: r)
 | one (c : UInt8) (r : List UInt8) : m9 (c.toNat : Int) = true → c ≠ 47 → c ≠ 92 → Rx r → Rx (c :: r)
def axl (k : Tok) : Prop :=
 (k.1 = 1 ∧ (∃ c r, k.2.2 = c :: r ∧ j5 (c.toNat : Int) = true) ∧ (∀ c ∈ k.2.2, nmB c = true) ∧ k.2.2.length ≤ 32) ∨ k.1 = 2 ∨ (k.1 = 3 ∧ Rx k.2.2) ∨
 (k.1 = 4 ∧ ((∃ c, k.2.2 = [c] ∧ aah.contains c = true) ∨ k.2.2 = [62, 62]))
theorem avr {t : List UInt8} {p : Int} {x : UInt8} (h : bt t p = (x.toNat : Int)) : (bt t p).toNat.toUInt8 = x := by rw [h]; simp
theorem afw {t : List UInt8} {i j : Int} (h : 0 ≤ i ∧ i < j ∧ j ≤ t.length) : ∃ x : UInt8, bt t i = (x.toNat : Int) ∧ cut t i j = x :: cut t (i + 1) j := by
 obtain ⟨x, hx, hb⟩ := ah6 (t := t) (p := i) ⟨h.1, by omega⟩
 refine ⟨x, hb, ?_⟩
 unfold cut
 rw [hx, show j.toNat - i.toNat = (j.toNat - (i + 1).toNat) + 1 by omega, List.take_succ_cons]
theorem arm (t : List UInt8) (i : Int) : cut t i i = [] := by unfold cut; simp
theorem an6 {t : List UInt8} {i j : Int} : (cut t i j).length ≤ t.length := by
 unfold cut; rw [List.length_take, List.length_drop]; omega
theorem afz {t : List UInt8} {fr : Int} : ∀ {n : Nat} {k : Int} {x : List UInt8} {q : Int}, 0 ≤ k → n7 t fr n k = .ok (x, q) → x = cut t (fr + 1) (q - 1) ∧ Rx (cut t k (q - 1))
 | 0, _, _, _, _, h => by cases h
 | n + 1, k, x, q, h0, h => by
  have hq := ack h
  rw [n7] at h
  split at h
  ·rename_i hk
   split at h
   ·rename_i h9
    split at h
    ·cases h
    ·rename_i hp
     have h1 := ack h
     have h2 := afz (by omega) h
     refine ⟨h2.1, ?_⟩
     obtain ⟨c, c1, c2⟩ := afw (t := t) (i := k) (j := q - 1) ⟨h0, by omega, by omega⟩
     obtain ⟨d, d1, d2⟩ := afw (t := t) (i := k + 1) (j := q - 1) ⟨by omega, by omega, by omega⟩
     have hc : c = 92 := UInt8.toNat_inj.1 (by have := h9.1; rw [c1] at this; exact Int.ofNat.inj this)
     rw [c2, d2, hc, show k + 1 + 1 = k + 2 by omega]
     refine .esc d _ ?_ h2.2
     rw [d1] at hp; simpa using hp
   ·rename_i h9
    split at h
    ·cases h
    ·rename_i hp
     split at h
     ·simp only [Except.ok.injEq, Prod.mk.injEq] at h
      obtain ⟨rfl, rfl⟩ := h
      rw [show k + 1 - 1 = k by omega, arm]
      exact ⟨rfl, .nil⟩
     ·rename_i h47
      have h1 := ack h
      have h2 := afz (by omega) h
      refine ⟨h2.1, ?_⟩
      obtain ⟨c, c1, c2⟩ := afw (t := t) (i := k) (j := q - 1) ⟨h0, by omega, by omega⟩
      rw [c2]
      rw [c1] at hp h47 h9
      refine .one c _ (by simpa using hp) (fun e => h47 (by rw [e]; rfl)) (fun e => h9 ⟨by rw [e]; rfl, by omega⟩) h2.2
  ·cases h
theorem ae7 {t : List UInt8} {fr : Int} : ∀ {n : Nat} {out : List UInt8} {k : Int} {x : List UInt8} {q : Int}, k7 t fr n out k = .ok (x, q) → (x.length : Int) ≤ out.length + (q - k)
 | 0, _, _, _, _, h => by cases h
 | n + 1, out, k, x, q, h => by
  have hq := ad0 h
  rw [k7] at h
  split at h
  ·split at h
   ·simp only [Except.ok.injEq, Prod.mk.injEq] at h
    obtain ⟨rfl, rfl⟩ := h; omega
   ·split at h
    ·cases h
    ·split at h
     ·have := ae7 h
      rw [List.length_append] at this; simp only [List.length_cons, List.length_nil] at this; omega
     ·split at h
      ·cases h
      ·split at h
       ·cases h
       ·have h1 := ae7 h
        have h2 := (aqo (t := t) (a := k) (b := (ab2 t k).1) (ok := (ab2 t k).2.1) (q := (ab2 t k).2.2) rfl).1
        rw [List.length_append] at h1; simp only [List.length_cons, List.length_nil] at h1; omega
  ·cases h
theorem al0 : ∀ l : List UInt8, ∀ c ∈ l.take (abq l), nmB c = true
 | [], c, h => by simp at h
 | d :: l, c, h => by
  rw [abq] at h
  split at h
  ·rename_i hd
   rw [Nat.add_comm, List.take_succ_cons] at h
   rcases List.mem_cons.1 h with rfl | h
   ·exact hd
   ·exact al0 l c h
  ·simp at h
theorem as0 {t : List UInt8} {a : Int} (hb : 0 ≤ a ∧ a < t.length) {k : Tok} {q : Int} (h : ab8 t a = .ok (k, q)) : axl k ∧ k.2.2.length ≤ t.length := by
 have hq := afc hb h
 unfold ab8 at h
 split at h
 ·rename_i hl
  split at h
  ·cases h
  ·rename_i h32
   simp only [Except.ok.injEq, Prod.mk.injEq] at h
   obtain ⟨rfl, rfl⟩ := h
   refine ⟨.inl ⟨rfl, ?_, ?_, ?_⟩, an6⟩
   ·obtain ⟨c, c1, c2⟩ := afw (t := t) (i := a) (j := a + abq (t.drop a.toNat)) ⟨hb.1, by omega, hq.2⟩
    exact ⟨c, _, c2, by rw [← c1]; exact hl⟩
   ·intro c hc
    refine al0 (t.drop a.toNat) c ?_
    have : cut t a (a + abq (t.drop a.toNat)) = (t.drop a.toNat).take (abq (t.drop a.toNat)) := by
     unfold cut; congr 1; omega
    rw [← this]; exact hc
   ·show (cut _ _ _).length ≤ 32
    unfold cut; rw [List.length_take]; omega
 ·split at h
  ·unfold y5 at h
   split at h
   ·rename_i he
    have h1 := ae7 he
    have h2 := ad0 he
    simp only [Except.ok.injEq, Prod.mk.injEq] at h
    obtain ⟨rfl, rfl⟩ := h
    refine ⟨.inr (.inl rfl), ?_⟩
    simp only [List.length_nil] at h1
    dsimp only
    omega
   ·cases h
  ·split at h
   ·unfold aa6 at h
    split at h
    ·rename_i he
     have h1 := afz (by omega) he
     have h2 := ack he
     simp only [Except.ok.injEq, Prod.mk.injEq] at h
     obtain ⟨rfl, rfl⟩ := h
     refine ⟨.inr (.inr (.inl ⟨rfl, ?_⟩)), ?_⟩
     ·show Rx _
      rw [h1.1]; exact h1.2
     ·show List.length _ ≤ _
      rw [h1.1]; exact an6
    ·cases h
   ·split at h
    ·rename_i hm
     simp only [Except.ok.injEq, Prod.mk.injEq] at h
     obtain ⟨rfl, rfl⟩ := h
     obtain ⟨c, c1, c2⟩ := afw (t := t) (i := a) (j := a + 1) ⟨hb.1, by omega, by omega⟩
     refine ⟨.inr (.inr (.inr ⟨rfl, .inl ⟨c, ?_, ?_⟩⟩)), an6⟩
     ·show cut t a (a + 1) = [c]
      rw [c2, arm]
     ·rw [avr c1] at hm; exact hm
    ·split at h
     ·rename_i h62
      simp only [Except.ok.injEq, Prod.mk.injEq] at h
      obtain ⟨rfl, rfl⟩ := h
      exact ⟨.inr (.inr (.inr ⟨rfl, .inr rfl⟩)), by show 2 ≤ t.length; omega⟩
     ·cases h
theorem akp {t : List UInt8} : ∀ {n : Nat} {l l' : List Tok} {a : Int}, 0 ≤ a → a ≤ t.length → aa3 t n l a = .ok l' → (∀ k ∈ l, axl k ∧ k.2.2.length ≤ t.length) → ∃ ks, l' = ks ++ [((0, (t.length : Int), []) : Tok)] ∧ ∀ k ∈ ks, axl k ∧ k.2.2.length ≤ t.length
 | 0, _, _, _, _, _, h, _ => by cases h
 | n + 1, l, l', a, h0, h1, h, hl => by
  rw [aa3] at h
  split at h
  ·rename_i ha
   split at h
   ·rename_i k q ho
    have hq := afc ⟨h0, ha⟩ ho
    have hg := aa4 (t := t) (a := q) ⟨by omega, hq.2⟩
    have hk := as0 ⟨h0, ha⟩ ho
    exact akp (by omega) hg.2 h fun x hx => by
     rcases List.mem_append.1 hx with hx | hx
     ·exact hl x hx
     ·rw [List.mem_singleton.1 hx]; exact hk
   ·cases h
  ·simp only [Except.ok.injEq] at h
   exact ⟨l, h.symm, hl⟩
end Go.Proofs.YtifajndacnfcbaaDoor
namespace Go.Proofs.YtifajndacnfcbaaDoor
open Go Go.RowKit
mutual
def WXt (ts : List Tok) : Ex → Prop
 | .name p s => ((1, p, s) : Tok) ∈ ts ∧ d6 s = 0
 | .text p s => ((2, p, s) : Tok) ∈ ts
 | .regex p s => ((3, p, s) : Tok) ∈ ts
 | .keyed p a => (∃ k, p = (b4 ts k).2.1) ∧ WXt ts a
 | .unary p o a => ((∃ k, p = (b4 ts k).2.1) ∧ (o = [42] ∨ o = [43] ∨ o = [63])) ∧ WXt ts a
 | .binary p o a b => ((∃ k, p = (b4 ts k).2.1) ∧ aeq o ∧ 0 ≤ d8 o) ∧ WXt ts a ∧ WXt ts b
 | .call p w l => ((1, p, w) : Tok) ∈ ts ∧ 0 < d6 w ∧ (l.len : Int) = d6 w ∧ WXl ts l
def WXl (ts : List Tok) : ExL → Prop
 | .nil => True
 | .cons a r => WXt ts a ∧ WXl ts r
end
theorem WXl.snoc {ts : List Tok} {b : Ex} (hb : WXt ts b) : ∀ {l : ExL}, WXl ts l → WXl ts (l.snoc b)
 | .nil, _ => by rw [ExL.snoc, WXl, WXl]; exact ⟨hb, trivial⟩
 | .cons a r, h => by rw [WXl] at h; rw [ExL.snoc, WXl]; exact ⟨h.1, WXl.snoc hb h.2⟩
theorem arv (b : Ex) : ∀ l : ExL, wL (l.snoc b) = wL l + wX b + 1
 | .nil => by simp only [ExL.snoc, wL]; omega
 | .cons a r => by simp only [ExL.snoc, wL, arv b r]; omega
def ayh : Ex → Int
 | .name p _ => p
 | .text p _ => p
 | .regex p _ => p
 | .keyed p _ => p
 | .unary p _ _ => p
 | .binary p _ _ _ => p
 | .call p _ _ => p
theorem ase {o : Bs} (h : 0 ≤ d8 o) : aeq o := by
 unfold d8 at h
 split at h
 ·rename_i h1; exact .inr ⟨_, h1⟩
 ·split at h
  ·rename_i h1; rcases h1 with h1 | h1 <;> exact .inr ⟨_, h1⟩
  ·split at h
   ·rename_i h1; exact .inl h1
   ·split at h
    ·rename_i h1; exact .inr ⟨_, h1⟩
    ·split at h
     ·rename_i h1; exact .inr ⟨_, h1⟩
     ·omega
theorem aky {ts : List Tok} {k : Nat} {j : Int} (h : (b4 ts k).1 = j) (hj : j ≠ 0) : ((j, (b4 ts k).2.1, (b4 ts k).2.2) : Tok) ∈ ts := by
 have := apb (ajj (ts := ts) (k := k) (by rw [h]; exact hj))
 rw [← h]; exact this
structure Wf (ts : List Tok) (f : Nat) : Prop where
 e : ∀ l q a q1, pE ts f l q = .ok (a, q1) → WXt ts a ∧ q.1 + wX a ≤ q1.1
 l : ∀ l b q a q1, WXt ts b → pL ts f l b q = .ok (a, q1) → WXt ts a ∧ q.1 + wX a ≤ q1.1 + wX b
 p : ∀ q a q1, pP ts f q = .ok (a, q1) → WXt ts a ∧ q.1 + wX a ≤ q1.1
 s : ∀ b q a q1, WXt ts b → pS ts f b q = .ok (a, q1) → WXt ts a ∧ q.1 + wX a ≤ q1.1 + wX b
 a : ∀ q a q1, pA ts f q = .ok (a, q1) → WXt ts a ∧ q.1 + wX a ≤ q1.1
 c : ∀ q a q1, (b4 ts q.1).1 = 1 → 0 < d6 (b4 ts q.1).2.2 → pC ts f q = .ok (a, q1) → WXt ts a ∧ q.1 + wX a ≤ q1.1
 r : ∀ n b q a q1, WXl ts b → b.len ≤ n → pR ts f n b q = .ok (a, q1) → (WXl ts a ∧ a.len = n) ∧ q.1 + wL a ≤ q1.1 + wL b + (if b.len = 0 then 1 else 0)
theorem wf (ts : List Tok) : ∀ f, Wf ts f := by
 intro f
 induction f with
 | zero =>
  refine ⟨?_, ?_, ?_, ?_, ?_, ?_, ?_⟩ <;> intros <;> rename_i h <;> first | (rw [pE] at h; cases h; done) | (rw [pL] at h; cases h; done) | (rw [pP] at h; cases h; done) | (rw [pS] at h; cases h; done) | (rw [pA] at h; cases h; done) | (rw [pC] at h; cases h; done) | (rw [pR] at h; cases h; done)
 | succ f ih =>
  refine ⟨fun l q a q1 h => ?_, fun l b q a q1 hb h => ?_, fun q a q1 h => ?_, fun b q a q1 hb h => ?_, fun q a q1 h => ?_, fun q a q1 hk ha h => ?_, fun n b q a q1 hb hn h => ?_⟩
  ·rw [pE] at h
   split at h
   ·exact ih.p _ _ _ h
   ·split at h
    ·cases h
    ·rename_i a2 q2 h2
     obtain ⟨e1, e2⟩ := ih.e _ _ _ _ h2
     obtain ⟨g1, g2⟩ := ih.l _ _ _ _ _ e1 h
     exact ⟨g1, by omega⟩
  ·rw [pL] at h
   split at h
   ·rename_i hm
    split at h
    ·cases h
    ·rename_i a2 q2 h2
     obtain ⟨e1, e2⟩ := ih.e _ _ _ _ h2
     dsimp only at e2
     have hr : 0 ≤ d8 (b4 ts q.1).2.2 := by rw [hm.2]; omega
     obtain ⟨g1, g2⟩ := ih.l _ _ _ _ _ (by rw [WXt]; exact ⟨⟨⟨_, rfl⟩, ase hr, hr⟩, hb, e1⟩) h
     rw [wX] at g2
     exact ⟨g1, by omega⟩
   ·cases h; exact ⟨hb, Nat.le_refl _⟩
  ·rw [pP] at h
   split at h
   ·cases h
   ·rename_i a2 q2 h2
    obtain ⟨e1, e2⟩ := ih.a _ _ _ h2
    obtain ⟨g1, g2⟩ := ih.s _ _ _ _ e1 h
    exact ⟨g1, by omega⟩
  ·rw [pS] at h
   split at h
   ·rename_i hm
    obtain ⟨g1, g2⟩ := ih.s _ _ _ _ (by
     rw [WXt]
     refine ⟨⟨⟨_, rfl⟩, ?_⟩, hb⟩
     rcases hm with hm | hm | hm
     ·exact .inl (aaa hm).2.1
     ·exact .inr (.inl (aaa hm).2.1)
     ·exact .inr (.inr (aaa hm).2.1)) h
    rw [wX] at g2
    dsimp only at g2
    exact ⟨g1, by omega⟩
   ·cases h; exact ⟨hb, Nat.le_refl _⟩
  ·rw [pA] at h
   split at h
   ·rename_i h1; cases h; rw [WXt, wX]; exact ⟨aky h1 (by decide), Nat.le_refl _⟩
   ·split at h
    ·rename_i h1; cases h; rw [WXt, wX]; exact ⟨aky h1 (by decide), Nat.le_refl _⟩
    ·split at h
     ·rename_i h1; exact ih.c _ _ _ h1.1 h1.2 h
     ·split at h
      ·rename_i h1; cases h; rw [WXt, wX]; exact ⟨⟨aky h1.1 (by decide), h1.2⟩, Nat.le_refl _⟩
      ·split at h
       ·split at h
        ·cases h
        ·rename_i q2 h2
         obtain ⟨b1, b2, rfl⟩ := aar h2
         split at h
         ·cases h
         ·rename_i a3 q3 h3
          obtain ⟨e1, e2⟩ := ih.e _ _ _ _ h3
          split at h
          ·cases h
          ·rename_i q4 h4
           obtain ⟨c1, rfl⟩ := adu h4
           cases h
           rw [WXt, wX]
           exact ⟨⟨⟨_, rfl⟩, e1⟩, by dsimp only at e2 ⊢; omega⟩
       ·split at h
        ·split at h
         ·cases h
         ·rename_i q2 h2
          obtain ⟨b1, b2, rfl⟩ := aar h2
          split at h
          ·cases h
          ·rename_i a3 q3 h3
           obtain ⟨e1, e2⟩ := ih.e _ _ _ _ h3
           split at h
           ·cases h
           ·rename_i q4 h4
            obtain ⟨c1, rfl⟩ := adu h4
            cases h
            exact ⟨e1, by dsimp only at e2 ⊢; omega⟩
        ·cases h
  ·rw [pC] at h
   split at h
   ·cases h
   ·rename_i q2 h2
    obtain ⟨b1, b2, rfl⟩ := aar h2
    split at h
    ·cases h
    ·rename_i a3 q3 h3
     obtain ⟨⟨e1, e2⟩, e3⟩ := ih.r _ _ _ _ _ (by rw [WXl]; trivial) (Nat.zero_le _) h3
     rw [if_pos (show ExL.nil.len = 0 from rfl), show wL .nil = 0 by rw [wL]] at e3
     split at h
     ·cases h
     ·rename_i q4 h4
      obtain ⟨c1, rfl⟩ := adu h4
      cases h
      rw [WXt, wX]
      exact ⟨⟨aky hk (by decide), ha, by omega, e1⟩, by dsimp only at e3 ⊢; omega⟩
  ·rw [pR] at h
   split at h
   ·rename_i h0; cases h; exact ⟨⟨hb, by omega⟩, by split <;> omega⟩
   ·rename_i h0
    split at h
    ·cases h
    ·rename_i q2 h2
     have hq2 : q.1 + (if b.len = 0 then 0 else 1) ≤ q2.1 := by
      split at h2
      ·obtain ⟨_, rfl⟩ := aco h2; dsimp only; split <;> omega
      ·cases h2; split <;> omega
     split at h
     ·cases h
     ·rename_i a3 q3 h3
      obtain ⟨e1, e2⟩ := ih.e _ _ _ _ h3
      obtain ⟨g1, g2⟩ := ih.r _ _ _ _ _ (hb.snoc e1) (by rw [ExL.len_snoc]; omega) h
      rw [arv, if_neg (by rw [ExL.len_snoc]; omega)] at g2
      exact ⟨g1, by split at hq2 <;> split <;> omega⟩
mutual
theorem WXt.ok {ts : List Tok} (h : ∀ k ∈ ts, k.2.2.length ≤ 4096) : ∀ (e : Ex), WXt ts e → OKX e
 | .name p s, hw => by rw [WXt] at hw; rw [OKX]; exact h _ hw.1
 | .text p s, hw => by rw [WXt] at hw; rw [OKX]; exact h _ hw
 | .regex p s, hw => by rw [WXt] at hw; rw [OKX]; exact h _ hw
 | .keyed p a, hw => by rw [WXt] at hw; rw [OKX]; exact WXt.ok h a hw.2
 | .unary p o a, hw => by rw [WXt] at hw; rw [OKX]; exact ⟨by rcases hw.1.2 with rfl | rfl | rfl <;> decide, WXt.ok h a hw.2⟩
 | .binary p o a b, hw => by rw [WXt] at hw; rw [OKX]; exact ⟨hw.1.2, WXt.ok h a hw.2.1, WXt.ok h b hw.2.2⟩
 | .call p w l, hw => by rw [WXt] at hw; rw [OKX]; exact ⟨h _ hw.1, WXl.ok h l hw.2.2.2⟩
theorem WXl.ok {ts : List Tok} (h : ∀ k ∈ ts, k.2.2.length ≤ 4096) : ∀ (l : ExL), WXl ts l → OKL l
 | .nil, _ => by rw [OKL]; trivial
 | .cons a r, hw => by rw [WXl] at hw; rw [OKL]; exact ⟨WXt.ok h a hw.1, WXl.ok h r hw.2⟩
end
def WDs (ts : List Tok) (l : List t8) : Prop := ∀ d ∈ l, (((1, d.1, d.2.1) : Tok) ∈ ts ∧ d6 d.2.1 = 0) ∧ WXt ts d.2.2
theorem arf (d : t8) : ∀ l : List t8, wD (l ++ [d]) = wD l + wX d.2.2 + 1
 | [] => by simp only [List.nil_append, wD]; omega
 | x :: r => by simp only [List.cons_append, wD, arf d r]; omega
theorem axf {ts : List Tok} : ∀ {f : Nat} {l : List t8} {q : PSx} {l2 : List t8} {q2 : PSx}, WDs ts l → pD ts (BIG ts) f l q = .ok (l2, q2) → WDs ts l2 ∧ q.1 + wD l2 ≤ q2.1 + wD l
 | 0, _, _, _, _, _, h => by rw [pD] at h; cases h
 | f + 1, l, q, l2, q2, hl, h => by
  rw [ar2] at h
  split at h
  ·split at h
   ·cases h
   ·rename_i hk
    have hk1 : (b4 ts (q.1 + 1)).1 = 1 ∧ d6 (b4 ts (q.1 + 1)).2.2 = 0 := by
     rw [not_or] at hk; exact ⟨Decidable.not_not.1 hk.1, Decidable.not_not.1 hk.2⟩
    split at h
    ·cases h
    ·rename_i q3 h3
     obtain ⟨_, rfl⟩ := aco h3
     split at h
     ·cases h
     ·rename_i b q4 h4
      obtain ⟨e1, e2⟩ := (wf ts _).e _ _ _ _ h4
      split at h
      ·cases h
      ·rename_i q5 h5
       obtain ⟨_, rfl⟩ := aco h5
       have := axf (fun d hd => by
        rcases List.mem_append.1 hd with hd | hd
        ·exact hl d hd
        ·rw [List.mem_singleton.1 hd]; exact ⟨⟨aky hk1.1 (by decide), hk1.2⟩, e1⟩) h
       rw [arf] at this
       exact ⟨this.1, by dsimp only at e2 this ⊢; omega⟩
  ·cases h; exact ⟨hl, Nat.le_refl _⟩
theorem at7 {ts : List Tok} {l : List t8} {a : Ex} (h : z8 ts = .ok (l, a)) : WDs ts l ∧ WXt ts a ∧ wD l + wX a ≤ ts.length := by
 rw [ae0] at h
 unfold apg at h
 split at h
 ·cases h
 ·rename_i l2 q h2
  obtain ⟨h3, h4⟩ := axf (fun d hd => by cases hd) h2
  split at h
  ·cases h
  ·rename_i a2 q1 h5
   obtain ⟨e1, e2⟩ := (wf ts _).e _ _ _ _ h5
   have h6 := (acu h5).2.1
   split at h
   ·cases h
    rw [wD] at h4
    dsimp only at h4
    exact ⟨h3, e1, by omega⟩
   ·cases h
theorem aqc {t : List UInt8} (h : (b9 t).2.1 = 0) : ∀ k ∈ (b9 t).1, k.2.2.length ≤ 4096 := by
 have hs := af8 h
 have hg := aa4 (t := t) (a := 0) ⟨by omega, by omega⟩
 obtain ⟨ks, e, hk⟩ := akp hg.1 hg.2 (ak3 h hs) (fun k hk => by cases hk)
 rw [e]
 intro x hx
 rcases List.mem_append.1 hx with hx | hx
 ·have := (hk x hx).2; omega
 ·rw [List.mem_singleton.1 hx]; exact Nat.zero_le _
theorem atq {t : List UInt8} {l : List t8} {a : Ex} (h : u0 t = .ok (l, a)) : (b9 t).2.1 = 0 ∧ z8 (b9 t).1 = .ok (l, a) := by
 unfold u0 at h
 split at h
 ·rename_i h0; exact ⟨h0, h⟩
 ·cases h
theorem aj1 {t : List UInt8} {l : List t8} {a : Ex} (h : u0 t = .ok (l, a)) : OKP l a := by
 obtain ⟨h0, h1⟩ := atq h
 obtain ⟨h2, h3, h4⟩ := at7 h1
 have hs := aqc h0
 have hlen := amb t
 exact ⟨fun d hd => ⟨hs _ (h2 d hd).1.1, WXt.ok hs _ (h2 d hd).2⟩, WXt.ok hs _ h3, by omega⟩
end Go.Proofs.YtifajndacnfcbaaDoor
set_option maxRecDepth 100000
namespace Go.Proofs.YtifajndacnfcbaaDoor
open Go Go.RowKit
theorem ag2 : f6 Tryd.prog 71 0 = some 0 := by kernel_rfl
theorem ag4 : f6 Tryd.prog 73 0 = some 0 := by kernel_rfl
theorem agx : f6 Tryd.prog 74 0 = some 0 := by kernel_rfl
theorem ag5 : f6 Tryd.prog 76 0 = some 0 := by kernel_rfl
theorem agq : f6 Tryd.prog 78 0 = some 0 := by kernel_rfl
theorem agw : f6 Tryd.prog 80 0 = some 0 := by kernel_rfl
theorem ahc : f6 Tryd.prog 83 0 = some 0 := by kernel_rfl
def ac6 (e_0 : Int) (_ : List UInt8) (K : Int → Prop) : Prop :=
 K e_0
theorem ah1  (e_0 : Int) (e_1 : List UInt8) (K : Int → Prop) (h : ac6 e_0 e_1 K) :
  d9 Tryd.prog 23 [Value.agg [zI e_0, st e_1].toArray] [] [] (fun o => (∃ (v : Int), K v ∧ o = .ret (zI v) []) ∨ (False)) := by
 unfold ac6 at h
 refine c8 (n := 5) (L0 := [(0, Value.agg [zI e_0, st e_1].toArray)]) Tryd.func23 rfl rfl rfl rfl (fun w0 M Q hE => ?_)
 refine a7 (fun _ hK => ?_)
 refine a6 ?_
 refine WL.make (MV.box (cs := [zI e_0, st e_1]) rfl rfl) rfl rfl rfl (fun b => ?_)
 refine wA ?_
 refine WL.nil ?_
 refine kg (hK [(1, zP b)] _ ?_)
 refine a7 (fun _ hK_1' => ?_)
 refine a6 ?_
 refine wv (OV.fieldAddr0 rfl ag2) ?_
 refine wv (OV.load rfl (At.own 0 rfl) rfl a8) ?_
 refine wA ?_
 refine WL.nil ?_
 refine kg (hK_1' [(2, zI e_0)] _ ?_)
 refine b8 ?_
 exact hE.ret [] rfl rfl (.inl ⟨_, h, rfl⟩) (d7.of1 rfl (RV.tmp rfl))
def ac5 (e_0 : Int) (_ : List UInt8) (K : Int → Prop) : Prop :=
 K e_0
theorem aif  (e_0 : Int) (e_1 : List UInt8) (K : Int → Prop) (h : ac5 e_0 e_1 K) :
  d9 Tryd.prog 24 [Value.agg [zI e_0, st e_1].toArray] [] [] (fun o => (∃ (v : Int), K v ∧ o = .ret (zI v) []) ∨ (False)) := by
 unfold ac5 at h
 refine c8 (n := 5) (L0 := [(0, Value.agg [zI e_0, st e_1].toArray)]) Tryd.func24 rfl rfl rfl rfl (fun w0 M Q hE => ?_)
 refine a7 (fun _ hK => ?_)
 refine a6 ?_
 refine WL.make (MV.box (cs := [zI e_0, st e_1]) rfl rfl) rfl rfl rfl (fun b => ?_)
 refine wA ?_
 refine WL.nil ?_
 refine kg (hK [(1, zP b)] _ ?_)
 refine a7 (fun _ hK_1' => ?_)
 refine a6 ?_
 refine wv (OV.fieldAddr0 rfl ag4) ?_
 refine wv (OV.load rfl (At.own 0 rfl) rfl a8) ?_
 refine wA ?_
 refine WL.nil ?_
 refine kg (hK_1' [(2, zI e_0)] _ ?_)
 refine b8 ?_
 exact hE.ret [] rfl rfl (.inl ⟨_, h, rfl⟩) (d7.of1 rfl (RV.tmp rfl))
def acr (e_0 : Int) (_ : List UInt8) (K : Int → Prop) : Prop :=
 K e_0
theorem ag3  (e_0 : Int) (e_1 : List UInt8) (K : Int → Prop) (h : acr e_0 e_1 K) :
  d9 Tryd.prog 25 [Value.agg [zI e_0, st e_1].toArray] [] [] (fun o => (∃ (v : Int), K v ∧ o = .ret (zI v) []) ∨ (False)) := by
 unfold acr at h
 refine c8 (n := 5) (L0 := [(0, Value.agg [zI e_0, st e_1].toArray)]) Tryd.func25 rfl rfl rfl rfl (fun w0 M Q hE => ?_)
 refine a7 (fun _ hK => ?_)
 refine a6 ?_
 refine WL.make (MV.box (cs := [zI e_0, st e_1]) rfl rfl) rfl rfl rfl (fun b => ?_)
 refine wA ?_
 refine WL.nil ?_
 refine kg (hK [(1, zP b)] _ ?_)
 refine a7 (fun _ hK_1' => ?_)
 refine a6 ?_
 refine wv (OV.fieldAddr0 rfl agx) ?_
 refine wv (OV.load rfl (At.own 0 rfl) rfl a8) ?_
 refine wA ?_
 refine WL.nil ?_
 refine kg (hK_1' [(2, zI e_0)] _ ?_)
 refine b8 ?_
 exact hE.ret [] rfl rfl (.inl ⟨_, h, rfl⟩) (d7.of1 rfl (RV.tmp rfl))
def act (e_0 : Int) (_ : Value) (K : Int → Prop) : Prop :=
 K e_0
theorem agl  (e_0 : Int) (e_1 : Value) (K : Int → Prop) (h : act e_0 e_1 K) :
  d9 Tryd.prog 26 [Value.agg [zI e_0, e_1].toArray] [] [] (fun o => (∃ (v : Int), K v ∧ o = .ret (zI v) []) ∨ (False)) := by
 unfold act at h
 refine c8 (n := 5) (L0 := [(0, Value.agg [zI e_0, e_1].toArray)]) Tryd.func26 rfl rfl rfl rfl (fun w0 M Q hE => ?_)
 refine a7 (fun _ hK => ?_)
 refine a6 ?_
 refine WL.make (MV.box (cs := [zI e_0, e_1]) rfl rfl) rfl rfl rfl (fun b => ?_)
 refine wA ?_
 refine WL.nil ?_
 refine kg (hK [(1, zP b)] _ ?_)
 refine a7 (fun _ hK_1' => ?_)
 refine a6 ?_
 refine wv (OV.fieldAddr0 rfl ag5) ?_
 refine wv (OV.load rfl (At.own 0 rfl) rfl a8) ?_
 refine wA ?_
 refine WL.nil ?_
 refine kg (hK_1' [(2, zI e_0)] _ ?_)
 refine b8 ?_
 exact hE.ret [] rfl rfl (.inl ⟨_, h, rfl⟩) (d7.of1 rfl (RV.tmp rfl))
def acs (e_0 : Int) (_ : List UInt8) (_ : Value) (K : Int → Prop) : Prop :=
 K e_0
theorem ag6  (e_0 : Int) (e_1 : List UInt8) (e_2 : Value) (K : Int → Prop) (h : acs e_0 e_1 e_2 K) :
  d9 Tryd.prog 27 [Value.agg [zI e_0, st e_1, e_2].toArray] [] [] (fun o => (∃ (v : Int), K v ∧ o = .ret (zI v) []) ∨ (False)) := by
 unfold acs at h
 refine c8 (n := 5) (L0 := [(0, Value.agg [zI e_0, st e_1, e_2].toArray)]) Tryd.func27 rfl rfl rfl rfl (fun w0 M Q hE => ?_)
 refine a7 (fun _ hK => ?_)
 refine a6 ?_
 refine WL.make (MV.box (cs := [zI e_0, st e_1, e_2]) rfl rfl) rfl rfl rfl (fun b => ?_)
 refine wA ?_
 refine WL.nil ?_
 refine kg (hK [(1, zP b)] _ ?_)
 refine a7 (fun _ hK_1' => ?_)
 refine a6 ?_
 refine wv (OV.fieldAddr0 rfl agq) ?_
 refine wv (OV.load rfl (At.own 0 rfl) rfl a8) ?_
 refine wA ?_
 refine WL.nil ?_
 refine kg (hK_1' [(2, zI e_0)] _ ?_)
 refine b8 ?_
 exact hE.ret [] rfl rfl (.inl ⟨_, h, rfl⟩) (d7.of1 rfl (RV.tmp rfl))
def ab4 (e_0 : Int) (_ : List UInt8) (_ : Value) (_ : Value) (K : Int → Prop) : Prop :=
 K e_0
theorem aga  (e_0 : Int) (e_1 : List UInt8) (e_2 : Value) (e_3 : Value) (K : Int → Prop) (h : ab4 e_0 e_1 e_2 e_3 K) :
  d9 Tryd.prog 28 [Value.agg [zI e_0, st e_1, e_2, e_3].toArray] [] [] (fun o => (∃ (v : Int), K v ∧ o = .ret (zI v) []) ∨ (False)) := by
 unfold ab4 at h
 refine c8 (n := 5) (L0 := [(0, Value.agg [zI e_0, st e_1, e_2, e_3].toArray)]) Tryd.func28 rfl rfl rfl rfl (fun w0 M Q hE => ?_)
 refine a7 (fun _ hK => ?_)
 refine a6 ?_
 refine WL.make (MV.box (cs := [zI e_0, st e_1, e_2, e_3]) rfl rfl) rfl rfl rfl (fun b => ?_)
 refine wA ?_
 refine WL.nil ?_
 refine kg (hK [(1, zP b)] _ ?_)
 refine a7 (fun _ hK_1' => ?_)
 refine a6 ?_
 refine wv (OV.fieldAddr0 rfl agw) ?_
 refine wv (OV.load rfl (At.own 0 rfl) rfl a8) ?_
 refine wA ?_
 refine WL.nil ?_
 refine kg (hK_1' [(2, zI e_0)] _ ?_)
 refine b8 ?_
 exact hE.ret [] rfl rfl (.inl ⟨_, h, rfl⟩) (d7.of1 rfl (RV.tmp rfl))
def ac3 (e_0 : Int) (_ : List UInt8) (_ : Value) (K : Int → Prop) : Prop :=
 K e_0
theorem ah5  (e_0 : Int) (e_1 : List UInt8) (e_2 : Value) (K : Int → Prop) (h : ac3 e_0 e_1 e_2 K) :
  d9 Tryd.prog 29 [Value.agg [zI e_0, st e_1, e_2].toArray] [] [] (fun o => (∃ (v : Int), K v ∧ o = .ret (zI v) []) ∨ (False)) := by
 unfold ac3 at h
 refine c8 (n := 5) (L0 := [(0, Value.agg [zI e_0, st e_1, e_2].toArray)]) Tryd.func29 rfl rfl rfl rfl (fun w0 M Q hE => ?_)
 refine a7 (fun _ hK => ?_)
 refine a6 ?_
 refine WL.make (MV.box (cs := [zI e_0, st e_1, e_2]) rfl rfl) rfl rfl rfl (fun b => ?_)
 refine wA ?_
 refine WL.nil ?_
 refine kg (hK [(1, zP b)] _ ?_)
 refine a7 (fun _ hK_1' => ?_)
 refine a6 ?_
 refine wv (OV.fieldAddr0 rfl ahc) ?_
 refine wv (OV.load rfl (At.own 0 rfl) rfl a8) ?_
 refine wA ?_
 refine WL.nil ?_
 refine kg (hK_1' [(2, zI e_0)] _ ?_)
 refine b8 ?_
 exact hE.ret [] rfl rfl (.inl ⟨_, h, rfl⟩) (d7.of1 rfl (RV.tmp rfl))
abbrev plX : Ex → Int := ayh
theorem u6 {v : Int} {x : Out} (h : (∃ d : Int, d = v ∧ x = .ret (.int .i64 d) []) ∨ False) : x = .ret (.int .i64 v) [] := by
 rcases h with ⟨d, rfl, rfl⟩ | h
 ·rfl
 ·exact h.elim
theorem aws : agm Tryd.prog 71 "Place" = some 23 := by kernel_rfl
theorem awj : aec Tryd.prog 71 = true := by kernel_rfl
theorem awe : k9 Tryd.prog 23 = true := by kernel_rfl
theorem av8 : agm Tryd.prog 73 "Place" = some 24 := by kernel_rfl
theorem awg : aec Tryd.prog 73 = true := by kernel_rfl
theorem av5 : k9 Tryd.prog 24 = true := by kernel_rfl
theorem av0 : agm Tryd.prog 74 "Place" = some 25 := by kernel_rfl
theorem auq : aec Tryd.prog 74 = true := by kernel_rfl
theorem avz : k9 Tryd.prog 25 = true := by kernel_rfl
theorem auy : agm Tryd.prog 76 "Place" = some 26 := by kernel_rfl
theorem auu : aec Tryd.prog 76 = true := by kernel_rfl
theorem aui : k9 Tryd.prog 26 = true := by kernel_rfl
theorem avq : agm Tryd.prog 78 "Place" = some 27 := by kernel_rfl
theorem ava : aec Tryd.prog 78 = true := by kernel_rfl
theorem aut : k9 Tryd.prog 27 = true := by kernel_rfl
theorem atn : agm Tryd.prog 80 "Place" = some 28 := by kernel_rfl
theorem atp : aec Tryd.prog 80 = true := by kernel_rfl
theorem at1 : k9 Tryd.prog 28 = true := by kernel_rfl
theorem awd : agm Tryd.prog 83 "Place" = some 29 := by kernel_rfl
theorem awy : aec Tryd.prog 83 = true := by kernel_rfl
theorem aw0 : k9 Tryd.prog 29 = true := by kernel_rfl
theorem ars {B : List (Nat × Obj)} {e : Ex} {u : Value} (h : TV B e u) : aul Tryd.prog u "Place" [] (.int .i64 (plX e)) := by
 cases e with
 | name p s =>
  rw [TV] at h; subst h
  exact ⟨_, _, _, rfl, aws, awj, awe, (ah1 p s (fun d => d = p) (by unfold ac6; rfl)).weak fun x h => u6 h⟩
 | text p s =>
  rw [TV] at h; subst h
  exact ⟨_, _, _, rfl, av8, awg, av5, (aif p s (fun d => d = p) (by unfold ac5; rfl)).weak fun x h => u6 h⟩
 | regex p s =>
  rw [TV] at h; subst h
  exact ⟨_, _, _, rfl, av0, auq, avz, (ag3 p s (fun d => d = p) (by unfold acr; rfl)).weak fun x h => u6 h⟩
 | keyed p a =>
  rw [TV] at h; obtain ⟨u1, _, rfl⟩ := h
  exact ⟨_, _, _, rfl, auy, auu, aui, (agl p u1 (fun d => d = p) (by unfold act; rfl)).weak fun x h => u6 h⟩
 | unary p o a =>
  rw [TV] at h; obtain ⟨u1, _, rfl⟩ := h
  exact ⟨_, _, _, rfl, avq, ava, aut, (ag6 p o u1 (fun d => d = p) (by unfold acs; rfl)).weak fun x h => u6 h⟩
 | binary p o a b =>
  rw [TV] at h; obtain ⟨u1, u2, _, _, rfl⟩ := h
  exact ⟨_, _, _, rfl, atn, atp, at1, (aga p o u1 u2 (fun d => d = p) (by unfold ab4; rfl)).weak fun x h => u6 h⟩
 | call p w l =>
  rw [TV] at h; obtain ⟨us, u1, b, cs, _, _, _, rfl⟩ := h
  exact ⟨_, _, _, rfl, awd, awy, aw0, (ah5 p w u1 (fun d => d = p) (by unfold ac3; rfl)).weak fun x h => u6 h⟩
theorem auc {B : List (Nat × Obj)} {e : Ex} {u : Value} (h : TV B e u) : ∃ T v, u = Value.iface T v := by
 obtain ⟨_, T, r, h1, _⟩ := ars h
 exact ⟨T, r, h1⟩
end Go.Proofs.YtifajndacnfcbaaDoor
namespace Go.Proofs.YtifajndacnfcbaaDoor
open Go Go.RowKit
section
variable {P : Program} {ops : Array Oper} {Q : Exit → Act → World → Prop} {C : Cx} {L : Sl} {H : List HA} {rest : List Oper} {o : Oper}
theorem At.pool {B : List (Nat × Obj)} {b : Nat} {ob : Obj} (i : Nat) (hi : H[i]? = some (pool B)) (hb : (b, ob) ∈ B) : At C H b ob := fun w hp => by
 obtain ⟨F, h1, _⟩ := hp.own
 exact (h1.mem_pool hi _ hb).1
def ao2 (C : Cx) (H : List HA) (R : List (Nat × Obj)) : Prop := ∀ q ∈ R, At C H q.1 q.2
theorem ao2.pool {B R2 : List (Nat × Obj)} (i : Nat) (hi : H[i]? = some (pool B)) (hr : ∀ q ∈ R2, q ∈ C.R) : ao2 C H (B ++ R2) := fun q hq => by
 rcases List.mem_append.1 hq with hq | hq
 ·exact At.pool i hi hq
 ·exact At.old (hr q hq)
section
variable {x y : Operand} {ty t e' : TypeId} {p : String} {e : Array Edge} {g : Option (Nat × Bool)} {d : Option Tmp} {v u : Value} {T sz n : Nat} {xs : List Value} {B1 : List (Nat × Obj)} {kk : IntKind}
theorem OV.lenLaid (hx : ev L x = some v) (ht : slB P t e' sz = true) (hl : q8 v T sz n xs B1) : OV P C L H ⟨d, .call ⟨.builtin .len, #[x], #[t]⟩, ty, p, e, g⟩ (.int .i64 (n : Int)) := by
 rcases hl with ⟨rfl, rfl, _⟩ | ⟨b, cs, ⟨cap, rfl, _⟩, _⟩
 ·exact OV.lenS hx ht
 ·exact OV.lenS hx ht
theorem OV.indexLaid {j : Int} (hx : ev L x = some v) (hy : ev L y = some (.int kk j)) (ht : slB P t e' sz = true) (hl : q8 v T sz n xs B1) (hb : 0 ≤ j ∧ j < n) : OV P C L H ⟨d, .indexAddr t x y, ty, p, e, g⟩ (.pointer (some ⟨ab5 v, j.toNat * sz, none⟩)) := by
 rcases hl with ⟨rfl, rfl, _⟩ | ⟨b, cs, ⟨cap, rfl, _⟩, _⟩
 ·omega
 ·exact OV.indexSl hx hy ht hb (by omega)
theorem OV.loadLaid {α : Type} [Inhabited α] {f : α → List Value} {l : List α} {B : List (Nat × Obj)} {j o : Nat} (i : Nat) (hi : H[i]? = some (pool B)) (hx : ev L x = some (.pointer (some ⟨ab5 v, j * sz + o, none⟩))) (hf : ∀ x, (f x).length = sz) (ho : o < sz) (hu : (f (l.getD j default))[o]? = some u) (ht : aal P t = true)
  (hl : q8 v T sz l.length (l.flatMap f) B1 ∧ ∀ p ∈ B1, p ∈ B) (hj : j < l.length) : OV P C L H ⟨d, .load t x, ty, p, e, g⟩ u := by
 obtain ⟨hl, hB⟩ := hl
 rcases hl with ⟨rfl, h0, _⟩ | ⟨b, cs, ⟨cap, rfl, h1, h2, h3, h4, _⟩, rfl⟩
 ·omega
 ·refine OV.load (cs := cs) (T := T) (fr := (0, 0)) hx (At.pool i hi (hB _ (List.mem_singleton.2 rfl))) ?_ ht
  have hg := akd hf hj hu
  rw [← h3] at hg
  have hlt : j * sz + o < l.length * sz := by
   have : (j + 1) * sz ≤ l.length * sz := Nat.mul_le_mul_right _ hj
   rw [Nat.add_mul, Nat.one_mul] at this; omega
  rwa [List.getElem?_take_of_lt hlt] at hg
end
end
theorem OV.neqNilX {P : Program} {C : Cx} {L : Sl} {H : List HA} {x y : Operand} {t t' ty : TypeId} {d : Option Tmp} {p : String} {e : Array Edge} {g : Option (Nat × Bool)} {m : Value} {ms : Array (String × TypeId)} (hx : ev L x = some m) (hm : ∃ T u, m = .iface T u) (hu : P.underlying t = some (.interface ms)) (hy : ev L y = some .nilIface := by rfl) : OV P C L H ⟨d, .binOp .neq t x y t', ty, p, e, g⟩ (.bool true) := by
 obtain ⟨T, u, rfl⟩ := hm
 exact OV.neqNil hx hy hu
theorem ag0.more {B B2 : List (Nat × Obj)} {b : Nat} {w m : Value} {ds : List ac7} {B1 : List (Nat × Obj)} {l : List t8} {a : Ex} (h : ∀ p ∈ B, p ∈ B2) (hp : ag0 B b w m ds B1 l a) : ag0 B2 b w m ds B1 l a :=
 ⟨hp.1.more h, TV.more h _ _ hp.2.1, hp.2.2.1, fun p hq => h _ (hp.2.2.2.1 p hq), h _ hp.2.2.2.2⟩
theorem al7 (te : TypeId) (fre : Nat × Nat) (t : List UInt8) (B : List (Nat × Obj)) (l : List t8) (a : Ex) (h : u0 t = .ok (l, a)) : d9 Tryd.prog 9 [st t] (ad4 te fre) [pool B]
  (fun o => ∃ b dw m ds B1 B2, (ag0 B2 b dw m ds B1 l a ∧ ∀ x ∈ B, x ∈ B2) ∧ o = .ret (.tuple #[.pointer (some ⟨b, 0, none⟩), .agg [Value.int .i64 0, Value.int .i64 0, st []].toArray]) [pool B2]) :=
 (ajd te fre t B).weak fun o ho => by
  rcases ho with ⟨l2, a2, b, w, m, ds, B1, B2, ⟨h1, h2, h3⟩, rfl⟩ | ⟨c, p, B2, ⟨h1, _⟩, rfl⟩
  ·rw [h] at h1; cases h1; exact ⟨b, w, m, ds, B1, B2, ⟨h2, h3⟩, rfl⟩
  ·rw [h] at h1; cases h1
theorem aq2 (te : TypeId) (fre : Nat × Nat) (t : List UInt8) (B : List (Nat × Obj)) (c p : Int) (h : u0 t = .error (c, p)) : d9 Tryd.prog 9 [st t] (ad4 te fre) [pool B]
  (fun o => ∃ B2, True ∧ o = .ret (.tuple #[.pointer none, .agg [Value.int .i64 c, Value.int .i64 p, st []].toArray]) [pool B2]) :=
 (ajd te fre t B).weak fun o ho => by
  rcases ho with ⟨l2, a2, b, w, m, ds, B1, B2, ⟨h1, h2, h3⟩, rfl⟩ | ⟨c2, p2, B2, ⟨h1, _⟩, rfl⟩
  ·rw [h] at h1; cases h1
  ·rw [h] at h1; cases h1; exact ⟨B2, trivial, rfl⟩
end Go.Proofs.YtifajndacnfcbaaDoor
set_option maxRecDepth 100000
namespace Go.Proofs.YtifajndacnfcbaaDoor
open Go Go.RowKit
theorem ajz : k9 Tryd.prog 9 = true := by kernel_rfl
theorem at5 : k9 Tryd.prog 12 = true := by kernel_rfl
def aht (l1 : List t8) (a1 : Ex) (K : Bool → Prop) : Prop :=
 (u0 ([97, 46, 40, 98, 124, 99, 41] : List UInt8) = .ok (l1, a1)) ∧
 (∀ (qb1 : Nat) (dw1 : Value) (mv1 : Value) (ds1 : List ac7) (R1 : List (Nat × Obj)) (B : List (Nat × Obj)), (ag0 B qb1 dw1 mv1 ds1 R1 l1 a1 ∧ ∀ x ∈ ([] : List (Nat × Obj)), x ∈ B) →
  ((qb1, Obj.cells [dw1, mv1].toArray 39 (0, 0)) ∈ B) ∧
  (∃ T u, mv1 = Value.iface T u) ∧
  ((qb1, Obj.cells [dw1, mv1].toArray 39 (0, 0)) ∈ B) ∧
  (aul Tryd.prog mv1 "Place" [] (zI (plX a1))) ∧
  ((decide (plX a1 = 1)) = true → (ag0 B qb1 dw1 mv1 ds1 R1 l1 a1 ∧ OKP l1 a1)) ∧
  K ((decide (plX a1 = 1)) && (decide (afq l1 a1 = ([97, 32, 46, 32, 40, 98, 32, 124, 32, 99, 41, 10] : List UInt8)))))
theorem aqa (te : TypeId) (fre : Nat × Nat) (l1 : List t8) (a1 : Ex) (K : Bool → Prop) (h : aht l1 a1 K) :
  d9 Tryd.prog 8 [] [(0, .cells [st ([124] : List UInt8), st ([38, 45] : List UInt8), st ([62, 62] : List UInt8), st ([126] : List UInt8), st ([46] : List UInt8)].toArray te fre)] [] (fun o => (∃ (v : Bool), K v ∧ o = .ret (zB v) []) ∨ (False)) := by
 unfold aht at h
 refine c8 (n := 34) (L0 := []) Tryd.func8 rfl rfl rfl rfl (fun w0 M Q hE => ?_)
 refine WC.newPool ?_
 refine a7 (fun _ hK => ?_)
 refine a6 ?_
 refine wA ?_
 refine WL.nil ?_
 refine KX.go (hK [] _ ?_) trivial
 refine a7 (fun _ hK_1' => ?_)
 refine a6 ?_
 obtain ⟨o, h⟩ := h
 refine WL.callS ajz rfl (al7 te fre ([97, 46, 40, 98, 124, 99, 41] : List UInt8) ([] : List (Nat × Obj)) l1 a1 o) rfl ⟨.inr (List.mem_of_getElem? (i := 0) rfl), trivial⟩ rfl rfl (fun r H' hS => ?_) (fun c H' hS => ?_)
 ·obtain ⟨qb1, dw1, mv1, ds1, R1, B, hc, ho⟩ := hS
  cases ho
  replace h := h qb1 dw1 mv1 ds1 R1 B hc
  refine wm ?_
  refine wv (OV.extract 0 rfl rfl) ?_
  refine wv (OV.extract 1 rfl rfl) ?_
  refine WL.make (MV.alloc ad1) rfl rfl rfl (fun b => ?_)
  refine wA ?_
  refine WL.storeW (vs := [zI 0, zI 0, st []]) 0 rfl rfl rfl rfl rfl w8 rfl rfl rfl ?_
  refine WL.nil ?_
  refine kg (hK_1' [(1, zP qb1), (2, zP b)] _ ?_)
  refine a7 (fun _ hK_2' => ?_)
  refine a6 ?_
  refine wv (OV.loadR rfl (At.own 0 rfl) x0) ?_
  refine wv (OV.build rfl (cs := [zI 0, zI 0, st []]) rfl) ?_
  refine wv (OV.cast (OV.eqlF (rs := [decide ((0 : Int) = 0), decide ((0 : Int) = 0), decide (([] : List UInt8) = [])]) rfl rfl Tryd.underlying26 ad5 agd ⟨rfl, ae5, ⟨_, _, rfl, rfl, aan.int Tryd.underlying24⟩, ⟨rfl, a8, ⟨_, _, rfl, rfl, aan.int Tryd.underlying3⟩, ⟨rfl, c7, ⟨_, _, rfl, rfl, aan.str Tryd.underlying9⟩, trivial⟩⟩⟩) (v' := zB true) rfl) ?_
  refine wm ?_
  refine wm ?_
  refine wv (OV.neqPN rfl rfl Tryd.underlying23) ?_
  refine wv (OV.pickT rfl rfl) ?_
  refine wm ?_
  refine wm ?_
  refine wv (OV.nilCheck rfl) ?_
  refine wv (OV.fieldAddr0 rfl abr) ?_
  obtain ⟨o_1', h⟩ := h
  refine wv (OV.load rfl (At.pool 1 rfl o_1') rfl m4) ?_
  obtain ⟨o_2', h⟩ := h
  refine wv (OV.neqNilX rfl o_2' Tryd.underlying37) ?_
  refine wv (OV.pickT rfl rfl) ?_
  refine wm ?_
  refine wm ?_
  refine wv (OV.nilCheck rfl) ?_
  refine wv (OV.fieldAddr0 rfl abr) ?_
  obtain ⟨o_3', h⟩ := h
  refine wv (OV.load rfl (At.pool 1 rfl o_3') rfl m4) ?_
  obtain ⟨o_4', h⟩ := h
  refine WL.cv (CV.meth rfl o_4' rfl) rfl rfl rfl ?_
  refine wv (OV.eql rfl rfl) ?_
  refine wv (OV.pickT rfl rfl) ?_
  refine wm ?_
  obtain ⟨o_6', h⟩ := h
  refine WL.cut 4 [(33, zB ((decide (plX a1 = 1)) && (decide (afq l1 a1 = ([97, 32, 46, 32, 40, 98, 32, 124, 32, 99, 41, 10] : List UInt8)))))] ?_ (fun K0_3' hK_3' => ?_)
  rotate_left
  ·refine WL.split (decide (plX a1 = 1)) (fun hb => ?_) (fun hb => ?_)
   ·have o_5' := o_6' hb
    refine WL.set 29 rfl (congrArg zB hb) ?_
    refine wm ?_
    refine WL.cv ⟨_, _, _, EN.fn at5 rfl, aqe te fre B qb1 dw1 mv1 ds1 R1 l1 a1 o_5', ao2.pool 1 rfl (fun _ h => h)⟩ rfl rfl rfl ?_
    refine wv (OV.eqlS rfl rfl) ?_
    refine wv (OV.pickT rfl rfl) ?_
    refine WL.set 33 rfl (bT (v := decide (afq l1 a1 = ([97, 32, 46, 32, 40, 98, 32, 124, 32, 99, 41, 10] : List UInt8))) hb) ?_
    exact WL.end_ (kg hK_3')
   ·refine WL.set 29 rfl (congrArg zB hb) ?_
    refine wk ?_
    refine wk ?_
    refine wk ?_
    refine wv (OV.pickF rfl rfl) ?_
    refine WL.set 33 rfl (bF (v := decide (afq l1 a1 = ([97, 32, 46, 32, 40, 98, 32, 124, 32, 99, 41, 10] : List UInt8))) hb) ?_
    exact WL.end_ (kg hK_3')
  refine wA ?_
  refine WL.nil ?_
  refine kg (hK_2' [(0, zB ((decide (plX a1 = 1)) && (decide (afq l1 a1 = ([97, 32, 46, 32, 40, 98, 32, 124, 32, 99, 41, 10] : List UInt8)))))] _ ?_)
  refine b8 ?_
  exact hE.ret [] rfl rfl (.inl ⟨_, h, rfl⟩) (d7.of1 rfl (RV.tmp rfl))
 ·obtain ⟨qb1, dw1, mv1, ds1, R1, B, hc, ho⟩ := hS
  cases ho
theorem ah4 : u0 ([97, 46, 40, 98, 124, 99, 41] : List UInt8) = .ok ([], .binary 1 [46] (.name 0 [97]) (.binary 4 [124] (.name 3 [98]) (.name 5 [99]))) := by kernel_rfl
theorem anq : afq [] (.binary 1 [46] (.name 0 [97]) (.binary 4 [124] (.name 3 [98]) (.name 5 [99]))) = ([97, 32, 46, 32, 40, 98, 32, 124, 32, 99, 41, 10] : List UInt8) := by kernel_rfl
theorem ahy (te : TypeId) (fre : Nat × Nat) : d9 Tryd.prog 8 [] (ad4 te fre) [] (Ret (.bool true) []) := by
 refine (aqa te fre [] (.binary 1 [46] (.name 0 [97]) (.binary 4 [124] (.name 3 [98]) (.name 5 [99]))) (fun b => b = true) ?_).weak ?_
 ·unfold aht
  refine ⟨ah4, fun b w m ds B1 B hp => ⟨hp.1.2.2.2.2, auc hp.1.2.1, hp.1.2.2.2.2, ars hp.1.2.1, fun _ => ⟨hp.1, aj1 ah4⟩, ?_⟩⟩
  rw [anq]
  decide
 ·rintro x (⟨b, rfl, rfl⟩ | h)
  ·rfl
  ·exact h.elim
end Go.Proofs.YtifajndacnfcbaaDoor
namespace Go.Proofs.YtifajndacnfcbaaDoor
open Go Go.RowKit
section
variable {P : Program} {ops : Array Oper} {Q : Exit → Act → World → Prop} {C : Cx} {L : Sl} {H HK : List HA} {w : World}
theorem WL.absorbRow0 {l : List Oper} {v : Value} {T sz n : Nat} {xs : List Value} {B : List (Nat × Obj)} (h : ∀ B1, q8 v T sz n xs B1 → WL P ops Q C L (pool (B1 ++ B) :: H) l) : WL P ops Q C L (.row v T sz n xs :: pool B :: H) l := fun a w hf hp => by
 obtain ⟨F, h1, h2⟩ := hp.own
 obtain ⟨B1, h3, h4⟩ := h1.absorbRow0
 exact h B1 h3 a w hf ⟨hp.os, hp.tape, hp.output, hp.size, hp.keep, hp.ro, F, h4, h2⟩
end
def z7 (n : Int) : List Value := [.int .i64 n]
theorem ab6 (n : Int) : (z7 n).length = 1 := rfl
abbrev NdV := Int × Int × Bs × Value
def ndC (d : NdV) : List Value := [.int .i64 d.1, .int .i64 d.2.1, st d.2.2.1, d.2.2.2]
theorem ac8 (d : NdV) : (ndC d).length = 4 := rfl
theorem aw8 {v : Value} {a b : Int} {s : Bs} (h : v.oneCell' = true) : ([Value.int .i64 a, Value.int .i64 b, st s, v].all (·.oneCell')) = true := by simp [h]; exact ⟨rfl, rfl, rfl⟩
abbrev RdV := Int × Bs × Int
def rdC (d : RdV) : List Value := [.int .i64 d.1, st d.2.1, .int .i64 d.2.2]
theorem aju (d : RdV) : (rdC d).length = 3 := rfl
def x7 (B : List (Nat × Obj)) (v : Value) (js : List Int) : Prop := ∃ B1, q8 v 3 1 js.length (js.flatMap z7) B1 ∧ ∀ p ∈ B1, p ∈ B
theorem x7.more {B B2 : List (Nat × Obj)} {v : Value} {js : List Int} (h : ∀ p ∈ B, p ∈ B2) (hp : x7 B v js) : x7 B2 v js := by
 obtain ⟨B1, h1, h2⟩ := hp
 exact ⟨B1, h1, fun p hq => h _ (h2 p hq)⟩
theorem q8.one {v : Value} {T sz n : Nat} {xs : List Value} {B1 : List (Nat × Obj)} (h : q8 v T sz n xs B1) : v.oneCell' = true := by
 rcases h with ⟨rfl, _⟩ | ⟨b, cs, ⟨cap, rfl, _⟩, _⟩ <;> rfl
theorem axs (b : Nat) (x : Int) (B : List (Nat × Obj)) : x7 ((b, .cells [Value.int .i64 x].toArray 3 (0, 0)) :: B) (.slice (some ⟨b, 0, none⟩) 1 1) [x] :=
 ⟨[(b, .cells [Value.int .i64 x].toArray 3 (0, 0))], .inr ⟨b, [Value.int .i64 x], ⟨1, rfl, Nat.le_refl _, rfl, rfl, Nat.le_refl _, by omega⟩, rfl⟩, fun p hp => by rw [List.mem_singleton.1 hp]; exact List.mem_cons_self⟩
theorem q8.parts {v : Value} {js : List Int} {R B : List (Nat × Obj)} (h : q8 v 3 1 js.length (js.flatMap z7) R) : x7 (R ++ B) v js := ⟨R, h, fun _ hp => List.mem_append_left _ hp⟩
abbrev anx : Value := .slice none 0 0
mutual
def Nd (B : List (Nat × Obj)) (ns : List NdV) : Ex → Int → Prop
 | .name p s, i => 0 ≤ i ∧ ns[i.toNat]? = some (1, p, s, anx)
 | .text p s, i => 0 ≤ i ∧ ns[i.toNat]? = some (2, p, s, anx)
 | .regex p s, i => 0 ≤ i ∧ ns[i.toNat]? = some (3, p, s, anx)
 | .keyed p a, i => ∃ v j, (0 ≤ i ∧ ns[i.toNat]? = some (5, p, [], v)) ∧ x7 B v [j] ∧ Nd B ns a j
 | .unary p o a, i => ∃ v j, (0 ≤ i ∧ ns[i.toNat]? = some (6, p, o, v)) ∧ x7 B v [j] ∧ Nd B ns a j
 | .binary p o a b, i => ∃ v j k, (0 ≤ i ∧ ns[i.toNat]? = some (7, p, o, v)) ∧ x7 B v [j, k] ∧ Nd B ns a j ∧ Nd B ns b k
 | .call p w l, i => ∃ v js, (0 ≤ i ∧ ns[i.toNat]? = some (4, p, w, v)) ∧ x7 B v js ∧ NdL B ns l js
def NdL (B : List (Nat × Obj)) (ns : List NdV) : ExL → List Int → Prop
 | .nil, js => js = []
 | .cons a r, js => ∃ j ks, Nd B ns a j ∧ NdL B ns r ks ∧ js = j :: ks
end
theorem ado {ns x : List NdV} {i : Nat} {d : NdV} (h : ns[i]? = some d) : (ns ++ x)[i]? = some d := by
 have : i < ns.length := by
  rcases Nat.lt_or_ge i ns.length with g | g
  ·exact g
  ·rw [List.getElem?_eq_none g] at h; cases h
 rw [List.getElem?_append_left this]; exact h
mutual
theorem Nd.more {B B2 : List (Nat × Obj)} (h : ∀ p ∈ B, p ∈ B2) (ns x : List NdV) : ∀ (e : Ex) (i : Int), Nd B ns e i → Nd B2 (ns ++ x) e i
 | .name p s, i, hv => by rw [Nd] at hv ⊢; exact ⟨hv.1, ado hv.2⟩
 | .text p s, i, hv => by rw [Nd] at hv ⊢; exact ⟨hv.1, ado hv.2⟩
 | .regex p s, i, hv => by rw [Nd] at hv ⊢; exact ⟨hv.1, ado hv.2⟩
 | .keyed p a, i, hv => by rw [Nd] at hv ⊢; obtain ⟨v, j, h1, h2, h3⟩ := hv; exact ⟨v, j, ⟨h1.1, ado h1.2⟩, h2.more h, Nd.more h ns x a j h3⟩
 | .unary p o a, i, hv => by rw [Nd] at hv ⊢; obtain ⟨v, j, h1, h2, h3⟩ := hv; exact ⟨v, j, ⟨h1.1, ado h1.2⟩, h2.more h, Nd.more h ns x a j h3⟩
 | .binary p o a b, i, hv => by rw [Nd] at hv ⊢; obtain ⟨v, j, k, h1, h2, h3, h4⟩ := hv; exact ⟨v, j, k, ⟨h1.1, ado h1.2⟩, h2.more h, Nd.more h ns x a j h3, Nd.more h ns x b k h4⟩
 | .call p w l, i, hv => by rw [Nd] at hv ⊢; obtain ⟨v, js, h1, h2, h3⟩ := hv; exact ⟨v, js, ⟨h1.1, ado h1.2⟩, h2.more h, NdL.more h ns x l js h3⟩
theorem NdL.more {B B2 : List (Nat × Obj)} (h : ∀ p ∈ B, p ∈ B2) (ns x : List NdV) : ∀ (l : ExL) (js : List Int), NdL B ns l js → NdL B2 (ns ++ x) l js
 | .nil, js, hv => by rw [NdL] at hv ⊢; exact hv
 | .cons a r, js, hv => by rw [NdL] at hv ⊢; obtain ⟨j, ks, h1, h2, h3⟩ := hv; exact ⟨j, ks, Nd.more h ns x a j h1, NdL.more h ns x r ks h2, h3⟩
end
theorem NdL.len {B : List (Nat × Obj)} {ns : List NdV} : ∀ {l : ExL} {js : List Int}, NdL B ns l js → js.length = l.len
 | .nil, js, h => by rw [NdL] at h; subst h; rfl
 | .cons a r, js, h => by rw [NdL] at h; obtain ⟨j, ks, _, h2, rfl⟩ := h; rw [List.length_cons, h2.len]; rfl
theorem NdL.snoc {B : List (Nat × Obj)} {ns : List NdV} {b : Ex} {j : Int} (hb : Nd B ns b j) : ∀ {l : ExL} {js : List Int}, NdL B ns l js → NdL B ns (l.snoc b) (js ++ [j])
 | .nil, js, h => by rw [NdL] at h; subst h; rw [ExL.snoc, NdL]; exact ⟨j, [], hb, by rw [NdL], rfl⟩
 | .cons a r, js, h => by rw [NdL] at h; obtain ⟨k, ks, h1, h2, rfl⟩ := h; rw [ExL.snoc, NdL]; exact ⟨k, ks ++ [j], h1, h2.snoc hb, rfl⟩
def acy (er e : Int) : Int := if er = 0 then e else er
def acw (ts : List Tok) (k er ea : Int) : Int := if er = 0 then (b4 ts k.toNat).2.1 else ea
def o9 (ts : List Tok) (k er : Int) (m : Bs) : Bool := decide (er = 0) && isM ts k.toNat m
abbrev St4 := Int × Int × Int × Int
def abh (ts : List Tok) (k o er ea : Int) (m : Bs) : St4 :=
 if o9 ts k er m = true then
  (if m = [40] ∨ m = [123] then (if o = 64 then (k, o, acy er 23, acw ts k er ea) else (k + 1, o + 1, er, ea))
  else if m = [41] ∨ m = [125] then (k + 1, o - 1, er, ea) else (k + 1, o, er, ea))
 else (k, o, acy er 60, acw ts k er ea)
structure RP (ts : List Tok) (k o er : Int) (ns : List NdV) : Prop where
 k0 : 0 ≤ k
 k1 : k < ts.length
 o0 : 0 ≤ o
 o1 : o ≤ 64
 en : ama ts
 mks : arp ts
 len : ts.length ≤ 10000
 nn : (ns.length : Int) ≤ k + (if er = 0 then 0 else 1)
structure Gr (ts : List Tok) (B : List (Nat × Obj)) (ns : List NdV) (k k2 o2 er2 : Int) (ns2 : List NdV) (B2 : List (Nat × Obj)) : Prop where
 rp : RP ts k2 o2 er2 ns2
 le : k ≤ k2
 ex : ∃ x, ns2 = ns ++ x
 sub : ∀ p ∈ B, p ∈ B2
 rel : (ns2.length : Int) + k ≤ ns.length + k2 + (if er2 = 0 then 0 else 1)
def Res (r : RsX Ex) (B2 : List (Nat × Obj)) (ns2 : List NdV) (ea i k2 o2 er2 ea2 : Int) : Prop := match r with
 | .ok (e, q) => (er2 = 0 ∧ ea2 = ea ∧ k2 = (q.1 : Int) ∧ o2 = q.2) ∧ Nd B2 ns2 e i
 | .error x => er2 = x.1 ∧ ea2 = x.2
def aad (r : RsX Ex) (ts : List Tok) (B : List (Nat × Obj)) (ns : List NdV) (k o er ea : Int) (i k2 o2 er2 ea2 : Int) (ns2 : List NdV) (B2 : List (Nat × Obj)) : Prop :=
 if er = 0 then Gr ts B ns k k2 o2 er2 ns2 B2 ∧ Res r B2 ns2 ea i k2 o2 er2 ea2
 else k2 = k ∧ o2 = o ∧ er2 = er ∧ ea2 = ea ∧ ns2 = ns ∧ B2 = B
abbrev rfH (pb : Nat) (wa : Value) (ts : List Tok) (wn : Value) (ns : List NdV) (k o er ea : Int) (dv : Value) (mn : Int) (B : List (Nat × Obj)) : List HA :=
 [.blk pb (.cells [wa, Value.int .i64 k, Value.int .i64 o, Value.int .i64 er, Value.int .i64 ea, wn, dv, Value.int .i64 mn].toArray 62 (0, 0)), .row wa 64 3 ts.length (ts.flatMap e6), .row wn 69 4 ns.length (ns.flatMap ndC), pool B]
def aic (ts : List Tok) (k er : Int) (l : Int) : Prop :=
 ∀ (pb : Nat) (wa : Value) (wn : Value) (ns : List NdV) (o ea : Int) (dv : Value) (mn : Int) (B : List (Nat × Obj)), (RP ts k o er ns ∧ 0 ≤ l ∧ l ≤ 5) → d9 Tryd.prog 22 [.pointer (some ⟨pb, 0, none⟩), .int .i64 l] [] (rfH pb wa ts wn ns k o er ea dv mn B)
  (fun out => ∃ w2 i k2 o2 er2 ea2 ns2 B2, aad (sE ts l.toNat (k.toNat, o)) ts B ns k o er ea i k2 o2 er2 ea2 ns2 B2 ∧ out = .ret (.int .i64 i) (rfH pb wa ts w2 ns2 k2 o2 er2 ea2 dv mn B2))
def awk (ts : List Tok) (k er : Int) : Prop :=
 ∀ (pb : Nat) (wa : Value) (wn : Value) (ns : List NdV) (o ea : Int) (dv : Value) (mn : Int) (B : List (Nat × Obj)), (RP ts k o er ns) → d9 Tryd.prog 51 [.pointer (some ⟨pb, 0, none⟩)] [] (rfH pb wa ts wn ns k o er ea dv mn B)
  (fun out => ∃ w2 i k2 o2 er2 ea2 ns2 B2, aad (sP ts (k.toNat, o)) ts B ns k o er ea i k2 o2 er2 ea2 ns2 B2 ∧ out = .ret (.int .i64 i) (rfH pb wa ts w2 ns2 k2 o2 er2 ea2 dv mn B2))
def aw6 (ts : List Tok) (k er : Int) : Prop :=
 ∀ (pb : Nat) (wa : Value) (wn : Value) (ns : List NdV) (o ea : Int) (dv : Value) (mn : Int) (B : List (Nat × Obj)), (RP ts k o er ns) → d9 Tryd.prog 69 [.pointer (some ⟨pb, 0, none⟩)] [] (rfH pb wa ts wn ns k o er ea dv mn B)
  (fun out => ∃ w2 i k2 o2 er2 ea2 ns2 B2, aad (sA ts (k.toNat, o)) ts B ns k o er ea i k2 o2 er2 ea2 ns2 B2 ∧ out = .ret (.int .i64 i) (rfH pb wa ts w2 ns2 k2 o2 er2 ea2 dv mn B2))
def agy (x : Except (Int × Int) PSx) (k o ea k2 o2 er2 ea2 : Int) : Prop := match x with
 | .ok q => er2 = 0 ∧ ea2 = ea ∧ k2 = (q.1 : Int) ∧ o2 = q.2
 | .error y => (er2 = y.1 ∧ ea2 = y.2 ∧ k2 = k ∧ o2 = o) ∧ y.1 ≠ 0
section
variable {ts : List Tok} {k o er ea k2 o2 er2 ea2 : Int} {m : Bs} {ns : List NdV}
theorem ajs (h : er ≠ 0) (hw : abh ts k o er ea m = (k2, o2, er2, ea2)) : k2 = k ∧ o2 = o ∧ er2 = er ∧ ea2 = ea := by
 unfold abh o9 acy acw at hw
 rw [decide_eq_false h, Bool.false_and, if_neg (by decide), if_neg h, if_neg h] at hw
 cases hw; exact ⟨rfl, rfl, rfl, rfl⟩
theorem ajl (m : Bs) : o9 ts k 0 m = isM ts k.toNat m := by unfold o9; rfl
theorem amn (hm : m = [40] ∨ m = [123]) (h0 : 0 ≤ k) (ho : o ≤ 64) (hw : abh ts k o 0 ea m = (k2, o2, er2, ea2)) : agy (n8 ts (k.toNat, o) m) k o ea k2 o2 er2 ea2 := by
 unfold abh at hw
 rw [ajl, if_pos hm] at hw
 unfold n8 agy
 dsimp only
 by_cases h1 : isM ts k.toNat m = true
 ·rw [if_pos h1] at hw ⊢
  by_cases h2 : o = 64
  ·rw [if_pos h2] at hw
   rw [if_pos (by omega)]
   cases hw; exact ⟨⟨rfl, rfl, rfl, rfl⟩, by show (23 : Int) ≠ 0; decide⟩
  ·rw [if_neg h2] at hw
   rw [if_neg (by omega)]
   cases hw; exact ⟨rfl, rfl, by dsimp only; omega, rfl⟩
 ·rw [if_neg h1] at hw ⊢
  cases hw; exact ⟨⟨rfl, rfl, rfl, rfl⟩, by show (60 : Int) ≠ 0; decide⟩
theorem ajx (hm : m = [41] ∨ m = [125]) (h0 : 0 ≤ k) (hw : abh ts k o 0 ea m = (k2, o2, er2, ea2)) : agy (s5 ts (k.toNat, o) m) k o ea k2 o2 er2 ea2 := by
 have hn : ¬ (m = [40] ∨ m = [123]) := by rcases hm with rfl | rfl <;> decide
 unfold abh at hw
 rw [ajl, if_neg hn, if_pos hm] at hw
 unfold s5 agy
 dsimp only
 by_cases h1 : isM ts k.toNat m = true
 ·rw [if_pos h1] at hw ⊢
  cases hw; exact ⟨rfl, rfl, by dsimp only; omega, rfl⟩
 ·rw [if_neg h1] at hw ⊢
  cases hw; exact ⟨⟨rfl, rfl, rfl, rfl⟩, by show (60 : Int) ≠ 0; decide⟩
theorem ai0 (h1 : ¬ (m = [40] ∨ m = [123])) (h2 : ¬ (m = [41] ∨ m = [125])) (h0 : 0 ≤ k) (hw : abh ts k o 0 ea m = (k2, o2, er2, ea2)) : agy (p6 ts (k.toNat, o) m) k o ea k2 o2 er2 ea2 := by
 unfold abh at hw
 rw [ajl, if_neg h1, if_neg h2] at hw
 unfold p6 agy
 dsimp only
 by_cases h1 : isM ts k.toNat m = true
 ·rw [if_pos h1] at hw ⊢
  cases hw; exact ⟨rfl, rfl, by dsimp only; omega, rfl⟩
 ·rw [if_neg h1] at hw ⊢
  cases hw; exact ⟨⟨rfl, rfl, rfl, rfl⟩, by show (60 : Int) ≠ 0; decide⟩
theorem RP.next (H : RP ts k o er ns) (h : (b4 ts k.toNat).1 ≠ 0) : k + 1 < (ts.length : Int) := by
 have := H.en.lt _ h
 have := H.k0
 omega
theorem RP.nextM (H : RP ts k o er ns) (h : isM ts k.toNat m = true) : k + 1 < (ts.length : Int) := H.next (by rw [(aaa h).1]; decide)
theorem RP.at (H : RP ts k o er ns) (h0 : 0 ≤ k2) (h1 : k2 < ts.length) (h2 : 0 ≤ o2) (h3 : o2 ≤ 64) {ns2 : List NdV} (h4 : (ns2.length : Int) ≤ k2 + (if er2 = 0 then 0 else 1)) : RP ts k2 o2 er2 ns2 := ⟨h0, h1, h2, h3, H.en, H.mks, H.len, h4⟩
theorem RP.fault (H : RP ts k o 0 ns) (h : er2 ≠ 0) : RP ts k o er2 ns := H.at H.k0 H.k1 H.o0 H.o1 (by have := H.nn; rw [if_neg h]; rw [if_pos rfl] at this; omega)
theorem arz (H : RP ts k o 0 ns) (h : agy (n8 ts (k.toNat, o) m) k o ea k2 o2 er2 ea2) : RP ts k2 o2 er2 ns ∧ ((er2 = 0 ∧ n8 ts (k.toNat, o) m = .ok (k2.toNat, o2) ∧ k2 = k + 1 ∧ o2 = o + 1 ∧ ea2 = ea) ∨ (er2 ≠ 0 ∧ n8 ts (k.toNat, o) m = .error (er2, ea2) ∧ k2 = k ∧ o2 = o)) := by
 have hn := H.nn
 have h0 := H.k0
 rw [if_pos rfl] at hn
 cases hx : n8 ts (k.toNat, o) m with
 | ok q =>
  rw [hx] at h
  obtain ⟨m1, m2, rfl⟩ := aar hx
  obtain ⟨rfl, rfl, rfl, rfl⟩ := h
  have := H.nextM m1
  have := H.o0
  dsimp only at m2 ⊢
  exact ⟨H.at (by omega) (by omega) (by omega) (by omega) (by rw [if_pos rfl]; omega), .inl ⟨rfl, rfl, by omega, rfl, rfl⟩⟩
 | error y =>
  rw [hx] at h
  obtain ⟨⟨rfl, rfl, rfl, rfl⟩, hy⟩ := h
  exact ⟨H.fault hy, .inr ⟨hy, rfl, rfl, rfl⟩⟩
theorem apc (H : RP ts k o 0 ns) (ho : 1 ≤ o) (h : agy (s5 ts (k.toNat, o) m) k o ea k2 o2 er2 ea2) : RP ts k2 o2 er2 ns ∧ ((er2 = 0 ∧ s5 ts (k.toNat, o) m = .ok (k2.toNat, o2) ∧ k2 = k + 1 ∧ o2 = o - 1 ∧ ea2 = ea) ∨ (er2 ≠ 0 ∧ s5 ts (k.toNat, o) m = .error (er2, ea2) ∧ k2 = k ∧ o2 = o)) := by
 have hn := H.nn
 have h0 := H.k0
 rw [if_pos rfl] at hn
 cases hx : s5 ts (k.toNat, o) m with
 | ok q =>
  rw [hx] at h
  obtain ⟨m1, rfl⟩ := adu hx
  obtain ⟨rfl, rfl, rfl, rfl⟩ := h
  have := H.nextM m1
  have := H.o1
  dsimp only
  exact ⟨H.at (by omega) (by omega) (by omega) (by omega) (by rw [if_pos rfl]; omega), .inl ⟨rfl, rfl, by omega, rfl, rfl⟩⟩
 | error y =>
  rw [hx] at h
  obtain ⟨⟨rfl, rfl, rfl, rfl⟩, hy⟩ := h
  exact ⟨H.fault hy, .inr ⟨hy, rfl, rfl, rfl⟩⟩
theorem am6 (H : RP ts k o 0 ns) (h : agy (p6 ts (k.toNat, o) m) k o ea k2 o2 er2 ea2) : RP ts k2 o2 er2 ns ∧ ((er2 = 0 ∧ p6 ts (k.toNat, o) m = .ok (k2.toNat, o2) ∧ k2 = k + 1 ∧ o2 = o ∧ ea2 = ea) ∨ (er2 ≠ 0 ∧ p6 ts (k.toNat, o) m = .error (er2, ea2) ∧ k2 = k ∧ o2 = o)) := by
 have hn := H.nn
 have h0 := H.k0
 rw [if_pos rfl] at hn
 cases hx : p6 ts (k.toNat, o) m with
 | ok q =>
  rw [hx] at h
  obtain ⟨m1, rfl⟩ := aco hx
  obtain ⟨rfl, rfl, rfl, rfl⟩ := h
  have := H.nextM m1
  dsimp only
  exact ⟨H.at (by omega) (by omega) H.o0 H.o1 (by rw [if_pos rfl]; omega), .inl ⟨rfl, rfl, by omega, rfl, rfl⟩⟩
 | error y =>
  rw [hx] at h
  obtain ⟨⟨rfl, rfl, rfl, rfl⟩, hy⟩ := h
  exact ⟨H.fault hy, .inr ⟨hy, rfl, rfl, rfl⟩⟩
end
theorem Gr.trans {ts : List Tok} {B B2 B3 : List (Nat × Obj)} {ns ns2 ns3 : List NdV} {k k2 k3 o2 o3 er3 : Int} (h : Gr ts B ns k k2 o2 0 ns2 B2) (g : Gr ts B2 ns2 k2 k3 o3 er3 ns3 B3) : Gr ts B ns k k3 o3 er3 ns3 B3 := by
 obtain ⟨x, hx⟩ := h.ex
 obtain ⟨y, hy⟩ := g.ex
 have h1 := h.rel
 rw [if_pos rfl] at h1
 have h2 := g.rel
 have := h.le
 have := g.le
 exact ⟨g.rp, by omega, ⟨x ++ y, by rw [hy, hx, List.append_assoc]⟩, fun p hp => g.sub p (h.sub p hp), by omega⟩
theorem Gr.step {ts : List Tok} {B : List (Nat × Obj)} {ns : List NdV} {k k2 o2 er2 : Int} (h : RP ts k2 o2 er2 ns) (hk : k ≤ k2) : Gr ts B ns k k2 o2 er2 ns B := ⟨h, hk, ⟨[], by simp⟩, fun _ hp => hp, by split <;> omega⟩
theorem ai1 {ts : List Tok} {l : Nat} {q : PSx} {x : Int × Int} (h : sE ts l q = .error x) : x.1 ≠ 0 := ((ao5 ts _).e _ _ _ h).nz
theorem Nd.last {ns : List NdV} {d : NdV} : (0 : Int) ≤ (ns.length : Int) ∧ (ns ++ [d])[((ns.length : Int)).toNat]? = some d := by
 refine ⟨by omega, ?_⟩
 rw [show ((ns.length : Int)).toNat = ns.length by omega, List.getElem?_append_right (Nat.le_refl _), Nat.sub_self]; rfl
end Go.Proofs.YtifajndacnfcbaaDoor
set_option maxRecDepth 100000
namespace Go.Proofs.YtifajndacnfcbaaDoor
open Go Go.RowKit
theorem l9 : slB Tryd.prog 110 9 1 = true := by kernel_rfl
theorem q9 : f6 Tryd.prog 62 3 = some 3 := by kernel_rfl
theorem l0 : f6 Tryd.prog 62 0 = some 0 := by kernel_rfl
theorem p8 : aal Tryd.prog 57 = true := by kernel_rfl
theorem e7 : f6 Tryd.prog 62 1 = some 1 := by kernel_rfl
theorem s8 : f6 Tryd.prog 64 1 = some 1 := by kernel_rfl
theorem aha : f6 Tryd.prog 62 4 = some 4 := by kernel_rfl
theorem y8 : f6 Tryd.prog 62 5 = some 5 := by kernel_rfl
theorem r8 : f6 Tryd.prog 32 0 = some 0 := by kernel_rfl
theorem aap : aal Tryd.prog 29 = true := by kernel_rfl
theorem abo : slB Tryd.prog 29 69 4 = true := by kernel_rfl
theorem ap7 : afi Tryd.prog 69 = some ([zI 0, zI 0, st [], Value.slice none 0 0], 4, 56) := by kernel_rfl
theorem apm : o8 Tryd.prog 29 1 = true := by kernel_rfl
theorem ac9 : k9 Tryd.prog 50 = true := by kernel_rfl
theorem adc : k9 Tryd.prog 20 = true := by kernel_rfl
theorem abn : f6 Tryd.prog 62 2 = some 2 := by kernel_rfl
def ain (w : List UInt8) (K : Int → Prop) : Prop :=
 (if (decide (([99, 111, 112, 121] : List UInt8) = w)) = true then
  K 1
 else
  (if (decide (([107, 101, 121] : List UInt8) = w)) = true then
   K 1
  else
   (if (decide (([105, 110, 115] : List UInt8) = w)) = true then
    K 1
   else
    (if (decide (([105, 100] : List UInt8) = w)) = true then
     K 1
    else
     (if (decide (([102, 111, 108, 100] : List UInt8) = w)) = true then
      K 1
     else
      (if (decide (([100, 101, 108] : List UInt8) = w)) = true then
       K 2
      else
       (if (decide (([108, 101, 102, 116] : List UInt8) = w)) = true then
        K 2
       else
        (if (decide (([114, 105, 103, 104, 116] : List UInt8) = w)) = true then
         K 2
        else
         (if (decide (([100, 101, 102, 97, 117, 108, 116] : List UInt8) = w)) = true then
          K 2
         else
          (if (decide (w = ([110, 111, 114, 109] : List UInt8))) = true then
           K 3
          else
           (if (decide (w = ([108, 101, 116] : List UInt8))) = true then
            K (-1)
           else
            K 0)))))))))))
theorem ash  (w : List UInt8) (K : Int → Prop) (h : ain w K) :
  d9 Tryd.prog 19 [st w] [] [] (fun o => (∃ (v : Int), K v ∧ o = .ret (zI v) []) ∨ (False)) := by
 unfold ain at h
 refine c8 (n := 37) (L0 := [(0, st w)]) Tryd.func19 rfl rfl rfl rfl (fun w0 M Q hE => ?_)
 refine a7 (fun _ hK => ?_)
 refine a6 ?_
 refine wA ?_
 refine WL.nil ?_
 refine kg (hK [(0, st w)] _ ?_)
 refine a7 (fun _ hK_1' => ?_)
 refine a6 ?_
 refine WL.make (MV.buildSlice (cs := [st ([99, 111, 112, 121] : List UInt8), st ([107, 101, 121] : List UInt8), st ([105, 110, 115] : List UInt8), st ([105, 100] : List UInt8), st ([102, 111, 108, 100] : List UInt8)]) rfl l9 (by kernel_rfl)) rfl rfl rfl (fun b => ?_)
 refine wA ?_
 refine WL.nil ?_
 refine kg (hK_1' [(0, st w), (3, Value.slice (some ⟨b, 0, none⟩) 5 5)] _ ?_)
 refine a7 (fun _ hK_2' => ?_)
 refine a6 ?_
 refine WL.make (MV.buildSlice (cs := [st ([100, 101, 108] : List UInt8), st ([108, 101, 102, 116] : List UInt8), st ([114, 105, 103, 104, 116] : List UInt8), st ([100, 101, 102, 97, 117, 108, 116] : List UInt8)]) rfl l9 (by kernel_rfl)) rfl rfl rfl (fun b_1' => ?_)
 refine wA ?_
 refine WL.nil ?_
 refine kg (hK_2' [(0, st w), (3, Value.slice (some ⟨b, 0, none⟩) 5 5), (4, Value.slice (some ⟨b_1', 0, none⟩) 4 4)] _ ?_)
 refine a7 (fun _ hK_3' => ?_)
 refine a7 (fun _ hK_4' => ?_)
 refine a6 ?_
 refine wA ?_
 refine WL.nil ?_
 refine kg (hK_4' [(0, st w), (3, Value.slice (some ⟨b, 0, none⟩) 5 5), (4, Value.slice (some ⟨b_1', 0, none⟩) 4 4), (5, zI 0)] _ ?_)
 refine b7 ?_
 refine aew 6 ?_
 refine RC.succ (fun K0_5' hK_5' => ?_)
 refine a7 (fun _ hK_6' => ?_)
 refine a7 (fun _ hK_7' => ?_)
 refine a6 ?_
 refine wm ?_
 refine wm ?_
 refine wv (OV.lenS rfl l9) ?_
 refine wv (OV.lss rfl rfl) ?_
 refine WL.nil ?_
 refine kg (hK_7' [(0, st w), (3, Value.slice (some ⟨b, 0, none⟩) 5 5), (4, Value.slice (some ⟨b_1', 0, none⟩) 4 4), (5, zI 0), (12, zB true)] _ ?_)
 refine f7 rfl ?_
 refine b6 ?_
 refine kg (hK_6' [(0, st w), (3, Value.slice (some ⟨b, 0, none⟩) 5 5), (4, Value.slice (some ⟨b_1', 0, none⟩) 4 4), (5, zI 0)] _ ?_)
 refine a7 (fun _ hK_8' => ?_)
 refine b7 ?_
 refine a7 (fun _ hK_9' => ?_)
 refine a6 ?_
 refine wm ?_
 refine wm ?_
 refine wv (OV.indexSl rfl rfl l9 (by decide) rfl) ?_
 refine wv (OV.load rfl (At.own 1 rfl) rfl c7) ?_
 refine wm ?_
 refine wv (OV.eqlS rfl rfl) ?_
 refine WL.nil ?_
 refine kg (hK_9' [(0, st w), (3, Value.slice (some ⟨b, 0, none⟩) 5 5), (4, Value.slice (some ⟨b_1', 0, none⟩) 4 4), (5, zI 0), (20, zB (decide (([99, 111, 112, 121] : List UInt8) = w)))] _ ?_)
 refine b5 (b := decide (([99, 111, 112, 121] : List UInt8) = w)) rfl (fun hb => ?_) (fun hb => ?_)
 ·replace h := e8 h hb
  refine a7 (fun _ hK_10' => ?_)
  refine a6 ?_
  refine wA ?_
  refine WL.nil ?_
  refine kg (hK_10' [(2, zI 1)] _ ?_)
  refine b8 ?_
  exact hE.ret [] rfl rfl (.inl ⟨_, h, rfl⟩) (d7.of1 rfl (RV.tmp rfl))
 ·replace h := e9 h hb
  refine b6 ?_
  refine kg (hK_8' [(0, st w), (3, Value.slice (some ⟨b, 0, none⟩) 5 5), (4, Value.slice (some ⟨b_1', 0, none⟩) 4 4), (5, zI 0)] _ ?_)
  refine a6 ?_
  refine wm ?_
  refine wv (OV.add rfl rfl ⟨by decide, by decide⟩) ?_
  refine wA ?_
  refine WL.nil ?_
  refine kg (hK_5' [(0, st w), (3, Value.slice (some ⟨b, 0, none⟩) 5 5), (4, Value.slice (some ⟨b_1', 0, none⟩) 4 4), (5, zI 1)] _ ?_)
  refine RC.succ (fun K0_11' hK_11' => ?_)
  refine a7 (fun _ hK_12' => ?_)
  refine a7 (fun _ hK_13' => ?_)
  refine a6 ?_
  refine wm ?_
  refine wm ?_
  refine wv (OV.lenS rfl l9) ?_
  refine wv (OV.lss rfl rfl) ?_
  refine WL.nil ?_
  refine kg (hK_13' [(0, st w), (3, Value.slice (some ⟨b, 0, none⟩) 5 5), (4, Value.slice (some ⟨b_1', 0, none⟩) 4 4), (5, zI 1), (12, zB true)] _ ?_)
  refine f7 rfl ?_
  refine b6 ?_
  refine kg (hK_12' [(0, st w), (3, Value.slice (some ⟨b, 0, none⟩) 5 5), (4, Value.slice (some ⟨b_1', 0, none⟩) 4 4), (5, zI 1)] _ ?_)
  refine a7 (fun _ hK_14' => ?_)
  refine b7 ?_
  refine a7 (fun _ hK_15' => ?_)
  refine a6 ?_
  refine wm ?_
  refine wm ?_
  refine wv (OV.indexSl rfl rfl l9 (by decide) rfl) ?_
  refine wv (OV.load rfl (At.own 1 rfl) rfl c7) ?_
  refine wm ?_
  refine wv (OV.eqlS rfl rfl) ?_
  refine WL.nil ?_
  refine kg (hK_15' [(0, st w), (3, Value.slice (some ⟨b, 0, none⟩) 5 5), (4, Value.slice (some ⟨b_1', 0, none⟩) 4 4), (5, zI 1), (20, zB (decide (([107, 101, 121] : List UInt8) = w)))] _ ?_)
  refine b5 (b := decide (([107, 101, 121] : List UInt8) = w)) rfl (fun hb => ?_) (fun hb => ?_)
  ·replace h := e8 h hb
   refine a7 (fun _ hK_16' => ?_)
   refine a6 ?_
   refine wA ?_
   refine WL.nil ?_
   refine kg (hK_16' [(2, zI 1)] _ ?_)
   refine b8 ?_
   exact hE.ret [] rfl rfl (.inl ⟨_, h, rfl⟩) (d7.of1 rfl (RV.tmp rfl))
  ·replace h := e9 h hb
   refine b6 ?_
   refine kg (hK_14' [(0, st w), (3, Value.slice (some ⟨b, 0, none⟩) 5 5), (4, Value.slice (some ⟨b_1', 0, none⟩) 4 4), (5, zI 1)] _ ?_)
   refine a6 ?_
   refine wm ?_
   refine wv (OV.add rfl rfl ⟨by decide, by decide⟩) ?_
   refine wA ?_
   refine WL.nil ?_
   refine kg (hK_11' [(0, st w), (3, Value.slice (some ⟨b, 0, none⟩) 5 5), (4, Value.slice (some ⟨b_1', 0, none⟩) 4 4), (5, zI 2)] _ ?_)
   refine RC.succ (fun K0_17' hK_17' => ?_)
   refine a7 (fun _ hK_18' => ?_)
   refine a7 (fun _ hK_19' => ?_)
   refine a6 ?_
   refine wm ?_
   refine wm ?_
   refine wv (OV.lenS rfl l9) ?_
   refine wv (OV.lss rfl rfl) ?_
   refine WL.nil ?_
   refine kg (hK_19' [(0, st w), (3, Value.slice (some ⟨b, 0, none⟩) 5 5), (4, Value.slice (some ⟨b_1', 0, none⟩) 4 4), (5, zI 2), (12, zB true)] _ ?_)
   refine f7 rfl ?_
   refine b6 ?_
   refine kg (hK_18' [(0, st w), (3, Value.slice (some ⟨b, 0, none⟩) 5 5), (4, Value.slice (some ⟨b_1', 0, none⟩) 4 4), (5, zI 2)] _ ?_)
   refine a7 (fun _ hK_20' => ?_)
   refine b7 ?_
   refine a7 (fun _ hK_21' => ?_)
   refine a6 ?_
   refine wm ?_
   refine wm ?_
   refine wv (OV.indexSl rfl rfl l9 (by decide) rfl) ?_
   refine wv (OV.load rfl (At.own 1 rfl) rfl c7) ?_
   refine wm ?_
   refine wv (OV.eqlS rfl rfl) ?_
   refine WL.nil ?_
   refine kg (hK_21' [(0, st w), (3, Value.slice (some ⟨b, 0, none⟩) 5 5), (4, Value.slice (some ⟨b_1', 0, none⟩) 4 4), (5, zI 2), (20, zB (decide (([105, 110, 115] : List UInt8) = w)))] _ ?_)
   refine b5 (b := decide (([105, 110, 115] : List UInt8) = w)) rfl (fun hb => ?_) (fun hb => ?_)
   ·replace h := e8 h hb
    refine a7 (fun _ hK_22' => ?_)
    refine a6 ?_
    refine wA ?_
    refine WL.nil ?_
    refine kg (hK_22' [(2, zI 1)] _ ?_)
    refine b8 ?_
    exact hE.ret [] rfl rfl (.inl ⟨_, h, rfl⟩) (d7.of1 rfl (RV.tmp rfl))
   ·replace h := e9 h hb
    refine b6 ?_
    refine kg (hK_20' [(0, st w), (3, Value.slice (some ⟨b, 0, none⟩) 5 5), (4, Value.slice (some ⟨b_1', 0, none⟩) 4 4), (5, zI 2)] _ ?_)
    refine a6 ?_
    refine wm ?_
    refine wv (OV.add rfl rfl ⟨by decide, by decide⟩) ?_
    refine wA ?_
    refine WL.nil ?_
    refine kg (hK_17' [(0, st w), (3, Value.slice (some ⟨b, 0, none⟩) 5 5), (4, Value.slice (some ⟨b_1', 0, none⟩) 4 4), (5, zI 3)] _ ?_)
    refine RC.succ (fun K0_23' hK_23' => ?_)
    refine a7 (fun _ hK_24' => ?_)
    refine a7 (fun _ hK_25' => ?_)
    refine a6 ?_
    refine wm ?_
    refine wm ?_
    refine wv (OV.lenS rfl l9) ?_
    refine wv (OV.lss rfl rfl) ?_
    refine WL.nil ?_
    refine kg (hK_25' [(0, st w), (3, Value.slice (some ⟨b, 0, none⟩) 5 5), (4, Value.slice (some ⟨b_1', 0, none⟩) 4 4), (5, zI 3), (12, zB true)] _ ?_)
    refine f7 rfl ?_
    refine b6 ?_
    refine kg (hK_24' [(0, st w), (3, Value.slice (some ⟨b, 0, none⟩) 5 5), (4, Value.slice (some ⟨b_1', 0, none⟩) 4 4), (5, zI 3)] _ ?_)
    refine a7 (fun _ hK_26' => ?_)
    refine b7 ?_
    refine a7 (fun _ hK_27' => ?_)
    refine a6 ?_
    refine wm ?_
    refine wm ?_
    refine wv (OV.indexSl rfl rfl l9 (by decide) rfl) ?_
    refine wv (OV.load rfl (At.own 1 rfl) rfl c7) ?_
    refine wm ?_
    refine wv (OV.eqlS rfl rfl) ?_
    refine WL.nil ?_
    refine kg (hK_27' [(0, st w), (3, Value.slice (some ⟨b, 0, none⟩) 5 5), (4, Value.slice (some ⟨b_1', 0, none⟩) 4 4), (5, zI 3), (20, zB (decide (([105, 100] : List UInt8) = w)))] _ ?_)
    refine b5 (b := decide (([105, 100] : List UInt8) = w)) rfl (fun hb => ?_) (fun hb => ?_)
    ·replace h := e8 h hb
     refine a7 (fun _ hK_28' => ?_)
     refine a6 ?_
     refine wA ?_
     refine WL.nil ?_
     refine kg (hK_28' [(2, zI 1)] _ ?_)
     refine b8 ?_
     exact hE.ret [] rfl rfl (.inl ⟨_, h, rfl⟩) (d7.of1 rfl (RV.tmp rfl))
    ·replace h := e9 h hb
     refine b6 ?_
     refine kg (hK_26' [(0, st w), (3, Value.slice (some ⟨b, 0, none⟩) 5 5), (4, Value.slice (some ⟨b_1', 0, none⟩) 4 4), (5, zI 3)] _ ?_)
     refine a6 ?_
     refine wm ?_
     refine wv (OV.add rfl rfl ⟨by decide, by decide⟩) ?_
     refine wA ?_
     refine WL.nil ?_
     refine kg (hK_23' [(0, st w), (3, Value.slice (some ⟨b, 0, none⟩) 5 5), (4, Value.slice (some ⟨b_1', 0, none⟩) 4 4), (5, zI 4)] _ ?_)
     refine RC.succ (fun K0_29' hK_29' => ?_)
     refine a7 (fun _ hK_30' => ?_)
     refine a7 (fun _ hK_31' => ?_)
     refine a6 ?_
     refine wm ?_
     refine wm ?_
     refine wv (OV.lenS rfl l9) ?_
     refine wv (OV.lss rfl rfl) ?_
     refine WL.nil ?_
     refine kg (hK_31' [(0, st w), (3, Value.slice (some ⟨b, 0, none⟩) 5 5), (4, Value.slice (some ⟨b_1', 0, none⟩) 4 4), (5, zI 4), (12, zB true)] _ ?_)
     refine f7 rfl ?_
     refine b6 ?_
     refine kg (hK_30' [(0, st w), (3, Value.slice (some ⟨b, 0, none⟩) 5 5), (4, Value.slice (some ⟨b_1', 0, none⟩) 4 4), (5, zI 4)] _ ?_)
     refine a7 (fun _ hK_32' => ?_)
     refine b7 ?_
     refine a7 (fun _ hK_33' => ?_)
     refine a6 ?_
     refine wm ?_
     refine wm ?_
     refine wv (OV.indexSl rfl rfl l9 (by decide) rfl) ?_
     refine wv (OV.load rfl (At.own 1 rfl) rfl c7) ?_
     refine wm ?_
     refine wv (OV.eqlS rfl rfl) ?_
     refine WL.nil ?_
     refine kg (hK_33' [(0, st w), (3, Value.slice (some ⟨b, 0, none⟩) 5 5), (4, Value.slice (some ⟨b_1', 0, none⟩) 4 4), (5, zI 4), (20, zB (decide (([102, 111, 108, 100] : List UInt8) = w)))] _ ?_)
     refine b5 (b := decide (([102, 111, 108, 100] : List UInt8) = w)) rfl (fun hb => ?_) (fun hb => ?_)
     ·replace h := e8 h hb
      refine a7 (fun _ hK_34' => ?_)
      refine a6 ?_
      refine wA ?_
      refine WL.nil ?_
      refine kg (hK_34' [(2, zI 1)] _ ?_)
      refine b8 ?_
      exact hE.ret [] rfl rfl (.inl ⟨_, h, rfl⟩) (d7.of1 rfl (RV.tmp rfl))
     ·replace h := e9 h hb
      refine b6 ?_
      refine kg (hK_32' [(0, st w), (3, Value.slice (some ⟨b, 0, none⟩) 5 5), (4, Value.slice (some ⟨b_1', 0, none⟩) 4 4), (5, zI 4)] _ ?_)
      refine a6 ?_
      refine wm ?_
      refine wv (OV.add rfl rfl ⟨by decide, by decide⟩) ?_
      refine wA ?_
      refine WL.nil ?_
      refine kg (hK_29' [(0, st w), (3, Value.slice (some ⟨b, 0, none⟩) 5 5), (4, Value.slice (some ⟨b_1', 0, none⟩) 4 4), (5, zI 5)] _ ?_)
      refine RC.succ (fun K0_35' hK_35' => ?_)
      refine a7 (fun _ hK_36' => ?_)
      refine a7 (fun _ hK_37' => ?_)
      refine a6 ?_
      refine wm ?_
      refine wm ?_
      refine wv (OV.lenS rfl l9) ?_
      refine wv (OV.lss rfl rfl) ?_
      refine WL.nil ?_
      refine kg (hK_37' [(0, st w), (3, Value.slice (some ⟨b, 0, none⟩) 5 5), (4, Value.slice (some ⟨b_1', 0, none⟩) 4 4), (5, zI 5), (12, zB false)] _ ?_)
      refine d5 rfl ?_
      refine l4 ?_
      refine kg (hK_3' [(0, st w), (4, Value.slice (some ⟨b_1', 0, none⟩) 4 4)] _ ?_)
      refine a7 (fun _ hK_38' => ?_)
      refine a7 (fun _ hK_39' => ?_)
      refine a6 ?_
      refine wA ?_
      refine WL.nil ?_
      refine kg (hK_39' [(0, st w), (4, Value.slice (some ⟨b_1', 0, none⟩) 4 4), (6, zI 0)] _ ?_)
      refine b7 ?_
      refine aew 5 ?_
      refine RC.succ (fun K0_40' hK_40' => ?_)
      refine a7 (fun _ hK_41' => ?_)
      refine a7 (fun _ hK_42' => ?_)
      refine a6 ?_
      refine wm ?_
      refine wm ?_
      refine wv (OV.lenS rfl l9) ?_
      refine wv (OV.lss rfl rfl) ?_
      refine WL.nil ?_
      refine kg (hK_42' [(0, st w), (4, Value.slice (some ⟨b_1', 0, none⟩) 4 4), (6, zI 0), (24, zB true)] _ ?_)
      refine f7 rfl ?_
      refine b6 ?_
      refine kg (hK_41' [(0, st w), (4, Value.slice (some ⟨b_1', 0, none⟩) 4 4), (6, zI 0)] _ ?_)
      refine a7 (fun _ hK_43' => ?_)
      refine b7 ?_
      refine a7 (fun _ hK_44' => ?_)
      refine a6 ?_
      refine wm ?_
      refine wm ?_
      refine wv (OV.indexSl rfl rfl l9 (by decide) rfl) ?_
      refine wv (OV.load rfl (At.own 0 rfl) rfl c7) ?_
      refine wm ?_
      refine wv (OV.eqlS rfl rfl) ?_
      refine WL.nil ?_
      refine kg (hK_44' [(0, st w), (4, Value.slice (some ⟨b_1', 0, none⟩) 4 4), (6, zI 0), (32, zB (decide (([100, 101, 108] : List UInt8) = w)))] _ ?_)
      refine b5 (b := decide (([100, 101, 108] : List UInt8) = w)) rfl (fun hb => ?_) (fun hb => ?_)
      ·replace h := e8 h hb
       refine a7 (fun _ hK_45' => ?_)
       refine a6 ?_
       refine wA ?_
       refine WL.nil ?_
       refine kg (hK_45' [(2, zI 2)] _ ?_)
       refine b8 ?_
       exact hE.ret [] rfl rfl (.inl ⟨_, h, rfl⟩) (d7.of1 rfl (RV.tmp rfl))
      ·replace h := e9 h hb
       refine b6 ?_
       refine kg (hK_43' [(0, st w), (4, Value.slice (some ⟨b_1', 0, none⟩) 4 4), (6, zI 0)] _ ?_)
       refine a6 ?_
       refine wm ?_
       refine wv (OV.add rfl rfl ⟨by decide, by decide⟩) ?_
       refine wA ?_
       refine WL.nil ?_
       refine kg (hK_40' [(0, st w), (4, Value.slice (some ⟨b_1', 0, none⟩) 4 4), (6, zI 1)] _ ?_)
       refine RC.succ (fun K0_46' hK_46' => ?_)
       refine a7 (fun _ hK_47' => ?_)
       refine a7 (fun _ hK_48' => ?_)
       refine a6 ?_
       refine wm ?_
       refine wm ?_
       refine wv (OV.lenS rfl l9) ?_
       refine wv (OV.lss rfl rfl) ?_
       refine WL.nil ?_
       refine kg (hK_48' [(0, st w), (4, Value.slice (some ⟨b_1', 0, none⟩) 4 4), (6, zI 1), (24, zB true)] _ ?_)
       refine f7 rfl ?_
       refine b6 ?_
       refine kg (hK_47' [(0, st w), (4, Value.slice (some ⟨b_1', 0, none⟩) 4 4), (6, zI 1)] _ ?_)
       refine a7 (fun _ hK_49' => ?_)
       refine b7 ?_
       refine a7 (fun _ hK_50' => ?_)
       refine a6 ?_
       refine wm ?_
       refine wm ?_
       refine wv (OV.indexSl rfl rfl l9 (by decide) rfl) ?_
       refine wv (OV.load rfl (At.own 0 rfl) rfl c7) ?_
       refine wm ?_
       refine wv (OV.eqlS rfl rfl) ?_
       refine WL.nil ?_
       refine kg (hK_50' [(0, st w), (4, Value.slice (some ⟨b_1', 0, none⟩) 4 4), (6, zI 1), (32, zB (decide (([108, 101, 102, 116] : List UInt8) = w)))] _ ?_)
       refine b5 (b := decide (([108, 101, 102, 116] : List UInt8) = w)) rfl (fun hb => ?_) (fun hb => ?_)
       ·replace h := e8 h hb
        refine a7 (fun _ hK_51' => ?_)
        refine a6 ?_
        refine wA ?_
        refine WL.nil ?_
        refine kg (hK_51' [(2, zI 2)] _ ?_)
        refine b8 ?_
        exact hE.ret [] rfl rfl (.inl ⟨_, h, rfl⟩) (d7.of1 rfl (RV.tmp rfl))
       ·replace h := e9 h hb
        refine b6 ?_
        refine kg (hK_49' [(0, st w), (4, Value.slice (some ⟨b_1', 0, none⟩) 4 4), (6, zI 1)] _ ?_)
        refine a6 ?_
        refine wm ?_
        refine wv (OV.add rfl rfl ⟨by decide, by decide⟩) ?_
        refine wA ?_
        refine WL.nil ?_
        refine kg (hK_46' [(0, st w), (4, Value.slice (some ⟨b_1', 0, none⟩) 4 4), (6, zI 2)] _ ?_)
        refine RC.succ (fun K0_52' hK_52' => ?_)
        refine a7 (fun _ hK_53' => ?_)
        refine a7 (fun _ hK_54' => ?_)
        refine a6 ?_
        refine wm ?_
        refine wm ?_
        refine wv (OV.lenS rfl l9) ?_
        refine wv (OV.lss rfl rfl) ?_
        refine WL.nil ?_
        refine kg (hK_54' [(0, st w), (4, Value.slice (some ⟨b_1', 0, none⟩) 4 4), (6, zI 2), (24, zB true)] _ ?_)
        refine f7 rfl ?_
        refine b6 ?_
        refine kg (hK_53' [(0, st w), (4, Value.slice (some ⟨b_1', 0, none⟩) 4 4), (6, zI 2)] _ ?_)
        refine a7 (fun _ hK_55' => ?_)
        refine b7 ?_
        refine a7 (fun _ hK_56' => ?_)
        refine a6 ?_
        refine wm ?_
        refine wm ?_
        refine wv (OV.indexSl rfl rfl l9 (by decide) rfl) ?_
        refine wv (OV.load rfl (At.own 0 rfl) rfl c7) ?_
        refine wm ?_
        refine wv (OV.eqlS rfl rfl) ?_
        refine WL.nil ?_
        refine kg (hK_56' [(0, st w), (4, Value.slice (some ⟨b_1', 0, none⟩) 4 4), (6, zI 2), (32, zB (decide (([114, 105, 103, 104, 116] : List UInt8) = w)))] _ ?_)
        refine b5 (b := decide (([114, 105, 103, 104, 116] : List UInt8) = w)) rfl (fun hb => ?_) (fun hb => ?_)
        ·replace h := e8 h hb
         refine a7 (fun _ hK_57' => ?_)
         refine a6 ?_
         refine wA ?_
         refine WL.nil ?_
         refine kg (hK_57' [(2, zI 2)] _ ?_)
         refine b8 ?_
         exact hE.ret [] rfl rfl (.inl ⟨_, h, rfl⟩) (d7.of1 rfl (RV.tmp rfl))
        ·replace h := e9 h hb
         refine b6 ?_
         refine kg (hK_55' [(0, st w), (4, Value.slice (some ⟨b_1', 0, none⟩) 4 4), (6, zI 2)] _ ?_)
         refine a6 ?_
         refine wm ?_
         refine wv (OV.add rfl rfl ⟨by decide, by decide⟩) ?_
         refine wA ?_
         refine WL.nil ?_
         refine kg (hK_52' [(0, st w), (4, Value.slice (some ⟨b_1', 0, none⟩) 4 4), (6, zI 3)] _ ?_)
         refine RC.succ (fun K0_58' hK_58' => ?_)
         refine a7 (fun _ hK_59' => ?_)
         refine a7 (fun _ hK_60' => ?_)
         refine a6 ?_
         refine wm ?_
         refine wm ?_
         refine wv (OV.lenS rfl l9) ?_
         refine wv (OV.lss rfl rfl) ?_
         refine WL.nil ?_
         refine kg (hK_60' [(0, st w), (4, Value.slice (some ⟨b_1', 0, none⟩) 4 4), (6, zI 3), (24, zB true)] _ ?_)
         refine f7 rfl ?_
         refine b6 ?_
         refine kg (hK_59' [(0, st w), (4, Value.slice (some ⟨b_1', 0, none⟩) 4 4), (6, zI 3)] _ ?_)
         refine a7 (fun _ hK_61' => ?_)
         refine b7 ?_
         refine a7 (fun _ hK_62' => ?_)
         refine a6 ?_
         refine wm ?_
         refine wm ?_
         refine wv (OV.indexSl rfl rfl l9 (by decide) rfl) ?_
         refine wv (OV.load rfl (At.own 0 rfl) rfl c7) ?_
         refine wm ?_
         refine wv (OV.eqlS rfl rfl) ?_
         refine WL.nil ?_
         refine kg (hK_62' [(0, st w), (4, Value.slice (some ⟨b_1', 0, none⟩) 4 4), (6, zI 3), (32, zB (decide (([100, 101, 102, 97, 117, 108, 116] : List UInt8) = w)))] _ ?_)
         refine b5 (b := decide (([100, 101, 102, 97, 117, 108, 116] : List UInt8) = w)) rfl (fun hb => ?_) (fun hb => ?_)
         ·replace h := e8 h hb
          refine a7 (fun _ hK_63' => ?_)
          refine a6 ?_
          refine wA ?_
          refine WL.nil ?_
          refine kg (hK_63' [(2, zI 2)] _ ?_)
          refine b8 ?_
          exact hE.ret [] rfl rfl (.inl ⟨_, h, rfl⟩) (d7.of1 rfl (RV.tmp rfl))
         ·replace h := e9 h hb
          refine b6 ?_
          refine kg (hK_61' [(0, st w), (4, Value.slice (some ⟨b_1', 0, none⟩) 4 4), (6, zI 3)] _ ?_)
          refine a6 ?_
          refine wm ?_
          refine wv (OV.add rfl rfl ⟨by decide, by decide⟩) ?_
          refine wA ?_
          refine WL.nil ?_
          refine kg (hK_58' [(0, st w), (4, Value.slice (some ⟨b_1', 0, none⟩) 4 4), (6, zI 4)] _ ?_)
          refine RC.succ (fun K0_64' hK_64' => ?_)
          refine a7 (fun _ hK_65' => ?_)
          refine a7 (fun _ hK_66' => ?_)
          refine a6 ?_
          refine wm ?_
          refine wm ?_
          refine wv (OV.lenS rfl l9) ?_
          refine wv (OV.lss rfl rfl) ?_
          refine WL.nil ?_
          refine kg (hK_66' [(0, st w), (4, Value.slice (some ⟨b_1', 0, none⟩) 4 4), (6, zI 4), (24, zB false)] _ ?_)
          refine d5 rfl ?_
          refine l4 ?_
          refine kg (hK_38' [(0, st w)] _ ?_)
          refine a7 (fun _ hK_67' => ?_)
          refine a7 (fun _ hK_68' => ?_)
          refine a6 ?_
          refine wm ?_
          refine wv (OV.eqlS rfl rfl) ?_
          refine WL.nil ?_
          refine kg (hK_68' [(0, st w), (34, zB (decide (w = ([110, 111, 114, 109] : List UInt8))))] _ ?_)
          refine b5 (b := decide (w = ([110, 111, 114, 109] : List UInt8))) rfl (fun hb => ?_) (fun hb => ?_)
          ·replace h := e8 h hb
           refine a7 (fun _ hK_69' => ?_)
           refine a6 ?_
           refine wA ?_
           refine WL.nil ?_
           refine kg (hK_69' [(2, zI 3)] _ ?_)
           refine b8 ?_
           exact hE.ret [] rfl rfl (.inl ⟨_, h, rfl⟩) (d7.of1 rfl (RV.tmp rfl))
          ·replace h := e9 h hb
           refine b6 ?_
           refine kg (hK_67' [(0, st w)] _ ?_)
           refine a7 (fun _ hK_70' => ?_)
           refine a7 (fun _ hK_71' => ?_)
           refine a6 ?_
           refine wm ?_
           refine wv (OV.eqlS rfl rfl) ?_
           refine WL.nil ?_
           refine kg (hK_71' [(36, zB (decide (w = ([108, 101, 116] : List UInt8))))] _ ?_)
           refine b5 (b := decide (w = ([108, 101, 116] : List UInt8))) rfl (fun hb => ?_) (fun hb => ?_)
           ·replace h := e8 h hb
            refine a7 (fun _ hK_72' => ?_)
            refine a6 ?_
            refine wA ?_
            refine WL.nil ?_
            refine kg (hK_72' [(2, zI (-1))] _ ?_)
            refine b8 ?_
            exact hE.ret [] rfl rfl (.inl ⟨_, h, rfl⟩) (d7.of1 rfl (RV.tmp rfl))
           ·replace h := e9 h hb
            refine b6 ?_
            refine KX.go (hK_70' [] _ ?_) trivial
            refine a7 (fun _ hK_73' => ?_)
            refine a6 ?_
            refine wA ?_
            refine WL.nil ?_
            refine kg (hK_73' [(2, zI 0)] _ ?_)
            refine b8 ?_
            exact hE.ret [] rfl rfl (.inl ⟨_, h, rfl⟩) (d7.of1 rfl (RV.tmp rfl))
def aj8 (sign : List UInt8) (K : Int → Prop) : Prop :=
 (if (decide (sign = ([124] : List UInt8))) = true then
  K 0
 else
  ∃ (J0 : Bool → Prop),
   (∀ (t6 : Bool), J0 t6 →
    (if t6 = true then
     K 1
    else
     (if (decide (sign = ([62, 62] : List UInt8))) = true then
      K 2
     else
      (if (decide (sign = ([126] : List UInt8))) = true then
       K 3
      else
       (if (decide (sign = ([46] : List UInt8))) = true then
        K 4
       else
        K (-1)))))) ∧
   (if (decide (sign = ([38] : List UInt8))) = true then
    J0 (decide (sign = ([38] : List UInt8)))
   else
    J0 (decide (sign = ([45] : List UInt8)))))
theorem au7  (sign : List UInt8) (K : Int → Prop) (h : aj8 sign K) :
  d9 Tryd.prog 52 [st sign] [] [] (fun o => (∃ (v : Int), K v ∧ o = .ret (zI v) []) ∨ (False)) := by
 unfold aj8 at h
 refine c8 (n := 15) (L0 := [(0, st sign)]) Tryd.func52 rfl rfl rfl rfl (fun w0 M Q hE => ?_)
 refine a7 (fun _ hK => ?_)
 refine a6 ?_
 refine wA ?_
 refine WL.nil ?_
 refine kg (hK [(0, st sign)] _ ?_)
 refine a7 (fun _ hK_1' => ?_)
 refine a7 (fun _ hK_2' => ?_)
 refine a6 ?_
 refine wm ?_
 refine WL.nil ?_
 refine kg (hK_2' [(3, st sign)] _ ?_)
 refine b7 ?_
 refine a7 (fun _ hK_3' => ?_)
 refine a6 ?_
 refine wv (OV.eqlS rfl rfl) ?_
 refine wA ?_
 refine WL.nil ?_
 refine kg (hK_3' [(3, st sign), (4, zB (decide (sign = ([124] : List UInt8))))] _ ?_)
 refine b5 (b := decide (sign = ([124] : List UInt8))) rfl (fun hb => ?_) (fun hb => ?_)
 ·replace h := e8 h hb
  refine a7 (fun _ hK_4' => ?_)
  refine a6 ?_
  refine wA ?_
  refine WL.nil ?_
  refine kg (hK_4' [(2, zI 0)] _ ?_)
  refine b8 ?_
  exact hE.ret [] rfl rfl (.inl ⟨_, h, rfl⟩) (d7.of1 rfl (RV.tmp rfl))
 ·replace h := e9 h hb
  obtain ⟨J0, hJ, h⟩ := h
  refine m5 (X := Bool) (fun σ => J0 σ) (fun σ => [(3, st sign), (6, zB σ)]) (fun σ => []) ?_ (fun K0_6' hK_6' => ?_)
  ·rintro t6 hj
   replace h := hJ t6 hj
   show WC _ _ _ _ [(3, st sign), (6, zB t6)] []
   refine b5 (b := t6) rfl (fun hb => ?_) (fun hb => ?_)
   ·replace h := e8 h hb
    refine a7 (fun _ hK_7' => ?_)
    refine a6 ?_
    refine wA ?_
    refine WL.nil ?_
    refine kg (hK_7' [(2, zI 1)] _ ?_)
    refine b8 ?_
    exact hE.ret [] rfl rfl (.inl ⟨_, h, rfl⟩) (d7.of1 rfl (RV.tmp rfl))
   ·replace h := e9 h hb
    refine a7 (fun _ hK_8' => ?_)
    refine a6 ?_
    refine wv (OV.eqlS rfl rfl) ?_
    refine wA ?_
    refine WL.nil ?_
    refine kg (hK_8' [(3, st sign), (9, zB (decide (sign = ([62, 62] : List UInt8))))] _ ?_)
    refine b5 (b := decide (sign = ([62, 62] : List UInt8))) rfl (fun hb => ?_) (fun hb => ?_)
    ·replace h := e8 h hb
     refine a7 (fun _ hK_9' => ?_)
     refine a6 ?_
     refine wA ?_
     refine WL.nil ?_
     refine kg (hK_9' [(2, zI 2)] _ ?_)
     refine b8 ?_
     exact hE.ret [] rfl rfl (.inl ⟨_, h, rfl⟩) (d7.of1 rfl (RV.tmp rfl))
    ·replace h := e9 h hb
     refine a7 (fun _ hK_10' => ?_)
     refine a6 ?_
     refine wv (OV.eqlS rfl rfl) ?_
     refine wA ?_
     refine WL.nil ?_
     refine kg (hK_10' [(3, st sign), (11, zB (decide (sign = ([126] : List UInt8))))] _ ?_)
     refine b5 (b := decide (sign = ([126] : List UInt8))) rfl (fun hb => ?_) (fun hb => ?_)
     ·replace h := e8 h hb
      refine a7 (fun _ hK_11' => ?_)
      refine a6 ?_
      refine wA ?_
      refine WL.nil ?_
      refine kg (hK_11' [(2, zI 3)] _ ?_)
      refine b8 ?_
      exact hE.ret [] rfl rfl (.inl ⟨_, h, rfl⟩) (d7.of1 rfl (RV.tmp rfl))
     ·replace h := e9 h hb
      refine a7 (fun _ hK_12' => ?_)
      refine a6 ?_
      refine wv (OV.eqlS rfl rfl) ?_
      refine wA ?_
      refine WL.nil ?_
      refine kg (hK_12' [(13, zB (decide (sign = ([46] : List UInt8))))] _ ?_)
      refine b5 (b := decide (sign = ([46] : List UInt8))) rfl (fun hb => ?_) (fun hb => ?_)
      ·replace h := e8 h hb
       refine a7 (fun _ hK_13' => ?_)
       refine a6 ?_
       refine wA ?_
       refine WL.nil ?_
       refine kg (hK_13' [(2, zI 4)] _ ?_)
       refine b8 ?_
       exact hE.ret [] rfl rfl (.inl ⟨_, h, rfl⟩) (d7.of1 rfl (RV.tmp rfl))
      ·replace h := e9 h hb
       refine b6 ?_
       refine KX.go (hK_1' [] _ ?_) trivial
       refine a7 (fun _ hK_14' => ?_)
       refine a6 ?_
       refine wA ?_
       refine WL.nil ?_
       refine kg (hK_14' [(2, zI (-1))] _ ?_)
       refine b8 ?_
       exact hE.ret [] rfl rfl (.inl ⟨_, h, rfl⟩) (d7.of1 rfl (RV.tmp rfl))
  ·skip
   refine a7 (fun _ hK_15' => ?_)
   refine a6 ?_
   refine wv (OV.eqlS rfl rfl) ?_
   refine wA ?_
   refine WL.nil ?_
   refine kg (hK_15' [(3, st sign), (6, zB (decide (sign = ([38] : List UInt8))))] _ ?_)
   refine b5 (b := decide (sign = ([38] : List UInt8))) rfl (fun hb => ?_) (fun hb => ?_)
   ·replace h := e8 h hb
    refine b6 ?_
    exact kh (hK_6' (decide (sign = ([38] : List UInt8))) h) []
   ·replace h := e9 h hb
    refine a6 ?_
    refine wv (OV.eqlS rfl rfl) ?_
    refine wA ?_
    refine WL.nil ?_
    exact kh (hK_6' (decide (sign = ([45] : List UInt8))) h) []
def ak7 (ts : List Tok) (ns : List NdV) (k0 : Int) (op0 : Int) (er0 : Int) (ea0 : Int) (dv0 : Value) (mn0 : Int) (B0 : List (Nat × Obj)) (e : Int) (K : Int → Int → Int → Int → Int → Value → Int → (List Tok) → (List NdV) → (List (Nat × Obj)) → Prop) : Prop :=
 ∃ (J0 : Int → Int → Prop),
  (∀ (s_3 : Int) (s_4 : Int), J0 s_3 s_4 →
   K 0 k0 op0 s_3 s_4 dv0 mn0 ts ns B0) ∧
  (if (decide (er0 = 0)) = true then
   (0 ≤ k0 ∧ k0 < (ts.length : Int)) ∧
   J0 e ((ts.getD (k0).toNat default).2.1)
  else
   J0 er0 ea0)
theorem avn (pb : Nat) (wa : Value) (wn : Value) (ts : List Tok) (ns : List NdV) (k0 : Int) (op0 : Int) (er0 : Int) (ea0 : Int) (dv0 : Value) (mn0 : Int) (B0 : List (Nat × Obj)) (e : Int) (K : Int → Int → Int → Int → Int → Value → Int → (List Tok) → (List NdV) → (List (Nat × Obj)) → Prop) (h : ak7 ts ns k0 op0 er0 ea0 dv0 mn0 B0 e K) :
  d9 Tryd.prog 20 [zP pb, zI e] [] [HA.blk pb (.cells [wa, zI k0, zI op0, zI er0, zI ea0, wn, dv0, zI mn0].toArray 62 (0, 0)), HA.row wa 64 3 ts.length (ts.flatMap e6), HA.row wn 69 4 ns.length (ns.flatMap ndC), pool B0] (fun o => (∃ (v : Int) (d_2' : Int) (d_3' : Int) (d_4' : Int) (d_5' : Int) (d_6' : Value) (d_7' : Int) (d : List Tok) (d_1' : List NdV) (D : List (Nat × Obj)), K v d_2' d_3' d_4' d_5' d_6' d_7' d d_1' D ∧ o = .ret (zI v) [HA.blk pb (.cells [wa, zI d_2', zI d_3', zI d_4', zI d_5', wn, d_6', zI d_7'].toArray 62 (0, 0)), HA.row wa 64 3 d.length (d.flatMap e6), HA.row wn 69 4 d_1'.length (d_1'.flatMap ndC), pool D]) ∨ (False)) := by
 unfold ak7 at h
 refine c8 (n := 28) (L0 := [(0, zP pb), (1, zI e)]) Tryd.func20 rfl rfl rfl rfl (fun w0 M Q hE => ?_)
 refine a7 (fun _ hK => ?_)
 refine a6 ?_
 refine wA ?_
 refine WL.nil ?_
 refine kg (hK [(0, zP pb), (1, zI e)] _ ?_)
 obtain ⟨J0, hJ, h⟩ := h
 refine m5 (X := Int × Int) (fun σ => J0 σ.1 σ.2) (fun σ => []) (fun σ => [HA.blk pb (.cells [wa, zI k0, zI op0, zI σ.1, zI σ.2, wn, dv0, zI mn0].toArray 62 (0, 0)), HA.row wa 64 3 ts.length (ts.flatMap e6), HA.row wn 69 4 ns.length (ns.flatMap ndC), pool B0]) ?_ (fun K0_3' hK_3' => ?_)
 ·rintro ⟨s_3, s_4⟩ hj
  replace h := hJ s_3 s_4 hj
  show WC _ _ _ _ [] [HA.blk pb (.cells [wa, zI k0, zI op0, zI s_3, zI s_4, wn, dv0, zI mn0].toArray 62 (0, 0)), HA.row wa 64 3 ts.length (ts.flatMap e6), HA.row wn 69 4 ns.length (ns.flatMap ndC), pool B0]
  refine a7 (fun _ hK_4' => ?_)
  refine a6 ?_
  refine wA ?_
  refine WL.nil ?_
  refine kg (hK_4' [(4, zI 0)] _ ?_)
  refine b8 ?_
  exact hE.ret [0, 1, 2, 3] rfl rfl (.inl ⟨_, _, _, _, _, _, _, _, _, _, h, rfl⟩) (d7.of1 rfl (RV.tmp rfl))
 ·skip
  refine a7 (fun _ hK_5' => ?_)
  refine a6 ?_
  refine wm ?_
  refine wv (OV.nilCheck rfl) ?_
  refine wv (OV.fieldAddr0 rfl q9) ?_
  refine wv (OV.load rfl (At.own 0 rfl) rfl a8) ?_
  refine wv (OV.eql rfl rfl) ?_
  refine WL.nil ?_
  refine kg (hK_5' [(0, zP pb), (1, zI e), (9, zB (decide (er0 = 0)))] _ ?_)
  refine b5 (b := decide (er0 = 0)) rfl (fun hb => ?_) (fun hb => ?_)
  ·replace h := e8 h hb
   refine a7 (fun _ hK_6' => ?_)
   refine a6 ?_
   refine wm ?_
   refine wm ?_
   refine wv (OV.nilCheck rfl) ?_
   refine wv (OV.fieldAddr0 rfl q9) ?_
   refine WL.store (vs := [zI e]) (cs' := [wa, zI k0, zI op0, zI e, zI ea0, wn, dv0, zI mn0]) 0 rfl rfl rfl rfl f9 (Nat.le_of_ble_eq_true rfl) rfl rfl rfl ?_
   refine WL.nil ?_
   refine kg (hK_6' [(0, zP pb)] _ ?_)
   refine m0 12 [] f0 (by kernel_rfl) rfl (fun T_1' hT_1' => ?_)
   refine fv (fun _ => OV.move rfl) ?_
   refine fv (fun _ => OV.move rfl) ?_
   refine fv (fun _ => OV.nilCheck rfl) ?_
   refine fv (fun _ => OV.fieldAddr0 rfl l0) ?_
   refine fv (fun _ => OV.load rfl (At.own 0 rfl) rfl p8) ?_
   refine fv (fun _ => OV.move rfl) ?_
   refine fv (fun _ => OV.nilCheck rfl) ?_
   refine fv (fun _ => OV.fieldAddr0 rfl e7) ?_
   refine fv (fun _ => OV.load rfl (At.own 0 rfl) rfl a8) ?_
   obtain ⟨o_1', h⟩ := h
   refine fv (fun _ => OV.indexRow 1 rfl rfl rfl r9 o_1') ?_
   refine fv (fun _ => OV.fieldAddr rfl s8) ?_
   refine fv (fun _ => OV.loadEF (f := e6) (o := 1) 1 rfl rfl p9 (by omega) rfl a8) ?_
   refine FL.weak (L' := fun γ => [(14, zP pb), (25, zI ((ts.getD (k0).toNat default).2.1))]) (fun γ => ⟨rfl, rfl, trivial⟩) (FL.nil (hT_1' (fun γ => [(14, zP pb), (25, zI ((ts.getD (k0).toNat default).2.1))]) (fun γ => ?_)))
   refine wv (OV.nilCheck rfl) ?_
   refine wv (OV.fieldAddr0 rfl aha) ?_
   refine WL.store (vs := [zI ((ts.getD (k0).toNat default).2.1)]) (cs' := [wa, zI k0, zI op0, zI e, zI ((ts.getD (k0).toNat default).2.1), wn, dv0, zI mn0]) 0 rfl rfl rfl rfl f9 (Nat.le_of_ble_eq_true rfl) rfl rfl rfl ?_
   refine WL.nil ?_
   exact KX.goH (hK_3' (e, (ts.getD (k0).toNat default).2.1) h) trivial [0, 1, 2, 3] rfl rfl
  ·replace h := e9 h hb
   refine b6 ?_
   exact KX.goH (hK_3' (er0, ea0) h) trivial [0, 1, 2, 3] rfl rfl
def aj2 (ts : List Tok) (ns : List NdV) (k0 : Int) (op0 : Int) (er0 : Int) (ea0 : Int) (dv0 : Value) (mn0 : Int) (B0 : List (Nat × Obj)) (m : List UInt8) (K : Bool → Int → Int → Int → Int → Value → Int → (List Tok) → (List NdV) → (List (Nat × Obj)) → Prop) : Prop :=
 ((decide (er0 = 0)) = true → (0 ≤ k0 ∧ k0 < (ts.length : Int))) ∧
 (((decide (er0 = 0)) && (decide ((ts.getD (k0).toNat default).1 = 4))) = true → (0 ≤ k0 ∧ k0 < (ts.length : Int))) ∧
 K (((decide (er0 = 0)) && (decide ((ts.getD (k0).toNat default).1 = 4))) && (decide ((ts.getD (k0).toNat default).2.2 = m))) k0 op0 er0 ea0 dv0 mn0 ts ns B0
theorem aua (pb : Nat) (wa : Value) (wn : Value) (ts : List Tok) (ns : List NdV) (k0 : Int) (op0 : Int) (er0 : Int) (ea0 : Int) (dv0 : Value) (mn0 : Int) (B0 : List (Nat × Obj)) (m : List UInt8) (K : Bool → Int → Int → Int → Int → Value → Int → (List Tok) → (List NdV) → (List (Nat × Obj)) → Prop) (h : aj2 ts ns k0 op0 er0 ea0 dv0 mn0 B0 m K) :
  d9 Tryd.prog 50 [zP pb, st m] [] [HA.blk pb (.cells [wa, zI k0, zI op0, zI er0, zI ea0, wn, dv0, zI mn0].toArray 62 (0, 0)), HA.row wa 64 3 ts.length (ts.flatMap e6), HA.row wn 69 4 ns.length (ns.flatMap ndC), pool B0] (fun o => (∃ (v : Bool) (d_2' : Int) (d_3' : Int) (d_4' : Int) (d_5' : Int) (d_6' : Value) (d_7' : Int) (d : List Tok) (d_1' : List NdV) (D : List (Nat × Obj)), K v d_2' d_3' d_4' d_5' d_6' d_7' d d_1' D ∧ o = .ret (zB v) [HA.blk pb (.cells [wa, zI d_2', zI d_3', zI d_4', zI d_5', wn, d_6', zI d_7'].toArray 62 (0, 0)), HA.row wa 64 3 d.length (d.flatMap e6), HA.row wn 69 4 d_1'.length (d_1'.flatMap ndC), pool D]) ∨ (False)) := by
 unfold aj2 at h
 refine c8 (n := 39) (L0 := [(0, zP pb), (1, st m)]) Tryd.func50 rfl rfl rfl rfl (fun w0 M Q hE => ?_)
 refine a7 (fun _ hK => ?_)
 refine a6 ?_
 refine wA ?_
 refine WL.nil ?_
 refine kg (hK [(0, zP pb), (1, st m)] _ ?_)
 refine a7 (fun _ hK_1' => ?_)
 refine l8 [] f0 (by kernel_rfl) rfl (fun T hT => ?_)
 refine fv (fun _ => OV.move rfl) ?_
 refine fv (fun _ => OV.nilCheck rfl) ?_
 refine fv (fun _ => OV.fieldAddr0 rfl q9) ?_
 refine fv (fun _ => OV.load rfl (At.own 0 rfl) rfl a8) ?_
 refine fv (fun _ => OV.eql rfl rfl) ?_
 refine fv (fun _ => OV.move rfl) ?_
 obtain ⟨o_1', h⟩ := h
 refine FL.cut 13 rfl (fun _ => [(0, zP pb), (1, st m), (23, zB ((decide (er0 = 0)) && (decide ((ts.getD (k0).toNat default).1 = 4))))]) ?_ (fun K0_2' hK_2' => ?_)
 rotate_left
 ·refine FL.split (decide (er0 = 0)) (fun hb => ?_) (fun hb => ?_)
  ·have o := o_1' hb
   refine FL.set 10 (fun _ => rfl) (congrArg zB hb) ?_
   refine fv (fun _ => OV.move rfl) ?_
   refine fv (fun _ => OV.nilCheck rfl) ?_
   refine fv (fun _ => OV.fieldAddr0 rfl l0) ?_
   refine fv (fun _ => OV.load rfl (At.own 0 rfl) rfl p8) ?_
   refine fv (fun _ => OV.move rfl) ?_
   refine fv (fun _ => OV.nilCheck rfl) ?_
   refine fv (fun _ => OV.fieldAddr0 rfl e7) ?_
   refine fv (fun _ => OV.load rfl (At.own 0 rfl) rfl a8) ?_
   refine fv (fun _ => OV.indexRow 1 rfl rfl rfl r9 o) ?_
   refine fv (fun _ => OV.fieldAddr rfl m6) ?_
   refine fv (fun _ => OV.loadEF (f := e6) (o := 0) 1 rfl rfl p9 (by omega) rfl a8) ?_
   refine fv (fun _ => OV.eql rfl rfl) ?_
   refine fv (fun _ => OV.pickT rfl rfl) ?_
   refine FL.set 23 (fun _ => rfl) (bT (v := decide ((ts.getD (k0).toNat default).1 = 4)) hb) ?_
   exact FL.weak (L' := fun _ => [(0, zP pb), (1, st m), (23, zB ((decide (er0 = 0)) && (decide ((ts.getD (k0).toNat default).1 = 4))))]) (fun _ => ⟨rfl, rfl, rfl, trivial⟩) (FL.nil hK_2')
  ·refine FL.set 10 (fun _ => rfl) (congrArg zB hb) ?_
   refine FL.skip rfl (fun _ => rfl) rfl rfl ?_
   refine FL.skip rfl (fun _ => rfl) rfl rfl ?_
   refine FL.skip rfl (fun _ => rfl) rfl rfl ?_
   refine FL.skip rfl (fun _ => rfl) rfl rfl ?_
   refine FL.skip rfl (fun _ => rfl) rfl rfl ?_
   refine FL.skip rfl (fun _ => rfl) rfl rfl ?_
   refine FL.skip rfl (fun _ => rfl) rfl rfl ?_
   refine FL.skip rfl (fun _ => rfl) rfl rfl ?_
   refine FL.skip rfl (fun _ => rfl) rfl rfl ?_
   refine FL.skip rfl (fun _ => rfl) rfl rfl ?_
   refine FL.skip rfl (fun _ => rfl) rfl rfl ?_
   refine FL.skip rfl (fun _ => rfl) rfl rfl ?_
   refine fv (fun _ => OV.pickF rfl rfl) ?_
   refine FL.set 23 (fun _ => rfl) (bF (v := decide ((ts.getD (k0).toNat default).1 = 4)) hb) ?_
   exact FL.weak (L' := fun _ => [(0, zP pb), (1, st m), (23, zB ((decide (er0 = 0)) && (decide ((ts.getD (k0).toNat default).1 = 4))))]) (fun _ => ⟨rfl, rfl, rfl, trivial⟩) (FL.nil hK_2')
 refine fv (fun _ => OV.move rfl) ?_
 obtain ⟨o_3', h⟩ := h
 refine FL.cut 14 rfl (fun _ => [(38, zB (((decide (er0 = 0)) && (decide ((ts.getD (k0).toNat default).1 = 4))) && (decide ((ts.getD (k0).toNat default).2.2 = m))))]) ?_ (fun K0_3' hK_3' => ?_)
 rotate_left
 ·refine FL.split ((decide (er0 = 0)) && (decide ((ts.getD (k0).toNat default).1 = 4))) (fun hb => ?_) (fun hb => ?_)
  ·have o_2' := o_3' hb
   refine FL.set 24 (fun _ => rfl) (congrArg zB hb) ?_
   refine fv (fun _ => OV.move rfl) ?_
   refine fv (fun _ => OV.nilCheck rfl) ?_
   refine fv (fun _ => OV.fieldAddr0 rfl l0) ?_
   refine fv (fun _ => OV.load rfl (At.own 0 rfl) rfl p8) ?_
   refine fv (fun _ => OV.move rfl) ?_
   refine fv (fun _ => OV.nilCheck rfl) ?_
   refine fv (fun _ => OV.fieldAddr0 rfl e7) ?_
   refine fv (fun _ => OV.load rfl (At.own 0 rfl) rfl a8) ?_
   refine fv (fun _ => OV.indexRow 1 rfl rfl rfl r9 o_2') ?_
   refine fv (fun _ => OV.fieldAddr rfl l3) ?_
   refine fv (fun _ => OV.loadEF (f := e6) (o := 2) 1 rfl rfl p9 (by omega) rfl c7) ?_
   refine fv (fun _ => OV.move rfl) ?_
   refine fv (fun _ => OV.eqlS rfl rfl) ?_
   refine fv (fun _ => OV.pickT rfl rfl) ?_
   refine FL.set 38 (fun _ => rfl) (bT (v := decide ((ts.getD (k0).toNat default).2.2 = m)) hb) ?_
   exact FL.weak (L' := fun _ => [(38, zB (((decide (er0 = 0)) && (decide ((ts.getD (k0).toNat default).1 = 4))) && (decide ((ts.getD (k0).toNat default).2.2 = m))))]) (fun _ => ⟨rfl, trivial⟩) (FL.nil hK_3')
  ·refine FL.set 24 (fun _ => rfl) (congrArg zB hb) ?_
   refine FL.skip rfl (fun _ => rfl) rfl rfl ?_
   refine FL.skip rfl (fun _ => rfl) rfl rfl ?_
   refine FL.skip rfl (fun _ => rfl) rfl rfl ?_
   refine FL.skip rfl (fun _ => rfl) rfl rfl ?_
   refine FL.skip rfl (fun _ => rfl) rfl rfl ?_
   refine FL.skip rfl (fun _ => rfl) rfl rfl ?_
   refine FL.skip rfl (fun _ => rfl) rfl rfl ?_
   refine FL.skip rfl (fun _ => rfl) rfl rfl ?_
   refine FL.skip rfl (fun _ => rfl) rfl rfl ?_
   refine FL.skip rfl (fun _ => rfl) rfl rfl ?_
   refine FL.skip rfl (fun _ => rfl) rfl rfl ?_
   refine FL.skip rfl (fun _ => rfl) rfl rfl ?_
   refine FL.skip rfl (fun _ => rfl) rfl rfl ?_
   refine fv (fun _ => OV.pickF rfl rfl) ?_
   refine FL.set 38 (fun _ => rfl) (bF (v := decide ((ts.getD (k0).toNat default).2.2 = m)) hb) ?_
   exact FL.weak (L' := fun _ => [(38, zB (((decide (er0 = 0)) && (decide ((ts.getD (k0).toNat default).1 = 4))) && (decide ((ts.getD (k0).toNat default).2.2 = m))))]) (fun _ => ⟨rfl, trivial⟩) (FL.nil hK_3')
 refine fv (fun _ => OV.assign rfl) ?_
 refine FL.weak (L' := fun _ => [(4, zB (((decide (er0 = 0)) && (decide ((ts.getD (k0).toNat default).1 = 4))) && (decide ((ts.getD (k0).toNat default).2.2 = m))))]) (fun _ => ⟨rfl, trivial⟩) (FL.nil (hT (fun _ => [(4, zB (((decide (er0 = 0)) && (decide ((ts.getD (k0).toNat default).1 = 4))) && (decide ((ts.getD (k0).toNat default).2.2 = m))))]) (fun _ => ?_)))
 refine kg (hK_1' [(4, zB (((decide (er0 = 0)) && (decide ((ts.getD (k0).toNat default).1 = 4))) && (decide ((ts.getD (k0).toNat default).2.2 = m))))] _ ?_)
 refine b8 ?_
 exact hE.ret [0, 1, 2, 3] rfl rfl (.inl ⟨_, _, _, _, _, _, _, _, _, _, h, rfl⟩) (d7.of1 rfl (RV.tmp rfl))
def am5 (ts : List Tok) (ns : List NdV) (k0 : Int) (op0 : Int) (er0 : Int) (ea0 : Int) (dv0 : Value) (mn0 : Int) (B0 : List (Nat × Obj)) (kind : Int) (at0 : Int) (text : List UInt8) (pv : Value) (K : Int → Int → Int → Int → Int → Value → Int → (List Tok) → (List NdV) → (List (Nat × Obj)) → Prop) : Prop :=
 (pv.oneCell' = true) ∧
 (pv.oneCell' = true) ∧
 (((ns.length + 1) + (ns.length + 1) / 4 + 192) * 56 ≤ 281474976710656 ∧ ns.length + 1 ≤ 9223372036854775807) ∧
 (I64 (((ns ++ [((kind, at0, text, pv) : NdV)]).length : Int) - 1)) ∧
 K (((ns ++ [((kind, at0, text, pv) : NdV)]).length : Int) - 1) k0 op0 er0 ea0 dv0 mn0 ts (ns ++ [((kind, at0, text, pv) : NdV)]) B0
theorem aw5 (pb : Nat) (wa : Value) (wn : Value) (ts : List Tok) (ns : List NdV) (k0 : Int) (op0 : Int) (er0 : Int) (ea0 : Int) (dv0 : Value) (mn0 : Int) (B0 : List (Nat × Obj)) (kind : Int) (at0 : Int) (text : List UInt8) (pv : Value) (K : Int → Int → Int → Int → Int → Value → Int → (List Tok) → (List NdV) → (List (Nat × Obj)) → Prop) (h : am5 ts ns k0 op0 er0 ea0 dv0 mn0 B0 kind at0 text pv K) :
  d9 Tryd.prog 53 [zP pb, zI kind, zI at0, st text, pv] [] [HA.blk pb (.cells [wa, zI k0, zI op0, zI er0, zI ea0, wn, dv0, zI mn0].toArray 62 (0, 0)), HA.row wa 64 3 ts.length (ts.flatMap e6), HA.row wn 69 4 ns.length (ns.flatMap ndC), pool B0] (fun o => (∃ (v : Int) (d_2' : Int) (d_3' : Int) (d_4' : Int) (d_5' : Int) (d_6' : Value) (d_7' : Int) (d : List Tok) (w_2' : Value) (d_1' : List NdV) (D : List (Nat × Obj)), K v d_2' d_3' d_4' d_5' d_6' d_7' d d_1' D ∧ o = .ret (zI v) [HA.blk pb (.cells [wa, zI d_2', zI d_3', zI d_4', zI d_5', w_2', d_6', zI d_7'].toArray 62 (0, 0)), HA.row wa 64 3 d.length (d.flatMap e6), HA.row w_2' 69 4 d_1'.length (d_1'.flatMap ndC), pool D]) ∨ (False)) := by
 unfold am5 at h
 refine c8 (n := 34) (L0 := [(0, zP pb), (1, zI kind), (2, zI at0), (3, st text), (4, pv)]) Tryd.func53 rfl rfl rfl rfl (fun w0 M Q hE => ?_)
 refine a7 (fun _ hK => ?_)
 refine a6 ?_
 refine wA ?_
 refine WL.nil ?_
 refine kg (hK [(0, zP pb), (1, zI kind), (2, zI at0), (3, st text), (4, pv)] _ ?_)
 refine a7 (fun _ hK_1' => ?_)
 refine a6 ?_
 refine wm ?_
 refine wm ?_
 refine wv (OV.nilCheck rfl) ?_
 refine wv (OV.fieldAddr0 rfl y8) ?_
 refine wv (OV.fieldAddr rfl r8) ?_
 refine wv (OV.load rfl (At.own 0 rfl) rfl aap) ?_
 refine wm ?_
 refine wm ?_
 refine wm ?_
 refine wm ?_
 obtain ⟨o, h⟩ := h
 refine wv (OV.buildC (qs := [(0, [zI kind]), (1, [zI at0]), (2, [st text]), (3, [pv])]) (cs := [zI kind, zI at0, st text, pv]) rfl ⟨rfl, rfl, ⟨rfl, rfl, ⟨rfl, rfl, ⟨rfl, aaf o, trivial⟩⟩⟩⟩ rfl) ?_
 refine WL.make (MV.buildSlice (cs := [zI kind, zI at0, st text, pv]) rfl abo (by kernel_rfl)) rfl rfl rfl (fun b => ?_)
 obtain ⟨o_1', h⟩ := h
 obtain ⟨o_2', h⟩ := h
 refine WL.append (f := ndC) (ms := [((kind, at0, text, pv) : NdV)]) 3 0 rfl rfl rfl rfl rfl rfl ac8 (by decide) (aw8 o_1') abo ap7 rfl o_2' rfl rfl (fun w => ?_)
 refine wv (OV.nilCheck rfl) ?_
 refine wv (OV.fieldAddr0 rfl y8) ?_
 refine wv (OV.fieldAddr rfl r8) ?_
 refine WL.storeSl (cs' := [wa, zI k0, zI op0, zI er0, zI ea0, w, dv0, zI mn0]) 1 3 rfl rfl rfl rfl apm (Nat.le_of_ble_eq_true rfl) rfl rfl ?_
 refine WL.nil ?_
 refine kg (hK_1' [(0, zP pb)] _ ?_)
 refine a7 (fun _ hK_2' => ?_)
 refine a6 ?_
 refine wm ?_
 refine wv (OV.nilCheck rfl) ?_
 refine wv (OV.fieldAddr0 rfl y8) ?_
 refine wv (OV.fieldAddr rfl r8) ?_
 refine wv (OV.load rfl (At.own 1 rfl) rfl aap) ?_
 refine wv (OV.lenRow 3 rfl rfl abo) ?_
 obtain ⟨o_3', h⟩ := h
 refine wv (OV.sub rfl rfl o_3') ?_
 refine wA ?_
 refine WL.nil ?_
 refine kg (hK_2' [(10, zI (((ns ++ [((kind, at0, text, pv) : NdV)]).length : Int) - 1))] _ ?_)
 refine b8 ?_
 exact hE.ret [1, 2, 3, 4] rfl rfl (.inl ⟨_, _, _, _, _, _, _, _, _, _, _, h, rfl⟩) (d7.of1 rfl (RV.tmp rfl))
theorem ajf (w : Bs) : d9 Tryd.prog 19 [st w] [] [] (Ret (.int .i64 (d6 w)) []) := by
 refine d9.one (e := fun v => .int .i64 v) (ash w (fun v => v = d6 w) ?_)
 unfold ain
 by_cases g0 : w = [99, 111, 112, 121]
 ·subst g0; decide
 by_cases g1 : w = [107, 101, 121]
 ·subst g1; decide
 by_cases g2 : w = [105, 110, 115]
 ·subst g2; decide
 by_cases g3 : w = [105, 100]
 ·subst g3; decide
 by_cases g4 : w = [102, 111, 108, 100]
 ·subst g4; decide
 by_cases g5 : w = [100, 101, 108]
 ·subst g5; decide
 by_cases g6 : w = [108, 101, 102, 116]
 ·subst g6; decide
 by_cases g7 : w = [114, 105, 103, 104, 116]
 ·subst g7; decide
 by_cases g8 : w = [100, 101, 102, 97, 117, 108, 116]
 ·subst g8; decide
 by_cases g9 : w = [110, 111, 114, 109]
 ·subst g9; decide
 by_cases g10 : w = [108, 101, 116]
 ·subst g10; decide
 rw [if_neg (fun h => g0 (of_decide_eq_true h).symm), if_neg (fun h => g1 (of_decide_eq_true h).symm), if_neg (fun h => g2 (of_decide_eq_true h).symm), if_neg (fun h => g3 (of_decide_eq_true h).symm), if_neg (fun h => g4 (of_decide_eq_true h).symm), if_neg (fun h => g5 (of_decide_eq_true h).symm), if_neg (fun h => g6 (of_decide_eq_true h).symm), if_neg (fun h => g7 (of_decide_eq_true h).symm), if_neg (fun h => g8 (of_decide_eq_true h).symm), if_neg (fun h => g9 (of_decide_eq_true h)), if_neg (fun h => g10 (of_decide_eq_true h))]
 unfold d6
 rw [if_neg (by rintro (h | h | h | h | h); exact g0 h; exact g1 h; exact g2 h; exact g3 h; exact g4 h), if_neg (by rintro (h | h | h | h); exact g5 h; exact g6 h; exact g7 h; exact g8 h), if_neg g9, if_neg g10]
theorem aq4 (w : Bs) : d9 Tryd.prog 52 [st w] [] [] (Ret (.int .i64 (d8 w)) []) := by
 refine d9.one (e := fun v => .int .i64 v) (au7 w (fun v => v = d8 w) ?_)
 unfold aj8 d8
 by_cases g0 : w = [124]
 ·rw [if_pos (decide_eq_true g0), if_pos g0]
 rw [if_neg (by rw [decide_eq_true_eq]; exact g0), if_neg g0]
 refine ⟨fun b => b = decide (w = [38] ∨ w = [45]), fun b hb => ?_, ?_⟩
 ·subst hb
  by_cases g1 : w = [38] ∨ w = [45]
  ·rw [if_pos (decide_eq_true g1), if_pos g1]
  rw [if_neg (by rw [decide_eq_true_eq]; exact g1), if_neg g1]
  by_cases g2 : w = [62, 62]
  ·rw [if_pos (decide_eq_true g2), if_pos g2]
  rw [if_neg (by rw [decide_eq_true_eq]; exact g2), if_neg g2]
  by_cases g3 : w = [126]
  ·rw [if_pos (decide_eq_true g3), if_pos g3]
  rw [if_neg (by rw [decide_eq_true_eq]; exact g3), if_neg g3]
  by_cases g4 : w = [46]
  ·rw [if_pos (decide_eq_true g4), if_pos g4]
  rw [if_neg (by rw [decide_eq_true_eq]; exact g4), if_neg g4]
 ·by_cases g1 : w = [38]
  ·rw [if_pos (decide_eq_true g1), decide_eq_true g1]; exact (decide_eq_true (.inl g1)).symm
  ·rw [if_neg (by rw [decide_eq_true_eq]; exact g1)]
   simp only [g1, false_or]
section
variable (pb : Nat) (wa : Value) (ts : List Tok) (wn : Value) (ns : List NdV) (k o er ea : Int) (dv : Value) (mn : Int) (B : List (Nat × Obj))
theorem acc (e : Int) (h : 0 ≤ k ∧ k < (ts.length : Int)) : d9 Tryd.prog 20 [.pointer (some ⟨pb, 0, none⟩), .int .i64 e] [] (rfH pb wa ts wn ns k o er ea dv mn B)
  (Ret (.int .i64 0) (rfH pb wa ts wn ns k o (acy er e) (acw ts k er ea) dv mn B)) := by
 refine (avn pb wa wn ts ns k o er ea dv mn B e (fun r k2 o2 er2 ea2 dv2 mn2 ts2 ns2 B2 => r = 0 ∧ k2 = k ∧ o2 = o ∧ er2 = acy er e ∧ ea2 = acw ts k er ea ∧ dv2 = dv ∧ mn2 = mn ∧ ts2 = ts ∧ ns2 = ns ∧ B2 = B) ?_).weak ?_
 ·unfold ak7
  refine ⟨fun a b => a = acy er e ∧ b = acw ts k er ea, fun a b h => ⟨rfl, rfl, rfl, h.1, h.2, rfl, rfl, rfl, rfl, rfl⟩, ?_⟩
  unfold acy acw
  by_cases h0 : er = 0
  ·rw [if_pos (decide_eq_true h0), if_pos h0, if_pos h0]; exact ⟨h, rfl, rfl⟩
  ·rw [if_neg (by rw [decide_eq_true_eq]; exact h0), if_neg h0, if_neg h0]; exact ⟨rfl, rfl⟩
 ·rintro x (⟨v, k2, o2, er2, ea2, dv2, mn2, ts2, ns2, B2, ⟨rfl, rfl, rfl, rfl, rfl, rfl, rfl, rfl, rfl, rfl⟩, rfl⟩ | h)
  ·rfl
  ·exact h.elim
theorem acl (m : Bs) (h : 0 ≤ k ∧ k < (ts.length : Int)) : d9 Tryd.prog 50 [.pointer (some ⟨pb, 0, none⟩), st m] [] (rfH pb wa ts wn ns k o er ea dv mn B)
  (Ret (.bool (o9 ts k er m)) (rfH pb wa ts wn ns k o er ea dv mn B)) := by
 refine (aua pb wa wn ts ns k o er ea dv mn B m (fun r k2 o2 er2 ea2 dv2 mn2 ts2 ns2 B2 => r = o9 ts k er m ∧ k2 = k ∧ o2 = o ∧ er2 = er ∧ ea2 = ea ∧ dv2 = dv ∧ mn2 = mn ∧ ts2 = ts ∧ ns2 = ns ∧ B2 = B) ?_).weak ?_
 ·unfold aj2
  refine ⟨fun _ => h, fun _ => h, ?_, rfl, rfl, rfl, rfl, rfl, rfl, rfl, rfl, rfl⟩
  unfold o9 isM
  rw [Bool.and_assoc]; rfl
 ·rintro x (⟨v, k2, o2, er2, ea2, dv2, mn2, ts2, ns2, B2, ⟨rfl, rfl, rfl, rfl, rfl, rfl, rfl, rfl, rfl, rfl⟩, rfl⟩ | h)
  ·rfl
  ·exact h.elim
theorem aci (kd a : Int) (s : Bs) (pv : Value) (hn : ns.length ≤ 20000) (hp : pv.oneCell' = true) : d9 Tryd.prog 53 [.pointer (some ⟨pb, 0, none⟩), .int .i64 kd, .int .i64 a, st s, pv] [] (rfH pb wa ts wn ns k o er ea dv mn B)
  (fun out => ∃ w2, out = .ret (.int .i64 (ns.length : Int)) (rfH pb wa ts w2 (ns ++ [((kd, a, s, pv) : NdV)]) k o er ea dv mn B)) := by
 refine (aw5 pb wa wn ts ns k o er ea dv mn B kd a s pv (fun r k2 o2 er2 ea2 dv2 mn2 ts2 ns2 B2 => r = (ns.length : Int) ∧ k2 = k ∧ o2 = o ∧ er2 = er ∧ ea2 = ea ∧ dv2 = dv ∧ mn2 = mn ∧ ts2 = ts ∧ ns2 = ns ++ [((kd, a, s, pv) : NdV)] ∧ B2 = B) ?_).weak ?_
 ·unfold am5
  have hl : ((ns ++ [((kd, a, s, pv) : NdV)]).length : Int) - 1 = (ns.length : Int) := by rw [List.length_append, List.length_singleton]; omega
  rw [hl]
  exact ⟨hp, hp, ⟨by omega, by omega⟩, by unfold I64; omega, rfl, rfl, rfl, rfl, rfl, rfl, rfl, rfl, rfl, rfl⟩
 ·rintro x (⟨v, k2, o2, er2, ea2, dv2, mn2, ts2, w2, ns2, B2, ⟨rfl, rfl, rfl, rfl, rfl, rfl, rfl, rfl, rfl, rfl⟩, rfl⟩ | h)
  ·exact ⟨w2, rfl⟩
  ·exact h.elim
end
def aj9 (ts : List Tok) (ns : List NdV) (k0 : Int) (op0 : Int) (er0 : Int) (ea0 : Int) (dv0 : Value) (mn0 : Int) (B0 : List (Nat × Obj)) (m : List UInt8) (K : Int → Int → Int → Int → Value → Int → (List Tok) → (List NdV) → (List (Nat × Obj)) → Prop) : Prop :=
 (0 ≤ k0 ∧ k0 < (ts.length : Int)) ∧
 (if (!(o9 ts k0 er0 m)) = true then
  (0 ≤ k0 ∧ k0 < (ts.length : Int)) ∧
  K k0 op0 (acy er0 (60 : Int)) (acw ts k0 er0 ea0) dv0 mn0 ts ns B0
 else
  (I64 (k0 + 1)) ∧
  ∃ (J0 : Int → Prop),
   (∀ (s_2 : Int), J0 s_2 →
    (if ((decide (m = ([41] : List UInt8))) || (decide (m = ([125] : List UInt8)))) = true then
     (I64 (s_2 - 1)) ∧
     K (k0 + 1) (s_2 - 1) er0 ea0 dv0 mn0 ts ns B0
    else
     K (k0 + 1) s_2 er0 ea0 dv0 mn0 ts ns B0)) ∧
   (if ((decide (m = ([40] : List UInt8))) || (decide (m = ([123] : List UInt8)))) = true then
    (if (decide (op0 = 64)) = true then
     (I64 ((k0 + 1) - 1)) ∧
     (0 ≤ ((k0 + 1) - 1) ∧ ((k0 + 1) - 1) < (ts.length : Int)) ∧
     K ((k0 + 1) - 1) op0 (acy er0 (23 : Int)) (acw ts ((k0 + 1) - 1) er0 ea0) dv0 mn0 ts ns B0
    else
     (I64 (op0 + 1)) ∧
     J0 (op0 + 1))
   else
    J0 op0))
theorem avv (pb : Nat) (wa : Value) (wn : Value) (ts : List Tok) (ns : List NdV) (k0 : Int) (op0 : Int) (er0 : Int) (ea0 : Int) (dv0 : Value) (mn0 : Int) (B0 : List (Nat × Obj)) (m : List UInt8) (K : Int → Int → Int → Int → Value → Int → (List Tok) → (List NdV) → (List (Nat × Obj)) → Prop) (h : aj9 ts ns k0 op0 er0 ea0 dv0 mn0 B0 m K) :
  d9 Tryd.prog 21 [zP pb, st m] [] [HA.blk pb (.cells [wa, zI k0, zI op0, zI er0, zI ea0, wn, dv0, zI mn0].toArray 62 (0, 0)), HA.row wa 64 3 ts.length (ts.flatMap e6), HA.row wn 69 4 ns.length (ns.flatMap ndC), pool B0] (fun o => (∃ (d_2' : Int) (d_3' : Int) (d_4' : Int) (d_5' : Int) (d_6' : Value) (d_7' : Int) (d : List Tok) (d_1' : List NdV) (D : List (Nat × Obj)), K d_2' d_3' d_4' d_5' d_6' d_7' d d_1' D ∧ o = .ret (Value.tuple #[]) [HA.blk pb (.cells [wa, zI d_2', zI d_3', zI d_4', zI d_5', wn, d_6', zI d_7'].toArray 62 (0, 0)), HA.row wa 64 3 d.length (d.flatMap e6), HA.row wn 69 4 d_1'.length (d_1'.flatMap ndC), pool D]) ∨ (False)) := by
 unfold aj9 at h
 refine c8 (n := 57) (L0 := [(0, zP pb), (1, st m)]) Tryd.func21 rfl rfl rfl rfl (fun w0 M Q hE => ?_)
 refine a7 (fun _ hK => ?_)
 refine a7 (fun _ hK_1' => ?_)
 refine a6 ?_
 refine wm ?_
 refine wm ?_
 obtain ⟨o, h⟩ := h
 refine WL.call ac9 rfl (acl pb wa ts wn ns k0 op0 er0 ea0 dv0 mn0 B0 m o) rfl trivial rfl rfl ?_
 refine wv (OV.not rfl) ?_
 refine WL.nil ?_
 refine kg (hK_1' [(0, zP pb), (1, st m), (7, zB (!(o9 ts k0 er0 m)))] _ ?_)
 refine b5 (b := !(o9 ts k0 er0 m)) rfl (fun hb => ?_) (fun hb => ?_)
 ·replace h := e8 h hb
  refine a7 (fun _ hK_2' => ?_)
  refine a6 ?_
  refine wm ?_
  obtain ⟨o_1', h⟩ := h
  refine WL.call adc rfl (acc pb wa ts wn ns k0 op0 er0 ea0 dv0 mn0 B0 (60 : Int) o_1') rfl trivial rfl rfl ?_
  refine WL.nil ?_
  refine KX.go (hK_2' [] _ ?_) trivial
  refine b8 ?_
  exact hE.ret [0, 1, 2, 3] rfl rfl (.inl ⟨_, _, _, _, _, _, _, _, _, h, rfl⟩) (d7.none rfl)
 ·replace h := e9 h hb
  refine b6 ?_
  refine kg (hK [(0, zP pb), (1, st m)] _ ?_)
  refine a7 (fun _ hK_3' => ?_)
  refine a6 ?_
  refine wm ?_
  refine wv (OV.nilCheck rfl) ?_
  refine wv (OV.fieldAddr0 rfl e7) ?_
  refine wv (OV.load rfl (At.own 0 rfl) rfl a8) ?_
  obtain ⟨o_2', h⟩ := h
  refine wv (OV.add rfl rfl o_2') ?_
  refine wv (OV.nilCheck rfl) ?_
  refine wv (OV.fieldAddr0 rfl e7) ?_
  refine WL.store (vs := [zI (k0 + 1)]) (cs' := [wa, zI (k0 + 1), zI op0, zI er0, zI ea0, wn, dv0, zI mn0]) 0 rfl rfl rfl rfl f9 (Nat.le_of_ble_eq_true rfl) rfl rfl rfl ?_
  refine WL.nil ?_
  refine kg (hK_3' [(0, zP pb), (1, st m)] _ ?_)
  obtain ⟨J0, hJ, h⟩ := h
  refine m5 (X := Int) (fun σ => J0 σ) (fun σ => [(0, zP pb), (1, st m)]) (fun σ => [HA.blk pb (.cells [wa, zI (k0 + 1), zI σ, zI er0, zI ea0, wn, dv0, zI mn0].toArray 62 (0, 0)), HA.row wa 64 3 ts.length (ts.flatMap e6), HA.row wn 69 4 ns.length (ns.flatMap ndC), pool B0]) ?_ (fun K0_10' hK_10' => ?_)
  ·rintro s_2 hj
   replace h := hJ s_2 hj
   show WC _ _ _ _ [(0, zP pb), (1, st m)] [HA.blk pb (.cells [wa, zI (k0 + 1), zI s_2, zI er0, zI ea0, wn, dv0, zI mn0].toArray 62 (0, 0)), HA.row wa 64 3 ts.length (ts.flatMap e6), HA.row wn 69 4 ns.length (ns.flatMap ndC), pool B0]
   refine a7 (fun _ hK_11' => ?_)
   refine a6 ?_
   refine wm ?_
   refine wv (OV.eqlS rfl rfl) ?_
   refine wm ?_
   refine WL.cut 3 [(0, zP pb), (49, zB ((decide (m = ([41] : List UInt8))) || (decide (m = ([125] : List UInt8)))))] ?_ (fun K0_12' hK_12' => ?_)
   rotate_left
   ·refine WL.split (decide (m = ([41] : List UInt8))) (fun hb => ?_) (fun hb => ?_)
    ·refine WL.set 46 rfl (congrArg zB hb) ?_
     refine wk ?_
     refine wk ?_
     refine wv (OV.pickT rfl rfl) ?_
     refine WL.set 49 rfl (oT (v := decide (m = ([125] : List UInt8))) hb) ?_
     exact WL.end_ (kg hK_12')
    ·refine WL.set 46 rfl (congrArg zB hb) ?_
     refine wm ?_
     refine wv (OV.eqlS rfl rfl) ?_
     refine wv (OV.pickF rfl rfl) ?_
     refine WL.set 49 rfl (oF (v := decide (m = ([125] : List UInt8))) hb) ?_
     exact WL.end_ (kg hK_12')
   refine WL.nil ?_
   refine kg (hK_11' [(0, zP pb), (49, zB ((decide (m = ([41] : List UInt8))) || (decide (m = ([125] : List UInt8)))))] _ ?_)
   refine b5 (b := (decide (m = ([41] : List UInt8))) || (decide (m = ([125] : List UInt8)))) rfl (fun hb => ?_) (fun hb => ?_)
   ·replace h := e8 h hb
    refine a6 ?_
    refine wm ?_
    refine wv (OV.nilCheck rfl) ?_
    refine wv (OV.fieldAddr0 rfl abn) ?_
    refine wv (OV.load rfl (At.own 0 rfl) rfl a8) ?_
    obtain ⟨o_8', h⟩ := h
    refine wv (OV.sub rfl rfl o_8') ?_
    refine wv (OV.nilCheck rfl) ?_
    refine wv (OV.fieldAddr0 rfl abn) ?_
    refine WL.store (vs := [zI (s_2 - 1)]) (cs' := [wa, zI (k0 + 1), zI (s_2 - 1), zI er0, zI ea0, wn, dv0, zI mn0]) 0 rfl rfl rfl rfl f9 (Nat.le_of_ble_eq_true rfl) rfl rfl rfl ?_
    refine WL.nil ?_
    exact hE.norm [0, 1, 2, 3] rfl rfl (.inl ⟨_, _, _, _, _, _, _, _, _, h, rfl⟩) (d7.none rfl)
   ·replace h := e9 h hb
    refine b6 ?_
    exact hE.norm [0, 1, 2, 3] rfl rfl (.inl ⟨_, _, _, _, _, _, _, _, _, h, rfl⟩) (d7.none rfl)
  ·skip
   refine a7 (fun _ hK_13' => ?_)
   refine a6 ?_
   refine wm ?_
   refine wv (OV.eqlS rfl rfl) ?_
   refine wm ?_
   refine WL.cut 3 [(0, zP pb), (1, st m), (22, zB ((decide (m = ([40] : List UInt8))) || (decide (m = ([123] : List UInt8)))))] ?_ (fun K0_14' hK_14' => ?_)
   rotate_left
   ·refine WL.split (decide (m = ([40] : List UInt8))) (fun hb => ?_) (fun hb => ?_)
    ·refine WL.set 19 rfl (congrArg zB hb) ?_
     refine wk ?_
     refine wk ?_
     refine wv (OV.pickT rfl rfl) ?_
     refine WL.set 22 rfl (oT (v := decide (m = ([123] : List UInt8))) hb) ?_
     exact WL.end_ (kg hK_14')
    ·refine WL.set 19 rfl (congrArg zB hb) ?_
     refine wm ?_
     refine wv (OV.eqlS rfl rfl) ?_
     refine wv (OV.pickF rfl rfl) ?_
     refine WL.set 22 rfl (oF (v := decide (m = ([123] : List UInt8))) hb) ?_
     exact WL.end_ (kg hK_14')
   refine WL.nil ?_
   refine kg (hK_13' [(0, zP pb), (1, st m), (22, zB ((decide (m = ([40] : List UInt8))) || (decide (m = ([123] : List UInt8)))))] _ ?_)
   refine b5 (b := (decide (m = ([40] : List UInt8))) || (decide (m = ([123] : List UInt8)))) rfl (fun hb => ?_) (fun hb => ?_)
   ·replace h := e8 h hb
    refine a7 (fun _ hK_15' => ?_)
    refine a7 (fun _ hK_16' => ?_)
    refine a6 ?_
    refine wm ?_
    refine wv (OV.nilCheck rfl) ?_
    refine wv (OV.fieldAddr0 rfl abn) ?_
    refine wv (OV.load rfl (At.own 0 rfl) rfl a8) ?_
    refine wv (OV.eql rfl rfl) ?_
    refine WL.nil ?_
    refine kg (hK_16' [(0, zP pb), (1, st m), (27, zB (decide (op0 = 64)))] _ ?_)
    refine b5 (b := decide (op0 = 64)) rfl (fun hb => ?_) (fun hb => ?_)
    ·replace h := e8 h hb
     refine a7 (fun _ hK_17' => ?_)
     refine a6 ?_
     refine wm ?_
     refine wv (OV.nilCheck rfl) ?_
     refine wv (OV.fieldAddr0 rfl e7) ?_
     refine wv (OV.load rfl (At.own 0 rfl) rfl a8) ?_
     obtain ⟨o_10', h⟩ := h
     refine wv (OV.sub rfl rfl o_10') ?_
     refine wv (OV.nilCheck rfl) ?_
     refine wv (OV.fieldAddr0 rfl e7) ?_
     refine WL.store (vs := [zI ((k0 + 1) - 1)]) (cs' := [wa, zI ((k0 + 1) - 1), zI op0, zI er0, zI ea0, wn, dv0, zI mn0]) 0 rfl rfl rfl rfl f9 (Nat.le_of_ble_eq_true rfl) rfl rfl rfl ?_
     refine WL.nil ?_
     refine kg (hK_17' [(0, zP pb)] _ ?_)
     refine a7 (fun _ hK_18' => ?_)
     refine a6 ?_
     refine wm ?_
     obtain ⟨o_11', h⟩ := h
     refine WL.call adc rfl (acc pb wa ts wn ns ((k0 + 1) - 1) op0 er0 ea0 dv0 mn0 B0 (23 : Int) o_11') rfl trivial rfl rfl ?_
     refine WL.nil ?_
     refine KX.go (hK_18' [] _ ?_) trivial
     refine b8 ?_
     exact hE.ret [0, 1, 2, 3] rfl rfl (.inl ⟨_, _, _, _, _, _, _, _, _, h, rfl⟩) (d7.none rfl)
    ·replace h := e9 h hb
     refine b6 ?_
     refine kg (hK_15' [(0, zP pb), (1, st m)] _ ?_)
     refine a6 ?_
     refine wm ?_
     refine wv (OV.nilCheck rfl) ?_
     refine wv (OV.fieldAddr0 rfl abn) ?_
     refine wv (OV.load rfl (At.own 0 rfl) rfl a8) ?_
     obtain ⟨o_12', h⟩ := h
     refine wv (OV.add rfl rfl o_12') ?_
     refine wv (OV.nilCheck rfl) ?_
     refine wv (OV.fieldAddr0 rfl abn) ?_
     refine WL.store (vs := [zI (op0 + 1)]) (cs' := [wa, zI (k0 + 1), zI (op0 + 1), zI er0, zI ea0, wn, dv0, zI mn0]) 0 rfl rfl rfl rfl f9 (Nat.le_of_ble_eq_true rfl) rfl rfl rfl ?_
     refine WL.nil ?_
     exact kh (hK_10' (op0 + 1) h) [0, 1, 2, 3]
   ·replace h := e9 h hb
    refine b6 ?_
    exact kh (hK_10' op0 h) [0, 1, 2, 3]
theorem aao (pb : Nat) (wa : Value) (ts : List Tok) (wn : Value) (ns : List NdV) (k o er ea : Int) (dv : Value) (mn : Int) (B : List (Nat × Obj)) (m : Bs) (h : (0 ≤ k ∧ k < (ts.length : Int)) ∧ (0 ≤ o ∧ o ≤ 64) ∧ ts.length ≤ 10000) :
  d9 Tryd.prog 21 [.pointer (some ⟨pb, 0, none⟩), st m] [] (rfH pb wa ts wn ns k o er ea dv mn B)
  (fun out => ∃ k2 o2 er2 ea2, abh ts k o er ea m = (k2, o2, er2, ea2) ∧ out = .ret (.tuple #[]) (rfH pb wa ts wn ns k2 o2 er2 ea2 dv mn B)) := by
 refine (avv pb wa wn ts ns k o er ea dv mn B m (fun k2 o2 er2 ea2 dv2 mn2 ts2 ns2 B2 => abh ts k o er ea m = (k2, o2, er2, ea2) ∧ dv2 = dv ∧ mn2 = mn ∧ ts2 = ts ∧ ns2 = ns ∧ B2 = B) ?_).weak ?_
 ·unfold aj9 abh
  obtain ⟨hk, ho, hl⟩ := h
  refine ⟨hk, ?_⟩
  by_cases hm : o9 ts k er m = true
  ·rw [if_neg (by rw [hm]; decide), if_pos hm]
   refine ⟨by unfold I64; omega, fun o2 => (m = [40] ∨ m = [123] → ¬ o = 64 ∧ o2 = o + 1) ∧ (¬ (m = [40] ∨ m = [123]) → o2 = o), fun o2 hj => ?_, ?_⟩
   ·by_cases g1 : m = [40] ∨ m = [123]
    ·obtain ⟨j1, rfl⟩ := hj.1 g1
     have g2 : ¬ (m = [41] ∨ m = [125]) := by rcases g1 with rfl | rfl <;> decide
     rw [if_neg (by rw [Bool.or_eq_true, decide_eq_true_eq, decide_eq_true_eq]; exact g2), if_pos g1, if_neg j1]
     exact ⟨rfl, rfl, rfl, rfl, rfl, rfl⟩
    ·obtain rfl := hj.2 g1
     rw [if_neg g1]
     by_cases g2 : m = [41] ∨ m = [125]
     ·rw [if_pos (by rw [Bool.or_eq_true, decide_eq_true_eq, decide_eq_true_eq]; exact g2), if_pos g2]
      exact ⟨by unfold I64; omega, rfl, rfl, rfl, rfl, rfl, rfl⟩
     ·rw [if_neg (by rw [Bool.or_eq_true, decide_eq_true_eq, decide_eq_true_eq]; exact g2), if_neg g2]
      exact ⟨rfl, rfl, rfl, rfl, rfl, rfl⟩
   ·by_cases g1 : m = [40] ∨ m = [123]
    ·rw [if_pos (by rw [Bool.or_eq_true, decide_eq_true_eq, decide_eq_true_eq]; exact g1), if_pos g1]
     by_cases g3 : o = 64
     ·have e1 : k + 1 - 1 = k := by omega
      rw [if_pos (decide_eq_true g3), if_pos g3, e1]
      exact ⟨by unfold I64; omega, hk, rfl, rfl, rfl, rfl, rfl, rfl⟩
     ·rw [if_neg (by rw [decide_eq_true_eq]; exact g3)]
      exact ⟨by unfold I64; omega, fun _ => ⟨g3, rfl⟩, fun g => absurd g1 g⟩
    ·rw [if_neg (by rw [Bool.or_eq_true, decide_eq_true_eq, decide_eq_true_eq]; exact g1)]
     exact ⟨fun g => absurd g g1, fun _ => rfl⟩
  ·rw [if_pos (by rw [Bool.eq_false_iff.2 hm]; rfl), if_neg hm]
   exact ⟨hk, rfl, rfl, rfl, rfl, rfl, rfl⟩
 ·rintro x (⟨k2, o2, er2, ea2, dv2, mn2, ts2, ns2, B2, ⟨h1, rfl, rfl, rfl, rfl, rfl⟩, rfl⟩ | h)
  ·exact ⟨k2, o2, er2, ea2, h1, rfl⟩
  ·exact h.elim
end Go.Proofs.YtifajndacnfcbaaDoor
