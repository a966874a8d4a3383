/-
  Merged: SyWp, SyWq, SyK2, SyLawWrapped.
-/
import Derived.Test.YtifajndacnfcbaaDoorSw7
namespace Go.Proofs.YtifajndacnfcbaaDoor
open Go Go.RowKit
structure Amid (ts ts2 : List Tok) (n : Nat) (d g : Int) (c : Nat → Int) : Prop where
 ok : ahs ts
 tk : ∀ k, k < ts.length - 1 → a8 ts2 (k + n) = shT d (a8 ts k)
 rk : d8 (a8 ts2 (ts.length - 1 + n)).2.2 < 0
 ps : ∀ m, m = [42] ∨ m = [43] ∨ m = [63] → isM ts2 (ts.length - 1 + n) m = false
 mon : ∀ j k, j ≤ k → c j ≤ c k
 op : ∀ k m, m = [40] ∨ m = [123] → isM ts k m = true → c k + 1 ≤ c (k + 1)
 bd : ∀ k, c k + g ≤ 64
section
variable {ts ts2 : List Tok} {n : Nat} {d g : Int} {c : Nat → Int}
theorem Amid.isM (h : Amid ts ts2 n d g c) {k : Nat} (hk : k < ts.length - 1) (m : Bs) : isM ts2 (k + n) m = isM ts k m := by
 unfold Go.Proofs.YtifajndacnfcbaaDoor.isM; rw [h.tk k hk]; rfl
theorem Amid.tk1 (h : Amid ts ts2 n d g c) {k : Nat} (hk : k < ts.length - 1) : (a8 ts2 (k + n)).1 = (a8 ts k).1 := by rw [h.tk k hk]; rfl
theorem Amid.tk2 (h : Amid ts ts2 n d g c) {k : Nat} (hk : k < ts.length - 1) : (a8 ts2 (k + n)).2.1 = (a8 ts k).2.1 + d := by rw [h.tk k hk]; rfl
theorem Amid.tk3 (h : Amid ts ts2 n d g c) {k : Nat} (hk : k < ts.length - 1) : (a8 ts2 (k + n)).2.2 = (a8 ts k).2.2 := by rw [h.tk k hk]; rfl
theorem Amid.nm (h : Amid ts ts2 n d g c) {k : Nat} {m : Bs} (hm : Go.Proofs.YtifajndacnfcbaaDoor.isM ts k m = true) : k < ts.length - 1 := h.ok.lt k (by rw [(q9 hm).1]; decide)
theorem Amid.isE (h : Amid ts ts2 n d g c) {k : Nat} (hk : k ≤ ts.length - 1) {m : Bs} (hm : m = [42] ∨ m = [43] ∨ m = [63]) : Go.Proofs.YtifajndacnfcbaaDoor.isM ts2 (k + n) m = Go.Proofs.YtifajndacnfcbaaDoor.isM ts k m := by
 rcases Nat.lt_or_ge k (ts.length - 1) with h1 | h1
 ·exact h.isM h1 m
 ·obtain rfl : k = ts.length - 1 := Nat.le_antisymm hk h1
  rw [h.ps m hm]
  cases h2 : Go.Proofs.YtifajndacnfcbaaDoor.isM ts (ts.length - 1) m with
  | false => rfl
  | true => exact absurd (h.nm h2) (Nat.lt_irrefl _)
theorem Amid.sg (h : Amid ts ts2 n d g c) {k l : Nat} (hk : k ≤ ts.length - 1) : ((a8 ts2 (k + n)).1 = 4 ∧ d8 (a8 ts2 (k + n)).2.2 = l) ↔ ((a8 ts k).1 = 4 ∧ d8 (a8 ts k).2.2 = l) := by
 rcases Nat.lt_or_ge k (ts.length - 1) with h1 | h1
 ·rw [h.tk k h1]; exact Iff.rfl
 ·obtain rfl : k = ts.length - 1 := Nat.le_antisymm hk h1
  constructor
  ·rintro ⟨_, h2⟩; have := h.rk; omega
  ·rintro ⟨h2, _⟩; rw [h.ok.2] at h2; exact absurd h2 (by decide)
theorem Amid.want (h : Amid ts ts2 n d g c) {q q1 : PSx} {m : Bs} (h1 : n5 ts q m = .ok q1) : n5 ts2 (q.1 + n, q.2 + g) m = .ok (q1.1 + n, q1.2 + g) := by
 obtain ⟨m1, rfl⟩ := aab h1
 unfold n5
 dsimp only
 rw [h.isM (h.nm m1), m1, if_pos rfl, Nat.add_right_comm]
theorem Amid.leave (h : Amid ts ts2 n d g c) {q q1 : PSx} {m : Bs} (h1 : n3 ts q m = .ok q1) : n3 ts2 (q.1 + n, q.2 + g) m = .ok (q1.1 + n, q1.2 + g) := by
 obtain ⟨m1, rfl⟩ := abm h1
 unfold n3
 dsimp only
 rw [h.isM (h.nm m1), m1, if_pos rfl, Nat.add_right_comm, show q.2 + g - 1 = q.2 - 1 + g by omega]
theorem Amid.enter (h : Amid ts ts2 n d g c) {q q1 : PSx} {m : Bs} (hm : m = [40] ∨ m = [123]) (hc : q.2 ≤ c q.1) (h1 : l9 ts q m = .ok q1) : l9 ts2 (q.1 + n, q.2 + g) m = .ok (q1.1 + n, q1.2 + g) ∧ q1.2 ≤ c q1.1 := by
 obtain ⟨m1, m2, rfl⟩ := s8 h1
 have h2 := h.op q.1 m hm m1
 have h3 := h.bd (q.1 + 1)
 unfold l9
 dsimp only
 rw [h.isM (h.nm m1), m1, if_pos rfl, if_neg (by omega), Nat.add_right_comm, show q.2 + g + 1 = q.2 + 1 + g by omega]
 exact ⟨rfl, by omega⟩
def brF (ts : List Tok) (f : Nat) (m m2 : Bs) (u : Ex → Ex) (q : PSx) : RsX Ex := match l9 ts q m with
 | .error e => .error e
 | .ok q1 => match pE ts f 0 q1 with
  | .error e => .error e
  | .ok (a, q2) => match n3 ts q2 m2 with
   | .error e => .error e
   | .ok q3 => .ok (u a, q3)
structure Trn (ts ts2 : List Tok) (n : Nat) (d g : Int) (c : Nat → Int) (f : Nat) : Prop where
 e : ∀ l q a q1, q.2 ≤ c q.1 → pE ts f l q = .ok (a, q1) → pE ts2 f l (q.1 + n, q.2 + g) = .ok (shX d a, (q1.1 + n, q1.2 + g))
 l : ∀ l b q a q1, q.1 ≤ ts.length - 1 → q.2 ≤ c q.1 → pL ts f l b q = .ok (a, q1) → pL ts2 f l (shX d b) (q.1 + n, q.2 + g) = .ok (shX d a, (q1.1 + n, q1.2 + g))
 p : ∀ q a q1, q.2 ≤ c q.1 → pP ts f q = .ok (a, q1) → pP ts2 f (q.1 + n, q.2 + g) = .ok (shX d a, (q1.1 + n, q1.2 + g))
 s : ∀ b q a q1, q.1 ≤ ts.length - 1 → pS ts f b q = .ok (a, q1) → pS ts2 f (shX d b) (q.1 + n, q.2 + g) = .ok (shX d a, (q1.1 + n, q1.2 + g))
 a : ∀ q a q1, q.2 ≤ c q.1 → pA ts f q = .ok (a, q1) → pA ts2 f (q.1 + n, q.2 + g) = .ok (shX d a, (q1.1 + n, q1.2 + g))
 cc : ∀ q a q1, (a8 ts q.1).1 ≠ 0 → q.2 ≤ c q.1 → pC ts f q = .ok (a, q1) → pC ts2 f (q.1 + n, q.2 + g) = .ok (shX d a, (q1.1 + n, q1.2 + g))
 r : ∀ m b q a q1, q.2 ≤ c q.1 → pR ts f m b q = .ok (a, q1) → pR ts2 f m (acd d b) (q.1 + n, q.2 + g) = .ok (acd d a, (q1.1 + n, q1.2 + g))
theorem trn (H : Amid ts ts2 n d g c) : ∀ f, Trn ts ts2 n d g c f := by
 intro f
 induction f with
 | zero =>
  refine ⟨?_, ?_, ?_, ?_, ?_, ?_, ?_⟩ <;> intros <;> rename_i h <;> first | (rw [pE] at h; cases h; done) | (rw [pL] at h; cases h; done) | (rw [pP] at h; cases h; done) | (rw [pS] at h; cases h; done) | (rw [pA] at h; cases h; done) | (rw [pC] at h; cases h; done) | (rw [pR] at h; cases h; done)
 | succ f ih =>
  have pg := prog ts H.ok.lt f
  have br : ∀ (u u2 : Ex → Ex) (m m2 : Bs) (q : PSx) (a : Ex) (q1 : PSx), (m = [40] ∨ m = [123]) → (∀ a, shX d (u a) = u2 (shX d a)) → q.2 ≤ c q.1 →
    brF ts f m m2 u q = .ok (a, q1) → brF ts2 f m m2 u2 (q.1 + n, q.2 + g) = .ok (shX d a, (q1.1 + n, q1.2 + g)) := by
   intro u u2 m m2 q a q1 hm hu hc h
   unfold brF at h ⊢
   split at h
   ·cases h
   ·rename_i q2 h2
    obtain ⟨e1, e2⟩ := H.enter hm hc h2
    rw [e1]
    dsimp only
    split at h
    ·cases h
    ·rename_i a3 q3 h3
     rw [ih.e _ _ _ _ e2 h3]
     dsimp only
     split at h
     ·cases h
     ·rename_i q4 h4
      rw [H.leave h4]
      cases h
      dsimp only
      rw [hu]
  refine ⟨fun l q a q1 hc h => ?_, fun l b q a q1 hk hc h => ?_, fun q a q1 hc h => ?_, fun b q a q1 hk h => ?_, fun q a q1 hc h => ?_, fun q a q1 h0 hc h => ?_, fun m b q a q1 hc h => ?_⟩
  ·rw [pE] at h ⊢
   split at h
   ·rename_i h5; rw [if_pos h5]; exact ih.p _ _ _ hc h
   ·rename_i h5
    rw [if_neg h5]
    split at h
    ·cases h
    ·rename_i a2 q2 h2
     obtain ⟨e1, e2, e3⟩ := pg.e _ _ _ _ h2
     rw [ih.e _ _ _ _ hc h2]
     exact ih.l _ _ _ _ _ e2 (by have := H.mon q.1 q2.1 (by omega); omega) h
  ·rw [pL] at h ⊢
   dsimp only
   split at h
   ·rename_i hm
    have hk1 := H.ok.lt q.1 (by rw [hm.1]; decide)
    rw [if_pos ((H.sg hk).2 hm)]
    split at h
    ·cases h
    ·rename_i a2 q2 h2
     obtain ⟨e1, e2, e3⟩ := pg.e _ _ _ _ h2
     dsimp only at e1 e3
     have hc1 : q.2 ≤ c (q.1 + 1) := by have := H.mon q.1 (q.1 + 1) (by omega); omega
     have e4 := ih.e _ _ _ _ (show ((q.1 + 1, q.2) : PSx).2 ≤ c ((q.1 + 1, q.2) : PSx).1 from hc1) h2
     dsimp only at e4
     rw [Nat.add_right_comm q.1 n 1, e4]
     have e5 := ih.l _ _ _ _ _ e2 (by have := H.mon (q.1 + 1) q2.1 (by omega); omega) h
     rw [shX] at e5
     rw [H.tk q.1 hk1]
     exact e5
   ·rename_i hm
    rw [if_neg (fun x => hm ((H.sg hk).1 x))]
    cases h; rfl
  ·rw [pP] at h ⊢
   split at h
   ·cases h
   ·rename_i a2 q2 h2
    obtain ⟨e1, e2, e3⟩ := pg.a _ _ _ h2
    rw [ih.a _ _ _ hc h2]
    exact ih.s _ _ _ _ e2 h
  ·rw [pS] at h ⊢
   dsimp only
   rw [H.isE hk (.inl rfl), H.isE hk (.inr (.inl rfl)), H.isE hk (.inr (.inr rfl))]
   split at h
   ·rename_i hm
    have hk1 : q.1 < ts.length - 1 := by rcases hm with hm | hm | hm <;> exact H.nm hm
    rw [if_pos hm]
    have e5 := ih.s _ _ _ _ (show ((q.1 + 1, q.2) : PSx).1 ≤ ts.length - 1 from hk1) h
    rw [shX] at e5
    rw [H.tk q.1 hk1, Nat.add_right_comm q.1 n 1]
    exact e5
   ·rename_i hm
    rw [if_neg hm]
    cases h; rfl
  ·have hk1 : q.1 < ts.length - 1 := by
    rcases Nat.lt_or_ge q.1 (ts.length - 1) with h1 | h1
    ·exact h1
    ·exfalso
     have e1 := pg.a
     have h2 : (a8 ts q.1).1 = 0 := by
      apply Decidable.byContradiction
      intro hn; have := H.ok.lt _ hn; omega
     rw [pA, h2, if_neg (by decide), if_neg (by decide), if_neg (by rintro ⟨h, _⟩; exact absurd h (by decide)), if_neg (by rintro ⟨h, _⟩; exact absurd h (by decide)), if_neg (fun x => by have := (q9 x).1; rw [h2] at this; exact absurd this (by decide)), if_neg (fun x => by have := (q9 x).1; rw [h2] at this; exact absurd this (by decide))] at h
     cases h
   rw [pA] at h ⊢
   dsimp only at h ⊢
   simp only [H.isM hk1, H.tk1 hk1, H.tk2 hk1, H.tk3 hk1]
   split at h
   ·rename_i h1; rw [if_pos h1]; cases h; rw [shX, Nat.add_right_comm]
   ·rename_i h1
    rw [if_neg h1]
    split at h
    ·rename_i h1; rw [if_pos h1]; cases h; rw [shX, Nat.add_right_comm]
    ·rename_i h1
     rw [if_neg h1]
     split at h
     ·rename_i h1; rw [if_pos h1]; exact ih.cc _ _ _ (by rw [h1.1]; decide) hc h
     ·rename_i h1
      rw [if_neg h1]
      split at h
      ·rename_i h1; rw [if_pos h1]; cases h; rw [shX, Nat.add_right_comm]
      ·rename_i h1
       rw [if_neg h1]
       split at h
       ·rename_i h1
        rw [if_pos h1]
        exact br (.keyed (a8 ts q.1).2.1) (.keyed ((a8 ts q.1).2.1 + d)) _ _ q a q1 (.inr rfl) (fun a => by rw [shX]) hc h
       ·rename_i h1
        rw [if_neg h1]
        split at h
        ·rename_i h1
         rw [if_pos h1]
         exact br (fun a => a) (fun a => a) _ _ q a q1 (.inl rfl) (fun a => rfl) hc h
        ·cases h
  ·have hk1 := H.ok.lt q.1 h0
   rw [pC] at h ⊢
   dsimp only
   split at h
   ·cases h
   ·rename_i q2 h2
    have hc1 : ((q.1 + 1, q.2) : PSx).2 ≤ c ((q.1 + 1, q.2) : PSx).1 := by have := H.mon q.1 (q.1 + 1) (by omega); dsimp only; omega
    obtain ⟨e1, e2⟩ := H.enter (.inl rfl) hc1 h2
    dsimp only at e1
    rw [Nat.add_right_comm q.1 n 1, e1, H.tk q.1 hk1]
    dsimp only [shT]
    split at h
    ·cases h
    ·rename_i a3 q3 h3
     have e4 := ih.r _ _ _ _ _ e2 h3
     rw [acd] at e4
     rw [e4]
     dsimp only
     split at h
     ·cases h
     ·rename_i q4 h4
      rw [H.leave h4]
      cases h
      dsimp only
      rw [shX]
  ·rw [pR] at h ⊢
   rw [ak0]
   split at h
   ·rename_i hn; rw [if_pos hn]; cases h; rfl
   ·rename_i hn
    rw [if_neg hn]
    split at h
    ·cases h
    ·rename_i q2 h2
     have e1 : (if 0 < b.len then n5 ts2 (q.1 + n, q.2 + g) [44] else .ok (q.1 + n, q.2 + g)) = .ok (q2.1 + n, q2.2 + g) ∧ q2.2 ≤ c q2.1 := by
      split at h2
      ·rename_i h0
       rw [if_pos h0]
       refine ⟨H.want h2, ?_⟩
       obtain ⟨_, rfl⟩ := aab h2
       have := H.mon q.1 (q.1 + 1) (by omega); dsimp only; omega
      ·rename_i h0; rw [if_neg h0]; cases h2; exact ⟨rfl, hc⟩
     rw [e1.1]
     dsimp only
     split at h
     ·cases h
     ·rename_i a3 q3 h3
      obtain ⟨f1, f2, f3⟩ := pg.e _ _ _ _ h3
      rw [ih.e _ _ _ _ e1.2 h3]
      dsimp only
      rw [← ajm]
      exact ih.r _ _ _ _ _ (by have := H.mon q2.1 q3.1 (by omega); have := e1.2; omega) h
theorem ar5 (H : Amid ts ts2 n d g c) (hl : ts.length ≤ ts2.length) {l : Nat} {q q1 : PSx} {a : Ex} (hc : q.2 ≤ c q.1) (h : sE ts l q = .ok (a, q1)) : sE ts2 l (q.1 + n, q.2 + g) = .ok (shX d a, (q1.1 + n, q1.2 + g)) := by
 refine atg ((trn H _).e _ _ _ _ hc h) (fun x => by cases x) ?_
 show BIG ts ≤ BIG ts2
 unfold BIG; omega
end
def opT (x : Tok) : Bool := decide (x.1 = 4) && (decide (x.2.2 = [40]) || decide (x.2.2 = [123]))
def aad : List Tok → Nat
 | [] => 0
 | x :: r => (if opT x = true then 1 else 0) + aad r
theorem ad1 : ∀ a b : List Tok, aad (a ++ b) = aad a + aad b
 | [], b => by rw [List.nil_append, aad, Nat.zero_add]
 | x :: r, b => by rw [List.cons_append, aad, aad, ad1 r b, Nat.add_assoc]
theorem ad6 : ∀ (k : Nat) (ts : List Tok), aad (ts.take k) + (if opT (a8 ts k) = true then 1 else 0) = aad (ts.take (k + 1)) ∧ aad (ts.take k) ≤ aad ts
 | _, [] => by
  rw [List.take_nil, List.take_nil, show opT (a8 [] _) = false from rfl]; exact ⟨rfl, Nat.le_refl _⟩
 | 0, x :: r => by
  rw [List.take_zero, List.take_succ_cons, List.take_zero, aad, aad, aad]; exact ⟨by rw [Nat.zero_add, Nat.add_zero]; rfl, Nat.zero_le _⟩
 | k + 1, x :: r => by
  have := ad6 k r
  rw [List.take_succ_cons, List.take_succ_cons, aad, aad, aad, show a8 (x :: r) (k + 1) = a8 r k from rfl]
  omega
theorem ap7 (ts : List Tok) (j k : Nat) (h : j ≤ k) : aad (ts.take j) ≤ aad (ts.take k) := by
 induction h with
 | refl => exact Nat.le_refl _
 | @step m _ ih => have := (ad6 m ts).1; rw [Nat.succ_eq_add_one]; exact Nat.le_trans ih (by omega)
def y6 : Bs → Nat
 | [] => 0
 | c :: r => (if c = 40 ∨ c = 123 then 1 else 0) + y6 r
theorem abz : ∀ a b : Bs, y6 (a ++ b) = y6 a + y6 b
 | [], b => by rw [List.nil_append, y6, Nat.zero_add]
 | x :: r, b => by rw [List.cons_append, y6, y6, abz r b, Nat.add_assoc]
theorem ag1 (t : Bs) (a b : Nat) (h : a ≤ b) : y6 (t.drop b) ≤ y6 (t.drop a) := by
 have : t.drop b = (t.drop a).drop (b - a) := by rw [List.drop_drop]; congr 1; omega
 have h2 := abz ((t.drop a).take (b - a)) ((t.drop a).drop (b - a))
 rw [List.take_append_drop] at h2
 rw [this]; omega
theorem ap6 {t : Bs} {a : Int} {k : Tok} {q : Int} (hb : 0 ≤ a ∧ a < t.length) (h : z7 t a = .ok (k, q)) : (if opT k = true then 1 else 0) + y6 (t.drop q.toNat) ≤ y6 (t.drop a.toNat) := by
 have hq := aac hb h
 have hd := ag1 t a.toNat q.toNat (by omega)
 by_cases ho : opT k = true
 ·rw [if_pos ho]
  unfold opT at ho
  rw [Bool.and_eq_true, Bool.or_eq_true, decide_eq_true_eq, decide_eq_true_eq, decide_eq_true_eq] at ho
  obtain ⟨h4, ho⟩ := ho
  unfold z7 at h
  split at h
  ·split at h
   ·cases h
   ·cases h; exact absurd h4 (by show ¬ (1 : Int) = 4; decide)
  ·split at h
   ·unfold v8 at h
    split at h
    ·cases h; exact absurd h4 (by show ¬ (2 : Int) = 4; decide)
    ·cases h
   ·split at h
    ·unfold z8 at h
     split at h
     ·cases h; exact absurd h4 (by show ¬ (3 : Int) = 4; decide)
     ·cases h
    ·split at h
     ·cases h
      dsimp only at ho
      have hc : cut t a (a + 1) = (t.drop a.toNat).take 1 := by unfold cut; congr 1; omega
      have h2 := abz ((t.drop a.toNat).take 1) ((t.drop a.toNat).drop 1)
      rw [List.take_append_drop, List.drop_drop, ← hc, show a.toNat + 1 = (a + 1).toNat by omega] at h2
      have h3 : y6 (cut t a (a + 1)) = 1 := by
       rcases ho with ho | ho <;> rw [ho] <;> rfl
      omega
     ·split at h
      ·cases h
       rcases ho with ho | ho <;> cases ho
      ·cases h
 ·rw [if_neg ho]; omega
theorem aiw {t : Bs} : ∀ {n : Nat} {l l' : List Tok} {a : Int}, 0 ≤ a → a ≤ t.length → q6 t n l a = .ok l' → aad l' ≤ aad l + y6 (t.drop a.toNat)
 | 0, _, _, _, _, _, h => by cases h
 | n + 1, l, l', a, h0, h1, h => by
  rw [q6] at h
  split at h
  ·rename_i ha
   split at h
   ·rename_i k q ho
    have hq := aac ⟨h0, ha⟩ ho
    have hg := o5 (t := t) (a := q) ⟨by omega, hq.2⟩
    have h2 := ap6 ⟨h0, ha⟩ ho
    have h3 := aiw (by omega) hg.2 h
    have h4 := ag1 t q.toNat (o1 t q).toNat (by omega)
    rw [ad1, aad, aad] at h3
    omega
   ·cases h
  ·simp only [Except.ok.injEq] at h
   subst h
   rw [ad1, aad, aad, if_neg (by rw [show opT (0, (t.length : Int), []) = false from rfl]; decide)]
   omega
theorem ao3 {t : Bs} (h : (e6 t).2.1 = 0) : aad (e6 t).1 ≤ y6 t := by
 have hs := ab0 h
 have hg := o5 (t := t) (a := 0) ⟨by omega, by omega⟩
 have h1 := aiw hg.1 hg.2 (abo h hs)
 have h2 := ag1 t 0 (o1 t 0).toNat (Nat.zero_le _)
 rw [aad] at h1
 rw [List.drop_zero] at h2
 omega
theorem ai9 {t : Bs} {c : UInt8} (hc : aah.contains c = true) (h : (e6 t).2.1 = 0) (hl : t.length < 4096) : e6 ([c] ++ t) = ((4, 0, [c]) :: (e6 t).1.map (shT 1), 0, 0) := by
 obtain ⟨m1, m2, m3, m4, m5, m6, m7, m8⟩ := aot c (by simpa using hc)
 have hg := o5 (t := t) (a := 0) ⟨by omega, by omega⟩
 have hlen : ([c] ++ t).length = t.length + 1 := by simp
 have hb : bt ([c] ++ t) 0 = (c.toNat : Int) := rfl
 have ho : z7 ([c] ++ t) 0 = .ok ((4, 0, [c]), 1) := by
  unfold z7
  rw [hb, if_neg (by rw [m1]; simp), if_neg (fun x : (c.toNat : Int) = 34 => m2 (UInt8.toNat_inj.1 (by show c.toNat = 34; omega))), if_neg (fun x : (c.toNat : Int) = 47 => m3 (UInt8.toNat_inj.1 (by show c.toNat = 47; omega))), if_pos (by simpa using hc)]
  rfl
 have hg0 : o1 ([c] ++ t) 0 = 0 := by
  show o1 ([c] ++ t) ((0 : Nat) : Int) = ((0 : Nat) : Int)
  exact ap1 (u := [c] ++ t) (r := t) (c := c) (p := 0) rfl ⟨m4, m5, m6, m7, m8⟩
 have hg1 : o1 ([c] ++ t) 1 = 1 + o1 t 0 := aoc (p := [c]) (t := t) (a := 0) (Int.le_refl 0)
 obtain ⟨l2, g1, g2⟩ := ags (p := [c]) (m := ([c] ++ t).length) (init := [(4, 0, [c])]) hg.1 hg.2 (by omega) (abo h (by omega))
 rw [List.nil_append] at g1
 unfold e6
 rw [if_neg (by omega), hg0, q6, if_pos (by omega), ho]
 dsimp only
 rw [show ((([c] : Bs).length : Nat) : Int) = 1 from rfl] at g2
 rw [hg1, List.nil_append, g2, ← g1]
 rfl
end Go.Proofs.YtifajndacnfcbaaDoor
namespace Go.Proofs.YtifajndacnfcbaaDoor
open Go Go.RowKit
theorem anx {ts : List Tok} : ∀ {f : Nat} {l : List p3} {q : PSx} {l2 : List p3} {q2 : PSx}, pD ts (BIG ts) f l q = .ok (l2, q2) → (l2 = l ∧ q2 = q) ∨ l.length < l2.length
 | 0, _, _, _, _, h => by rw [pD] at h; cases h
 | f + 1, l, q, l2, q2, h => by
  rw [ak9] at h
  split at h
  ·split at h
   ·cases h
   ·split at h
    ·cases h
    ·split at h
     ·cases h
     ·split at h
      ·cases h
      ·rcases anx h with ⟨rfl, _⟩ | h3
       ·right; rw [List.length_append]; exact Nat.lt_succ_self _
       ·right; rw [List.length_append] at h3; simp only [List.length_cons, List.length_nil] at h3; omega
  ·cases h; exact .inl ⟨rfl, rfl⟩
theorem amn {ts : List Tok} {a : Ex} (h : w6 ts = .ok ([], a)) : ∃ q, sE ts 0 (0, 0) = .ok (a, q) ∧ (a8 ts q.1).1 = 0 := by
 rw [abr] at h
 unfold al9 at h
 split at h
 ·cases h
 ·rename_i l2 q2 h2
  split at h
  ·cases h
  ·rename_i a3 q3 h3
   split at h
   ·rename_i h4
    cases h
    rcases anx h2 with ⟨_, rfl⟩ | h5
    ·exact ⟨q3, h3, h4⟩
    ·exact absurd h5 (Nat.not_lt_zero _)
   ·cases h
theorem al4 {ts : List Tok} {p : Int} {b e : UInt8} {u : Ex → Ex} {a : Ex} {k : Nat} (h0 : a8 ts 0 = (4, p, [b])) (hb : ∀ q : PSx, sA ts (0, q.2) = brM ts [b] [e] u (0, q.2)) (he : sE ts 0 (1, 1) = .ok (a, (k, 1))) (h1 : isM ts k [e] = true) (h2 : (a8 ts (k + 1)).1 = 0) : w6 ts = .ok ([], u a) := by
 have hm : isM ts 0 [b] = true := by unfold isM; rw [h0]; simp
 have h3 : sA ts (0, 0) = .ok (u a, (k + 1, 0)) := by
  have hb := hb (0, 0)
  dsimp only at hb
  rw [hb]
  unfold brM l9
  dsimp only
  rw [hm, if_pos rfl, if_neg (by decide)]
  dsimp only
  rw [show ((0 : Int) + 1) = 1 from rfl, show (0 : Nat) + 1 = 1 from rfl, he]
  dsimp only
  unfold n3
  dsimp only
  rw [h1, if_pos rfl]
  rfl
 have nM : ∀ m, isM ts (k + 1) m = false := fun m => by unfold isM; rw [h2]; rfl
 have h4 : sP ts (0, 0) = .ok (u a, (k + 1, 0)) := by
  rw [ard, h3]
  dsimp only
  rw [aq9]
  dsimp only
  rw [nM, nM, nM, if_neg (by rintro (h | h | h) <;> cases h)]
 have h5 : sE ts 0 (0, 0) = .ok (u a, (k + 1, 0)) := by
  rw [E_P (by decide), h4]
  exact aqe (by rintro ⟨g, _⟩; rw [h2] at g; cases g) _
 rw [abr, show pD ts (BIG ts) (BIG ts) [] (0, 0) = pD ts (BIG ts) ((10 * ts.length + 19) + 1) [] (0, 0) from rfl, ak9, if_neg (by rw [h0]; rintro ⟨g, _⟩; cases g)]
 unfold al9
 dsimp only
 rw [h5]
 dsimp only
 rw [if_pos h2]
theorem ai7 : e6 [] = ([(0, 0, [])], 0, 0) := by kernel_rfl
theorem akm {t : Bs} {b e : UInt8} (hb : aah.contains b = true) (he : aah.contains e = true) (h : (e6 t).2.1 = 0) (hl : t.length ≤ 4000) :
  ∃ init, (e6 t).1 = init ++ [((0, (t.length : Int), []) : Tok)] ∧ (∀ k ∈ init, k.1 ≠ 0) ∧ e6 ([b] ++ t ++ [10, e]) = ((4, 0, [b]) :: init.map (shT 1) ++ [((4, (t.length : Int) + 2, [e]) : Tok), (0, (t.length : Int) + 3, [])], 0, 0) := by
 obtain ⟨init, e1, e2⟩ := ai6 h (by omega)
 refine ⟨init, e1, fun k hk => (e2 k hk).1, ?_⟩
 have m1 := ai9 hb h (by omega)
 have m2 : e6 [e] = ([(4, 0, [e]), (0, 1, [])], 0, 0) := by
  have := ai9 (t := []) he (by rw [ai7]) (by decide)
  rw [ai7] at this
  exact this
 have hlen : ([b] ++ t).length = t.length + 1 := by simp
 obtain ⟨i2, f1, f2⟩ := aoz (s := [b] ++ t) (t := [e]) (by rw [m1]) (by rw [m2]) (by rw [hlen]; show t.length + 1 + 1 < 4096; omega)
 have f3 : i2 = (4, 0, [b]) :: init.map (shT 1) := by
  rw [m1, e1, List.map_append] at f1
  have f4 : ((4, 0, [b]) :: init.map (shT 1)) ++ [((0, (t.length : Int) + 1, []) : Tok)] = i2 ++ [((0, (([b] ++ t).length : Int), []) : Tok)] := f1
  have h2 : (([b] ++ t).length : Int) = (t.length : Int) + 1 := by rw [hlen]; omega
  rw [h2] at f4
  exact (List.append_cancel_right f4).symm
 rw [show [b] ++ t ++ [10, e] = [b] ++ t ++ [10] ++ [e] by simp, f2, f3, m2]
 have h2 : (([b] ++ t).length : Int) = (t.length : Int) + 1 := by rw [hlen]; omega
 rw [h2]
 show ((4, 0, [b]) :: init.map (shT 1) ++ [((4, (0 : Int) + ((t.length : Int) + 1 + 1), [e]) : Tok), (0, (1 : Int) + ((t.length : Int) + 1 + 1), [])], (0 : Int), (0 : Int)) = _
 rw [show (0 : Int) + ((t.length : Int) + 1 + 1) = (t.length : Int) + 2 by omega, show (1 : Int) + ((t.length : Int) + 1 + 1) = (t.length : Int) + 3 by omega]
theorem apw {l r : List Tok} {k : Nat} (h : k < l.length) : a8 (l ++ r) k = a8 l k := by
 unfold a8; rw [List.getD_eq_getElem?_getD, List.getD_eq_getElem?_getD, List.getElem?_append_left h]
theorem atx {l r : List Tok} (k : Nat) : a8 (l ++ r) (l.length + k) = a8 r k := by
 unfold a8; rw [List.getD_eq_getElem?_getD, List.getD_eq_getElem?_getD, List.getElem?_append_right (by omega), Nat.add_sub_cancel_left]
theorem atc {l : List Tok} {k : Nat} (h : k < l.length) (d : Int) : a8 (l.map (shT d)) k = shT d (a8 l k) := by
 unfold a8; rw [List.getD_eq_getElem?_getD, List.getD_eq_getElem?_getD, List.getElem?_map, List.getElem?_eq_getElem h]; rfl
theorem adm {t : Bs} {a : Ex} {b e : UInt8} {u : Ex → Ex} (hb : aah.contains b = true) (he : aah.contains e = true) (h : n0 t = .ok ([], a)) (hl : t.length ≤ 4000) (hk : y6 t < 64)
  (hr : d8 [e] < 0) (hp : ¬ (e = 42 ∨ e = 43 ∨ e = 63)) (hu : ∀ (X : List Tok) (q : PSx), sA ((4, 0, [b]) :: X) (0, q.2) = brM ((4, 0, [b]) :: X) [b] [e] u (0, q.2)) : n0 ([b] ++ t ++ [10, e]) = .ok ([], u (shX 1 a)) := by
 obtain ⟨h0, h1⟩ := ai3 h
 obtain ⟨init, e1, e2, e3⟩ := akm hb he h0 hl
 have hbr := ao3 h0
 have hE := aoq h0
 obtain ⟨⟨k, o⟩, g1, g2⟩ := amn h1
 have g3 := abu g1
 have g4 := af9 hE g1
 dsimp only at g2 g3 g4
 have hlen : (e6 t).1.length = init.length + 1 := by rw [e1, List.length_append, List.length_singleton]
 have hk0 : k = init.length := by
  rcases Nat.lt_or_ge k init.length with h5 | h5
  ·exfalso
   rw [e1, apw h5] at g2
   exact e2 _ (ag0 h5) g2
  ·omega
 subst hk0
 have ho : o = 0 := g3.2.2
 subst ho
 have ht2 : ∀ j, a8 ((4, 0, [b]) :: init.map (shT 1) ++ [((4, (t.length : Int) + 2, [e]) : Tok), (0, (t.length : Int) + 3, [])]) (j + 1) = a8 (init.map (shT 1) ++ [((4, (t.length : Int) + 2, [e]) : Tok), (0, (t.length : Int) + 3, [])]) j := fun j => rfl
 have hend : ∀ j, a8 (init.map (shT 1) ++ [((4, (t.length : Int) + 2, [e]) : Tok), (0, (t.length : Int) + 3, [])]) (init.length + j) = a8 [((4, (t.length : Int) + 2, [e]) : Tok), (0, (t.length : Int) + 3, [])] j := fun j => by
  have := atx (l := init.map (shT 1)) (r := [((4, (t.length : Int) + 2, [e]) : Tok), (0, (t.length : Int) + 3, [])]) j
  rwa [List.length_map] at this
 have hE1 : a8 ((4, 0, [b]) :: init.map (shT 1) ++ [((4, (t.length : Int) + 2, [e]) : Tok), (0, (t.length : Int) + 3, [])]) (init.length + 1) = (4, (t.length : Int) + 2, [e]) := by rw [ht2]; exact hend 0
 have hE2 : a8 ((4, 0, [b]) :: init.map (shT 1) ++ [((4, (t.length : Int) + 2, [e]) : Tok), (0, (t.length : Int) + 3, [])]) (init.length + 1 + 1) = (0, (t.length : Int) + 3, []) := by rw [ht2]; exact hend 1
 have H : Amid (e6 t).1 ((4, 0, [b]) :: init.map (shT 1) ++ [((4, (t.length : Int) + 2, [e]) : Tok), (0, (t.length : Int) + 3, [])]) 1 1 1 (fun k => (aad ((e6 t).1.take k) : Int)) := by
  have hn : (e6 t).1.length - 1 = init.length := by omega
  refine ⟨hE, fun k hk => ?_, ?_, fun m hm => ?_, fun j k hj => ?_, fun k m hm h5 => ?_, fun k => ?_⟩
  ·rw [hn] at hk
   rw [ht2, apw (by rw [List.length_map]; exact hk), atc hk, e1, apw hk]
  ·rw [hn, hE1]; exact hr
  ·rw [hn]
   unfold isM
   rw [hE1]
   have : ¬ ([e] : Bs) = m := by
    rintro rfl
    rcases hm with hm | hm | hm <;> cases hm <;> exact hp (by decide)
   rw [decide_eq_false this, Bool.and_false]
  ·have := ap7 (e6 t).1 j k hj; omega
  ·have h6 := (ad6 k (e6 t).1).1
   have h7 : opT (a8 (e6 t).1 k) = true := by
    have := q9 h5
    unfold opT
    rw [this.1, this.2.1]
    rcases hm with rfl | rfl <;> rfl
   rw [if_pos h7] at h6
   omega
  ·have := (ad6 k (e6 t).1).2
   omega
 have hs := ar5 H (by rw [hlen]; simp) (show ((0, 0) : PSx).2 ≤ (aad ((e6 t).1.take 0) : Int) from Int.le_refl 0) g1
 dsimp only at hs
 have h6 : n0 ([b] ++ t ++ [10, e]) = w6 ((4, 0, [b]) :: init.map (shT 1) ++ [((4, (t.length : Int) + 2, [e]) : Tok), (0, (t.length : Int) + 3, [])]) := by
  unfold n0
  rw [e3, if_pos rfl]
 rw [h6]
 refine al4 (b := b) (e := e) (p := 0) (k := init.length + 1) rfl (fun q => hu _ q) (by exact hs) ?_ ?_
 ·unfold isM; rw [hE1]; simp
 ·rw [hE2]
theorem akn {t : Bs} {a : Ex} (h : n0 t = .ok ([], a)) (hl : t.length ≤ 4000) (hk : y6 t < 64) : n0 ([40] ++ t ++ [10, 41]) = .ok ([], shX 1 a) :=
 adm (u := fun a => a) rfl rfl h hl hk (by decide) (by decide) fun X q => by
  rw [afb, if_neg (by show ¬ (4 : Int) = 2; decide), if_neg (by show ¬ (4 : Int) = 3; decide), if_neg (by rintro ⟨g, _⟩; exact absurd (show (4 : Int) = 1 from g) (by decide)), if_neg (by rintro ⟨g, _⟩; exact absurd (show (4 : Int) = 1 from g) (by decide)), if_neg (by intro g; cases g)]
  exact if_pos rfl
theorem aj2 {t : Bs} {a : Ex} (h : n0 t = .ok ([], a)) (hl : t.length ≤ 4000) (hk : y6 t < 64) : n0 ([123] ++ t ++ [10, 125]) = .ok ([], .keyed 0 (shX 1 a)) :=
 adm (u := .keyed 0) rfl rfl h hl hk (by decide) (by decide) fun X q => by
  rw [afb, if_neg (by show ¬ (4 : Int) = 2; decide), if_neg (by show ¬ (4 : Int) = 3; decide), if_neg (by rintro ⟨g, _⟩; exact absurd (show (4 : Int) = 1 from g) (by decide)), if_neg (by rintro ⟨g, _⟩; exact absurd (show (4 : Int) = 1 from g) (by decide))]
  exact if_pos rfl
theorem ali (a : Ex) (d : Int) : c8 [] (shX d a) = c8 [] a := by unfold c8; rw [aod]
theorem ac7 (a : Ex) : c8 [] a = f7 a 0 ++ [10] := rfl
theorem al2 (a : Ex) (p : Int) : c8 [] (.keyed p a) = [123] ++ f7 a 0 ++ [125, 10] := by
 unfold c8 f7
 rw [l7, show rkX (.keyed p a) = 6 from rfl]
 simp [par, af8]
end Go.Proofs.YtifajndacnfcbaaDoor
set_option maxRecDepth 100000
namespace Go.Proofs.YtifajndacnfcbaaDoor
open Go Go.RowKit
theorem alw : l6 Tryd.prog 8 = true := by kernel_rfl
theorem apm : l6 Tryd.prog 14 = true := by kernel_rfl
def adg (s : List UInt8) (K : Int → Prop) : Prop :=
 ∃ (Inv : Int → Int → Prop) (mu : Int → Int → Nat),
  Inv 0 0 ∧ ∀ (n_3' : Int) (i_1' : Int), Inv n_3' i_1' →
   (if (decide (i_1' < (s.length : Int))) = true then
    ∃ (J0_2' : Int → Prop),
     (∀ (n_4' : Int), J0_2' n_4' →
      (I64 (i_1' + 1)) ∧
      Inv n_4' (i_1' + 1) ∧ mu n_4' (i_1' + 1) < mu n_3' i_1') ∧
     (0 ≤ i_1' ∧ i_1' < s.length) ∧
     ((decide (((s.getD i_1'.toNat 0).toNat : Int) = 40)) = false → (0 ≤ i_1' ∧ i_1' < s.length)) ∧
     (if ((decide (((s.getD i_1'.toNat 0).toNat : Int) = 40)) || (decide (((s.getD i_1'.toNat 0).toNat : Int) = 123))) = true then
      (I64 (n_3' + 1)) ∧
      J0_2' (n_3' + 1)
     else
      J0_2' n_3')
   else
    K n_3')
theorem alv  (s : List UInt8) (K : Int → Prop) (h : adg s K) :
  d9 Tryd.prog 14 [st s] [] [] (fun o => (∃ (v : Int), K v ∧ o = .ret (zI v) []) ∨ (False)) := by
 unfold adg at h
 refine b9 (n := 24) (L0 := [(0, st s)]) Tryd.func14 rfl rfl rfl rfl (fun w0 M Q hE => ?_)
 refine a7 (fun _ hK => ?_)
 refine a6 ?_
 refine wA ?_
 refine WL.nil ?_
 refine kg (hK [(0, st s)] _ ?_)
 refine a7 (fun _ hK_1' => ?_)
 refine a6 ?_
 refine wA ?_
 refine WL.nil ?_
 refine kg (hK_1' [(0, st s), (3, zI 0)] _ ?_)
 refine a7 (fun _ hK_2' => ?_)
 refine a7 (fun _ hK_3' => ?_)
 refine a6 ?_
 refine wA ?_
 refine WL.nil ?_
 refine kg (hK_3' [(0, st s), (3, zI 0), (4, zI 0)] _ ?_)
 refine b8 ?_
 obtain ⟨Inv, mu, h0, hr⟩ := h
 refine v7 (S := Int × Int) (fun σ => Inv σ.1 σ.2) (fun σ => mu σ.1 σ.2) (fun σ => [(0, st s), (3, zI σ.1), (4, zI σ.2)]) (fun σ => []) (0, 0) h0 ⟨rfl, rfl, rfl, trivial⟩ rfl ?_
 rintro ⟨n_3', i_1'⟩ hi K0_18' hK_18'
 have h := hr n_3' i_1' hi
 show WC _ _ _ _ [(0, st s), (3, zI n_3'), (4, zI i_1')] []
 refine a7 (fun _ hK_19' => ?_)
 refine a7 (fun _ hK_20' => ?_)
 refine a6 ?_
 refine wm ?_
 refine wm ?_
 refine wv (OV.len rfl c9) ?_
 refine wv (OV.lss rfl rfl) ?_
 refine WL.nil ?_
 refine kg (hK_20' [(0, st s), (3, zI n_3'), (4, zI i_1'), (8, zB (decide (i_1' < (s.length : Int))))] _ ?_)
 refine b5 (b := decide (i_1' < (s.length : Int))) rfl (fun hb => ?_) (fun hb => ?_)
 ·replace h := j4 h hb
  refine b7 ?_
  refine kg (hK_19' [(0, st s), (3, zI n_3'), (4, zI i_1')] _ ?_)
  obtain ⟨J0_2', hJ_2', h⟩ := h
  refine p5 (X := Int) (fun σ => J0_2' σ) (fun σ => [(0, st s), (3, zI σ), (4, zI i_1')]) (fun σ => []) ?_ (fun K0_23' hK_23' => ?_)
  ·rintro n_4' hj
   replace h := hJ_2' n_4' hj
   show WC _ _ _ _ [(0, st s), (3, zI n_4'), (4, zI i_1')] []
   refine a6 ?_
   refine wm ?_
   obtain ⟨o_19', h⟩ := h
   refine wv (OV.add rfl rfl o_19') ?_
   refine wA ?_
   refine WL.nil ?_
   exact kh (hK_18' (n_4', i_1' + 1) h.1 h.2) []
  ·skip
   refine b8 ?_
   refine a7 (fun _ hK_24' => ?_)
   refine a6 ?_
   refine wm ?_
   refine wm ?_
   obtain ⟨o_20', h⟩ := h
   refine wv (OV.index rfl rfl c9 o_20') ?_
   refine wv (OV.eql rfl rfl) ?_
   refine wm ?_
   obtain ⟨o_22', h⟩ := h
   refine WL.cut 5 [(0, st s), (3, zI n_3'), (4, zI i_1'), (20, zB ((decide (((s.getD i_1'.toNat 0).toNat : Int) = 40)) || (decide (((s.getD i_1'.toNat 0).toNat : Int) = 123))))] ?_ (fun K0_25' hK_25' => ?_)
   rotate_left
   ·refine WL.split (decide (((s.getD i_1'.toNat 0).toNat : Int) = 40)) (fun hb => ?_) (fun hb => ?_)
    ·refine WL.set 15 rfl (congrArg zB hb) ?_
     refine wk ?_
     refine wk ?_
     refine wk ?_
     refine wk ?_
     refine wv (OV.pickT rfl rfl) ?_
     refine WL.set 20 rfl (oT (v := decide (((s.getD i_1'.toNat 0).toNat : Int) = 123)) hb) ?_
     exact WL.end_ (kg hK_25')
    ·have o_21' := o_22' hb
     refine WL.set 15 rfl (congrArg zB hb) ?_
     refine wm ?_
     refine wm ?_
     refine wv (OV.index rfl rfl c9 o_21') ?_
     refine wv (OV.eql rfl rfl) ?_
     refine wv (OV.pickF rfl rfl) ?_
     refine WL.set 20 rfl (oF (v := decide (((s.getD i_1'.toNat 0).toNat : Int) = 123)) hb) ?_
     exact WL.end_ (kg hK_25')
   refine WL.nil ?_
   refine kg (hK_24' [(0, st s), (3, zI n_3'), (4, zI i_1'), (20, zB ((decide (((s.getD i_1'.toNat 0).toNat : Int) = 40)) || (decide (((s.getD i_1'.toNat 0).toNat : Int) = 123))))] _ ?_)
   refine b5 (b := (decide (((s.getD i_1'.toNat 0).toNat : Int) = 40)) || (decide (((s.getD i_1'.toNat 0).toNat : Int) = 123))) rfl (fun hb => ?_) (fun hb => ?_)
   ·replace h := j4 h hb
    refine a6 ?_
    refine wm ?_
    obtain ⟨o_23', h⟩ := h
    refine wv (OV.add rfl rfl o_23') ?_
    refine wA ?_
    refine WL.nil ?_
    exact kh (hK_23' (n_3' + 1) h) []
   ·replace h := j5 h hb
    refine b7 ?_
    exact kh (hK_23' n_3' h) []
 ·replace h := j5 h hb
  refine p9 ?_
  refine kg (hK_2' [(3, zI n_3')] _ ?_)
  refine a7 (fun _ hK_26' => ?_)
  refine a6 ?_
  refine wm ?_
  refine wA ?_
  refine WL.nil ?_
  refine kg (hK_26' [(2, zI n_3')] _ ?_)
  refine c7 ?_
  exact hE.ret [] rfl rfl (.inl ⟨_, h, rfl⟩) (e9.of1 rfl (RV.tmp rfl))
theorem aqh (s : Bs) (i : Nat) (h : i < s.length) : y6 (s.take (i + 1)) = y6 (s.take i) + (if s.getD i 0 = 40 ∨ s.getD i 0 = 123 then 1 else 0) := by
 rw [List.take_add_one, abz, List.getElem?_eq_getElem h, List.getD_eq_getElem?_getD, List.getElem?_eq_getElem h]
 rfl
theorem arr : ∀ s : Bs, y6 s ≤ s.length
 | [] => Nat.le_refl _
 | c :: r => by rw [y6, List.length_cons]; have := arr r; split <;> omega
theorem ah8 (s : List UInt8) (hl : s.length ≤ 9223372036854775806) : d9 Tryd.prog 14 [st s] [] [] (Ret (.int .i64 (y6 s : Int)) []) := by
 refine (alv s (fun v => v = (y6 s : Int)) ?_).weak (by rintro o (⟨v, rfl, rfl⟩ | h) <;> first | rfl | exact h.elim)
 unfold adg
 refine ⟨fun n i => 0 ≤ i ∧ i ≤ s.length ∧ n = (y6 (s.take i.toNat) : Int), fun _ i => (s.length - i).toNat, ⟨Int.le_refl 0, by omega, by rw [show (0 : Int).toNat = 0 from rfl, List.take_zero]; rfl⟩, fun n i ⟨h0, h1, h2⟩ => ?_⟩
 by_cases hi : i < (s.length : Int)
 ·rw [if_pos (decide_eq_true hi)]
  have hs := aqh s i.toNat (by omega)
  have hb := arr (s.take i.toNat)
  rw [List.length_take] at hb
  have e1 : (s.getD i.toNat 0 = 40) ↔ (((s.getD i.toNat 0).toNat : Int) = 40) := by rw [← UInt8.toNat_inj]; exact ⟨fun h => by rw [h]; rfl, fun h => by show _ = 40; omega⟩
  have e2 : (s.getD i.toNat 0 = 123) ↔ (((s.getD i.toNat 0).toNat : Int) = 123) := by rw [← UInt8.toNat_inj]; exact ⟨fun h => by rw [h]; rfl, fun h => by show _ = 123; omega⟩
  have hs : y6 (s.take (i.toNat + 1)) = y6 (s.take i.toNat) + (if (((s.getD i.toNat 0).toNat : Int) = 40) ∨ (((s.getD i.toNat 0).toNat : Int) = 123) then 1 else 0) := by
   rw [hs]; congr 1; simp only [e1, e2]
  refine ⟨fun n => n = (y6 (s.take (i + 1).toNat) : Int), fun n hn => ⟨by unfold I64; omega, ⟨by omega, by omega, hn⟩, by dsimp only; omega⟩, ⟨h0, hi⟩, fun _ => ⟨h0, hi⟩, ?_⟩
  rw [show (i + 1).toNat = i.toNat + 1 by omega, hs]
  by_cases hc : (((s.getD i.toNat 0).toNat : Int) = 40) ∨ (((s.getD i.toNat 0).toNat : Int) = 123)
  ·rw [if_pos (by rw [Bool.or_eq_true, decide_eq_true_eq, decide_eq_true_eq]; exact hc), if_pos hc]
   exact ⟨by unfold I64; omega, by rw [h2]; omega⟩
  ·rw [if_neg (by rw [Bool.or_eq_true, decide_eq_true_eq, decide_eq_true_eq]; exact hc), if_neg hc]
   rw [h2]; rfl
 ·rw [if_neg (by rw [decide_eq_true_eq]; exact hi), h2, List.take_of_length_le (by omega)]
def afk (text : List UInt8) (l1 : List p3) (a1 : Ex) (l2 : List p3) (a2 : Ex) (l3 : List p3) (a3 : Ex) (K : Bool → Prop) : Prop :=
 (n0 text = .ok (l1, a1)) ∧
 (∀ (qb1 : Nat) (dw1 : Value) (mv1 : Value) (ds1 : List aay) (R1 : List (Nat × Obj)) (B : List (Nat × Obj)), (abn B qb1 dw1 mv1 ds1 R1 l1 a1 ∧ ∀ x ∈ ([] : List (Nat × Obj)), x ∈ B) →
  ((qb1, Obj.cells [dw1, mv1].toArray 39 (0, 0)) ∈ B) ∧
  (agf dw1 41 3 ds1.length (ds1.flatMap adf) R1) ∧
  (((decide (0 < (ds1.length : Int))) || (decide (4000 < (text.length : Int)))) = false → (text.length ≤ 9223372036854775806)) ∧
  (if (((decide (0 < (ds1.length : Int))) || (decide (4000 < (text.length : Int)))) || (decide (64 ≤ (y6 text : Int)))) = true then
   K true
  else
   (([40] : List UInt8).length + text.length ≤ 9223372036854775807) ∧
   ((([40] : List UInt8) ++ text).length + ([10, 41] : List UInt8).length ≤ 9223372036854775807) ∧
   (n0 ((([40] : List UInt8) ++ text) ++ ([10, 41] : List UInt8)) = .ok (l2, a2)) ∧
   (∀ (qb2 : Nat) (dw2 : Value) (mv2 : Value) (ds2 : List aay) (R2 : List (Nat × Obj)) (B_1' : List (Nat × Obj)), (abn B_1' qb2 dw2 mv2 ds2 R2 l2 a2 ∧ ∀ x ∈ B, x ∈ B_1') →
    (([123] : List UInt8).length + text.length ≤ 9223372036854775807) ∧
    ((([123] : List UInt8) ++ text).length + ([10, 125] : List UInt8).length ≤ 9223372036854775807) ∧
    (n0 ((([123] : List UInt8) ++ text) ++ ([10, 125] : List UInt8)) = .ok (l3, a3)) ∧
    (∀ (qb3 : Nat) (dw3 : Value) (mv3 : Value) (ds3 : List aay) (R3 : List (Nat × Obj)) (B_2' : List (Nat × Obj)), (abn B_2' qb3 dw3 mv3 ds3 R3 l3 a3 ∧ ∀ x ∈ B_1', x ∈ B_2') →
     (abn B_2' qb1 dw1 mv1 ds1 R1 l1 a1 ∧ OKP l1 a1) ∧
     ((!decide (c8 l1 a1 = [])) = true → (abn B_2' qb2 dw2 mv2 ds2 R2 l2 a2 ∧ OKP l2 a2)) ∧
     (((!decide (c8 l1 a1 = [])) && (decide (c8 l2 a2 = c8 l1 a1))) = true → (abn B_2' qb3 dw3 mv3 ds3 R3 l3 a3 ∧ OKP l3 a3) ∧ (I64 (((c8 l1 a1).length : Int) - 1)) ∧ (0 ≤ (((c8 l1 a1).length : Int) - 1) ∧ (((c8 l1 a1).length : Int) - 1) ≤ (c8 l1 a1).length) ∧ (([123] : List UInt8).length + ((c8 l1 a1).take (((c8 l1 a1).length : Int) - 1).toNat).length ≤ 9223372036854775807) ∧ ((([123] : List UInt8) ++ ((c8 l1 a1).take (((c8 l1 a1).length : Int) - 1).toNat)).length + ([125, 10] : List UInt8).length ≤ 9223372036854775807)) ∧
     K (((!decide (c8 l1 a1 = [])) && (decide (c8 l2 a2 = c8 l1 a1))) && (decide (c8 l3 a3 = (([123] : List UInt8) ++ ((c8 l1 a1).take (((c8 l1 a1).length : Int) - 1).toNat)) ++ ([125, 10] : List UInt8))))))))
theorem apn (te : TypeId) (fre : Nat × Nat) (text : List UInt8) (l1 : List p3) (a1 : Ex) (l2 : List p3) (a2 : Ex) (l3 : List p3) (a3 : Ex) (K : Bool → Prop) (h : afk text l1 a1 l2 a2 l3 a3 K) :
  d9 Tryd.prog 6 [st text] [(0, .cells [st ([124] : List UInt8), st ([38, 45] : List UInt8), st ([62, 62] : List UInt8), st ([126] : List UInt8), st ([46] : List UInt8)].toArray te fre)] [] (fun o => (∃ (v : Bool), K v ∧ o = .ret (zB v) []) ∨ (False)) := by
 unfold afk at h
 refine b9 (n := 82) (L0 := [(0, st text)]) Tryd.func6 rfl rfl rfl rfl (fun w0 M Q hE => ?_)
 refine WC.newPool ?_
 refine a7 (fun _ hK => ?_)
 refine a6 ?_
 refine wA ?_
 refine WL.nil ?_
 refine kg (hK [(0, st text)] _ ?_)
 refine a7 (fun _ hK_1' => ?_)
 refine a7 (fun _ hK_2' => ?_)
 refine a6 ?_
 refine WL.cv ⟨_, _, _, EN.fn alw rfl, ae5 te fre, Rd.old⟩ rfl rfl rfl ?_
 refine wv (OV.not rfl) ?_
 refine WL.nil ?_
 refine kg (hK_2' [(0, st text), (11, zB false)] _ ?_)
 refine d7 rfl ?_
 refine b7 ?_
 refine kg (hK_1' [(0, st text)] _ ?_)
 refine a7 (fun _ hK_3' => ?_)
 refine a6 ?_
 refine wm ?_
 obtain ⟨o, h⟩ := h
 refine WL.callS ado rfl (ad5 te fre text ([] : List (Nat × Obj)) l1 a1 o) rfl ⟨.inr (List.mem_of_getElem? (i := 0) rfl), trivial⟩ rfl rfl (fun r H' hS => ?_) (fun c H' hS => ?_)
 ·obtain ⟨qb1, dw1, mv1, ds1, R1, B, hc, ho⟩ := hS
  cases ho
  replace h := h qb1 dw1 mv1 ds1 R1 B hc
  refine wm ?_
  refine wv (OV.extract 0 rfl rfl) ?_
  refine wv (OV.extract 1 rfl rfl) ?_
  refine WL.make (MV.alloc z1) rfl rfl rfl (fun b => ?_)
  refine wA ?_
  refine WL.storeW (vs := [zI 0, zI 0, st []]) 0 rfl rfl rfl rfl rfl n6 rfl rfl rfl ?_
  refine WL.nil ?_
  refine kg (hK_3' [(0, st text), (3, zP qb1), (4, zP b)] _ ?_)
  refine a7 (fun _ hK_4' => ?_)
  refine a7 (fun _ hK_5' => ?_)
  refine a6 ?_
  refine wv (OV.loadR rfl (At.own 0 rfl) o8) ?_
  refine wv (OV.build rfl (cs := [zI 0, zI 0, st []]) rfl) ?_
  refine wv (OV.cast (OV.neqF (rs := [decide ((0 : Int) = 0), decide ((0 : Int) = 0), decide (([] : List UInt8) = [])]) rfl rfl Tryd.underlying26 z2 aa8 ⟨rfl, aaq, ⟨_, _, rfl, rfl, p4.int Tryd.underlying24⟩, ⟨rfl, b6, ⟨_, _, rfl, rfl, p4.int Tryd.underlying3⟩, ⟨rfl, c6, ⟨_, _, rfl, rfl, p4.str Tryd.underlying9⟩, trivial⟩⟩⟩) (v' := zB false) rfl) ?_
  refine wm ?_
  refine wm ?_
  refine wv (OV.nilCheck rfl) ?_
  refine wv (OV.fieldAddr0 rfl aat) ?_
  obtain ⟨o_1', h⟩ := h
  refine wv (OV.load rfl (At.pool 1 rfl o_1') rfl aet) ?_
  obtain ⟨o_2', h⟩ := h
  refine wv (OV.lenLaid rfl ady o_2') ?_
  refine wv (OV.gtr rfl rfl) ?_
  refine wv (OV.pickF rfl rfl) ?_
  refine wm ?_
  refine WL.cut 4 [(0, st text), (3, zP qb1), (32, zB ((decide (0 < (ds1.length : Int))) || (decide (4000 < (text.length : Int)))))] ?_ (fun K0_6' hK_6' => ?_)
  rotate_left
  ·refine WL.split (decide (0 < (ds1.length : Int))) (fun hb => ?_) (fun hb => ?_)
   ·refine WL.set 28 rfl (congrArg zB hb) ?_
    refine wk ?_
    refine wk ?_
    refine wk ?_
    refine wv (OV.pickT rfl rfl) ?_
    refine WL.set 32 rfl (oT (v := decide (4000 < (text.length : Int))) hb) ?_
    exact WL.end_ (kg hK_6')
   ·refine WL.set 28 rfl (congrArg zB hb) ?_
    refine wm ?_
    refine wv (OV.len rfl c9) ?_
    refine wv (OV.gtr rfl rfl) ?_
    refine wv (OV.pickF rfl rfl) ?_
    refine WL.set 32 rfl (oF (v := decide (4000 < (text.length : Int))) hb) ?_
    exact WL.end_ (kg hK_6')
  refine wm ?_
  obtain ⟨o_5', h⟩ := h
  refine WL.cut 4 [(0, st text), (3, zP qb1), (37, zB (((decide (0 < (ds1.length : Int))) || (decide (4000 < (text.length : Int)))) || (decide (64 ≤ (y6 text : Int)))))] ?_ (fun K0_7' hK_7' => ?_)
  rotate_left
  ·refine WL.split ((decide (0 < (ds1.length : Int))) || (decide (4000 < (text.length : Int)))) (fun hb => ?_) (fun hb => ?_)
   ·refine WL.set 33 rfl (congrArg zB hb) ?_
    refine wk ?_
    refine wk ?_
    refine wk ?_
    refine wv (OV.pickT rfl rfl) ?_
    refine WL.set 37 rfl (oT (v := decide (64 ≤ (y6 text : Int))) hb) ?_
    exact WL.end_ (kg hK_7')
   ·have o_4' := o_5' hb
    refine WL.set 33 rfl (congrArg zB hb) ?_
    refine wm ?_
    refine WL.call (A := []) apm rfl (ah8 text o_4') rfl trivial rfl rfl ?_
    refine wv (OV.geq rfl rfl) ?_
    refine wv (OV.pickF rfl rfl) ?_
    refine WL.set 37 rfl (oF (v := decide (64 ≤ (y6 text : Int))) hb) ?_
    exact WL.end_ (kg hK_7')
  refine WL.nil ?_
  refine kg (hK_5' [(0, st text), (3, zP qb1), (37, zB (((decide (0 < (ds1.length : Int))) || (decide (4000 < (text.length : Int)))) || (decide (64 ≤ (y6 text : Int)))))] _ ?_)
  refine b5 (b := ((decide (0 < (ds1.length : Int))) || (decide (4000 < (text.length : Int)))) || (decide (64 ≤ (y6 text : Int)))) rfl (fun hb => ?_) (fun hb => ?_)
  ·replace h := j4 h hb
   refine a7 (fun _ hK_8' => ?_)
   refine a6 ?_
   refine wA ?_
   refine WL.nil ?_
   refine kg (hK_8' [(2, zB true)] _ ?_)
   refine c7 ?_
   exact hE.ret [] rfl rfl (.inl ⟨_, h, rfl⟩) (e9.of1 rfl (RV.tmp rfl))
  ·replace h := j5 h hb
   refine b7 ?_
   refine kg (hK_4' [(0, st text), (3, zP qb1)] _ ?_)
   refine a7 (fun _ hK_9' => ?_)
   refine a6 ?_
   refine wm ?_
   obtain ⟨o_6', h⟩ := h
   refine wv (OV.cat rfl rfl o_6') ?_
   obtain ⟨o_7', h⟩ := h
   refine wv (OV.cat rfl rfl o_7') ?_
   obtain ⟨o_8', h⟩ := h
   refine WL.pick (H' := [pool B, HA.blk b (.cells [zI 0, zI 0, st []].toArray 26 (0, 0))]) [1, 0] rfl rfl ?_
   refine WL.callS ado rfl (ad5 te fre ((([40] : List UInt8) ++ text) ++ ([10, 41] : List UInt8)) B l2 a2 o_8') rfl ⟨.inr (List.mem_of_getElem? (i := 0) rfl), trivial⟩ rfl rfl (fun r H' hS => ?_) (fun c H' hS => ?_)
   ·obtain ⟨qb2, dw2, mv2, ds2, R2, B_1', hc, ho⟩ := hS
    cases ho
    replace h := h qb2 dw2 mv2 ds2 R2 B_1' hc
    refine wm ?_
    refine wv (OV.extract 0 rfl rfl) ?_
    refine wv (OV.extract 1 rfl rfl) ?_
    refine WL.make (MV.alloc z1) rfl rfl rfl (fun b_1' => ?_)
    refine wA ?_
    refine WL.storeW (vs := [zI 0, zI 0, st []]) 0 rfl rfl rfl rfl rfl n6 rfl rfl rfl ?_
    refine WL.nil ?_
    refine kg (hK_9' [(0, st text), (3, zP qb1), (5, zP qb2), (6, zP b_1')] _ ?_)
    refine a7 (fun _ hK_10' => ?_)
    refine a6 ?_
    refine wm ?_
    obtain ⟨o_9', h⟩ := h
    refine wv (OV.cat rfl rfl o_9') ?_
    obtain ⟨o_10', h⟩ := h
    refine wv (OV.cat rfl rfl o_10') ?_
    obtain ⟨o_11', h⟩ := h
    refine WL.pick (H' := [pool B_1', HA.blk b_1' (.cells [zI 0, zI 0, st []].toArray 26 (0, 0)), HA.blk b (.cells [zI 0, zI 0, st []].toArray 26 (0, 0))]) [1, 0, 2] rfl rfl ?_
    refine WL.callS ado rfl (ad5 te fre ((([123] : List UInt8) ++ text) ++ ([10, 125] : List UInt8)) B_1' l3 a3 o_11') rfl ⟨.inr (List.mem_of_getElem? (i := 0) rfl), trivial⟩ rfl rfl (fun r H' hS => ?_) (fun c H' hS => ?_)
    ·obtain ⟨qb3, dw3, mv3, ds3, R3, B_2', hc, ho⟩ := hS
     cases ho
     replace h := h qb3 dw3 mv3 ds3 R3 B_2' hc
     refine wm ?_
     refine wv (OV.extract 0 rfl rfl) ?_
     refine wv (OV.extract 1 rfl rfl) ?_
     refine WL.make (MV.alloc z1) rfl rfl rfl (fun b_2' => ?_)
     refine wA ?_
     refine WL.storeW (vs := [zI 0, zI 0, st []]) 0 rfl rfl rfl rfl rfl n6 rfl rfl rfl ?_
     refine WL.nil ?_
     refine kg (hK_10' [(3, zP qb1), (5, zP qb2), (6, zP b_1'), (7, zP qb3), (8, zP b_2')] _ ?_)
     refine a7 (fun _ hK_11' => ?_)
     refine a7 (fun _ hK_12' => ?_)
     refine a6 ?_
     refine wv (OV.loadR rfl (At.own 2 rfl) o8) ?_
     refine wv (OV.build rfl (cs := [zI 0, zI 0, st []]) rfl) ?_
     refine wv (OV.cast (OV.neqF (rs := [decide ((0 : Int) = 0), decide ((0 : Int) = 0), decide (([] : List UInt8) = [])]) rfl rfl Tryd.underlying26 z2 aa8 ⟨rfl, aaq, ⟨_, _, rfl, rfl, p4.int Tryd.underlying24⟩, ⟨rfl, b6, ⟨_, _, rfl, rfl, p4.int Tryd.underlying3⟩, ⟨rfl, c6, ⟨_, _, rfl, rfl, p4.str Tryd.underlying9⟩, trivial⟩⟩⟩) (v' := zB false) rfl) ?_
     refine wm ?_
     refine wv (OV.loadR rfl (At.own 0 rfl) o8) ?_
     refine wv (OV.build rfl (cs := [zI 0, zI 0, st []]) rfl) ?_
     refine wv (OV.cast (OV.neqF (rs := [decide ((0 : Int) = 0), decide ((0 : Int) = 0), decide (([] : List UInt8) = [])]) rfl rfl Tryd.underlying26 z2 aa8 ⟨rfl, aaq, ⟨_, _, rfl, rfl, p4.int Tryd.underlying24⟩, ⟨rfl, b6, ⟨_, _, rfl, rfl, p4.int Tryd.underlying3⟩, ⟨rfl, c6, ⟨_, _, rfl, rfl, p4.str Tryd.underlying9⟩, trivial⟩⟩⟩) (v' := zB false) rfl) ?_
     refine wv (OV.pickF rfl rfl) ?_
     refine WL.nil ?_
     refine kg (hK_12' [(3, zP qb1), (5, zP qb2), (7, zP qb3), (59, zB false)] _ ?_)
     refine d7 rfl ?_
     refine b7 ?_
     refine kg (hK_11' [(3, zP qb1), (5, zP qb2), (7, zP qb3)] _ ?_)
     refine a7 (fun _ hK_13' => ?_)
     refine a6 ?_
     refine wm ?_
     obtain ⟨o_12', h⟩ := h
     refine WL.cv ⟨_, _, _, EN.fn ad7 rfl, ac0 te fre B_2' qb1 dw1 mv1 ds1 R1 l1 a1 o_12', aix.pool 1 rfl (fun _ h => h)⟩ rfl rfl rfl ?_
     refine wA ?_
     refine WL.nil ?_
     refine kg (hK_13' [(5, zP qb2), (7, zP qb3), (9, st (c8 l1 a1))] _ ?_)
     refine a7 (fun _ hK_14' => ?_)
     refine ab1 [] j3 (by kernel_rfl) rfl (fun T hT => ?_)
     refine fv (fun _ => OV.move rfl) ?_
     refine fv (fun _ => OV.neqS rfl rfl) ?_
     refine fv (fun _ => OV.move rfl) ?_
     obtain ⟨o_14', h⟩ := h
     refine FL.cut 5 rfl (fun _ => [(7, zP qb3), (9, st (c8 l1 a1)), (69, zB ((!decide (c8 l1 a1 = [])) && (decide (c8 l2 a2 = c8 l1 a1))))]) ?_ (fun K0_15' hK_15' => ?_)
     rotate_left
     ·refine FL.split (!decide (c8 l1 a1 = [])) (fun hb => ?_) (fun hb => ?_)
      ·have o_13' := o_14' hb
       refine FL.set 64 (fun _ => rfl) (congrArg zB hb) ?_
       refine fv (fun _ => OV.move rfl) ?_
       refine FL.cv (fun _ => ⟨_, _, _, EN.fn ad7 rfl, ac0 te fre B_2' qb2 dw2 mv2 ds2 R2 l2 a2 o_13', aix.pool 1 rfl (fun _ h => h)⟩) rfl rfl (fun _ => rfl) rfl ?_
       refine fv (fun _ => OV.move rfl) ?_
       refine fv (fun _ => OV.eqlS rfl rfl) ?_
       refine fv (fun _ => OV.pickT rfl rfl) ?_
       refine FL.set 69 (fun _ => rfl) (bT (v := decide (c8 l2 a2 = c8 l1 a1)) hb) ?_
       exact FL.weak (L' := fun _ => [(7, zP qb3), (9, st (c8 l1 a1)), (69, zB ((!decide (c8 l1 a1 = [])) && (decide (c8 l2 a2 = c8 l1 a1))))]) (fun _ => ⟨rfl, rfl, rfl, trivial⟩) (FL.nil hK_15')
      ·refine FL.set 64 (fun _ => rfl) (congrArg zB hb) ?_
       refine FL.skip rfl (fun _ => rfl) rfl rfl ?_
       refine FL.skip rfl (fun _ => rfl) rfl rfl ?_
       refine FL.skip rfl (fun _ => rfl) rfl rfl ?_
       refine FL.skip rfl (fun _ => rfl) rfl rfl ?_
       refine fv (fun _ => OV.pickF rfl rfl) ?_
       refine FL.set 69 (fun _ => rfl) (bF (v := decide (c8 l2 a2 = c8 l1 a1)) hb) ?_
       exact FL.weak (L' := fun _ => [(7, zP qb3), (9, st (c8 l1 a1)), (69, zB ((!decide (c8 l1 a1 = [])) && (decide (c8 l2 a2 = c8 l1 a1))))]) (fun _ => ⟨rfl, rfl, rfl, trivial⟩) (FL.nil hK_15')
     refine fv (fun _ => OV.move rfl) ?_
     obtain ⟨o_20', h⟩ := h
     refine FL.cut 11 rfl (fun _ => [(81, zB (((!decide (c8 l1 a1 = [])) && (decide (c8 l2 a2 = c8 l1 a1))) && (decide (c8 l3 a3 = (([123] : List UInt8) ++ ((c8 l1 a1).take (((c8 l1 a1).length : Int) - 1).toNat)) ++ ([125, 10] : List UInt8)))))]) ?_ (fun K0_16' hK_16' => ?_)
     rotate_left
     ·refine FL.split ((!decide (c8 l1 a1 = [])) && (decide (c8 l2 a2 = c8 l1 a1))) (fun hb => ?_) (fun hb => ?_)
      ·obtain ⟨o_15', o_16', o_17', o_18', o_19'⟩ := o_20' hb
       refine FL.set 70 (fun _ => rfl) (congrArg zB hb) ?_
       refine fv (fun _ => OV.move rfl) ?_
       refine FL.cv (fun _ => ⟨_, _, _, EN.fn ad7 rfl, ac0 te fre B_2' qb3 dw3 mv3 ds3 R3 l3 a3 o_15', aix.pool 1 rfl (fun _ h => h)⟩) rfl rfl (fun _ => rfl) rfl ?_
       refine fv (fun _ => OV.move rfl) ?_
       refine fv (fun _ => OV.move rfl) ?_
       refine fv (fun _ => OV.len rfl c9) ?_
       refine fv (fun _ => OV.sub rfl rfl o_16') ?_
       refine fv (fun _ => OV.sliceH rfl rfl c9 o_17') ?_
       refine fv (fun _ => OV.cat rfl rfl o_18') ?_
       refine fv (fun _ => OV.cat rfl rfl o_19') ?_
       refine fv (fun _ => OV.eqlS rfl rfl) ?_
       refine fv (fun _ => OV.pickT rfl rfl) ?_
       refine FL.set 81 (fun _ => rfl) (bT (v := decide (c8 l3 a3 = (([123] : List UInt8) ++ ((c8 l1 a1).take (((c8 l1 a1).length : Int) - 1).toNat)) ++ ([125, 10] : List UInt8))) hb) ?_
       exact FL.weak (L' := fun _ => [(81, zB (((!decide (c8 l1 a1 = [])) && (decide (c8 l2 a2 = c8 l1 a1))) && (decide (c8 l3 a3 = (([123] : List UInt8) ++ ((c8 l1 a1).take (((c8 l1 a1).length : Int) - 1).toNat)) ++ ([125, 10] : List UInt8)))))]) (fun _ => ⟨rfl, trivial⟩) (FL.nil hK_16')
      ·refine FL.set 70 (fun _ => rfl) (congrArg zB hb) ?_
       refine FL.skip rfl (fun _ => rfl) rfl rfl ?_
       refine FL.skip rfl (fun _ => rfl) rfl rfl ?_
       refine FL.skip rfl (fun _ => rfl) rfl rfl ?_
       refine FL.skip rfl (fun _ => rfl) rfl rfl ?_
       refine FL.skip rfl (fun _ => rfl) rfl rfl ?_
       refine FL.skip rfl (fun _ => rfl) rfl rfl ?_
       refine FL.skip rfl (fun _ => rfl) rfl rfl ?_
       refine FL.skip rfl (fun _ => rfl) rfl rfl ?_
       refine FL.skip rfl (fun _ => rfl) rfl rfl ?_
       refine FL.skip rfl (fun _ => rfl) rfl rfl ?_
       refine fv (fun _ => OV.pickF rfl rfl) ?_
       refine FL.set 81 (fun _ => rfl) (bF (v := decide (c8 l3 a3 = (([123] : List UInt8) ++ ((c8 l1 a1).take (((c8 l1 a1).length : Int) - 1).toNat)) ++ ([125, 10] : List UInt8))) hb) ?_
       exact FL.weak (L' := fun _ => [(81, zB (((!decide (c8 l1 a1 = [])) && (decide (c8 l2 a2 = c8 l1 a1))) && (decide (c8 l3 a3 = (([123] : List UInt8) ++ ((c8 l1 a1).take (((c8 l1 a1).length : Int) - 1).toNat)) ++ ([125, 10] : List UInt8)))))]) (fun _ => ⟨rfl, trivial⟩) (FL.nil hK_16')
     refine fv (fun _ => OV.assign rfl) ?_
     refine FL.weak (L' := fun _ => [(2, zB (((!decide (c8 l1 a1 = [])) && (decide (c8 l2 a2 = c8 l1 a1))) && (decide (c8 l3 a3 = (([123] : List UInt8) ++ ((c8 l1 a1).take (((c8 l1 a1).length : Int) - 1).toNat)) ++ ([125, 10] : List UInt8)))))]) (fun _ => ⟨rfl, trivial⟩) (FL.nil (hT (fun _ => [(2, zB (((!decide (c8 l1 a1 = [])) && (decide (c8 l2 a2 = c8 l1 a1))) && (decide (c8 l3 a3 = (([123] : List UInt8) ++ ((c8 l1 a1).take (((c8 l1 a1).length : Int) - 1).toNat)) ++ ([125, 10] : List UInt8)))))]) (fun _ => ?_)))
     refine kg (hK_14' [(2, zB (((!decide (c8 l1 a1 = [])) && (decide (c8 l2 a2 = c8 l1 a1))) && (decide (c8 l3 a3 = (([123] : List UInt8) ++ ((c8 l1 a1).take (((c8 l1 a1).length : Int) - 1).toNat)) ++ ([125, 10] : List UInt8)))))] _ ?_)
     refine c7 ?_
     exact hE.ret [] rfl rfl (.inl ⟨_, h, rfl⟩) (e9.of1 rfl (RV.tmp rfl))
    ·obtain ⟨qb3, dw3, mv3, ds3, R3, B_2', hc, ho⟩ := hS
     cases ho
   ·obtain ⟨qb2, dw2, mv2, ds2, R2, B_1', hc, ho⟩ := hS
    cases ho
 ·obtain ⟨qb1, dw1, mv1, ds1, R1, B, hc, ho⟩ := hS
  cases ho
def afg (text : List UInt8) (c1 : Int) (p1 : Int) (K : Bool → Prop) : Prop :=
 (n0 text = .error (c1, p1)) ∧
 (∀ (_B : List (Nat × Obj)), True →
  (¬ (c1 = 0)) ∧
  K true)
theorem aph (te : TypeId) (fre : Nat × Nat) (text : List UInt8) (c1 : Int) (p1 : Int) (K : Bool → Prop) (h : afg text c1 p1 K) :
  d9 Tryd.prog 6 [st text] [(0, .cells [st ([124] : List UInt8), st ([38, 45] : List UInt8), st ([62, 62] : List UInt8), st ([126] : List UInt8), st ([46] : List UInt8)].toArray te fre)] [] (fun o => (∃ (v : Bool), K v ∧ o = .ret (zB v) []) ∨ (False)) := by
 unfold afg at h
 refine b9 (n := 82) (L0 := [(0, st text)]) Tryd.func6 rfl rfl rfl rfl (fun w0 M Q hE => ?_)
 refine WC.newPool ?_
 refine a7 (fun _ hK => ?_)
 refine a6 ?_
 refine wA ?_
 refine WL.nil ?_
 refine kg (hK [(0, st text)] _ ?_)
 refine a7 (fun _ hK_1' => ?_)
 refine a7 (fun _ hK_2' => ?_)
 refine a6 ?_
 refine WL.cv ⟨_, _, _, EN.fn alw rfl, ae5 te fre, Rd.old⟩ rfl rfl rfl ?_
 refine wv (OV.not rfl) ?_
 refine WL.nil ?_
 refine kg (hK_2' [(0, st text), (11, zB false)] _ ?_)
 refine d7 rfl ?_
 refine b7 ?_
 refine kg (hK_1' [(0, st text)] _ ?_)
 refine a7 (fun _ hK_3' => ?_)
 refine a6 ?_
 refine wm ?_
 obtain ⟨o, h⟩ := h
 refine WL.callS ado rfl (anf te fre text ([] : List (Nat × Obj)) c1 p1 o) rfl ⟨.inr (List.mem_of_getElem? (i := 0) rfl), trivial⟩ rfl rfl (fun r H' hS => ?_) (fun c H' hS => ?_)
 ·obtain ⟨B, hc, ho⟩ := hS
  cases ho
  replace h := h B hc
  refine wm ?_
  refine wv (OV.extract 0 rfl rfl) ?_
  refine wv (OV.extract 1 rfl rfl) ?_
  refine WL.make (MV.alloc z1) rfl rfl rfl (fun b => ?_)
  refine wA ?_
  refine WL.storeW (vs := [zI c1, zI p1, st []]) 0 rfl rfl rfl rfl rfl n6 rfl rfl rfl ?_
  refine WL.nil ?_
  refine kg (hK_3' [(0, st text), (3, Value.pointer none), (4, zP b)] _ ?_)
  refine a7 (fun _ hK_4' => ?_)
  refine a7 (fun _ hK_5' => ?_)
  refine a6 ?_
  refine wv (OV.loadR rfl (At.own 0 rfl) o8) ?_
  refine wv (OV.build rfl (cs := [zI 0, zI 0, st []]) rfl) ?_
  obtain ⟨o_1', h⟩ := h
  refine wv (OV.cast (OV.neqF (rs := [decide (c1 = 0), decide (p1 = 0), decide (([] : List UInt8) = [])]) rfl rfl Tryd.underlying26 z2 aa8 ⟨rfl, aaq, ⟨_, _, rfl, rfl, p4.int Tryd.underlying24⟩, ⟨rfl, b6, ⟨_, _, rfl, rfl, p4.int Tryd.underlying3⟩, ⟨rfl, c6, ⟨_, _, rfl, rfl, p4.str Tryd.underlying9⟩, trivial⟩⟩⟩) (v' := zB true) (by rw [decide_eq_false o_1']; rfl)) ?_
  refine wm ?_
  refine wk ?_
  refine wk ?_
  refine wk ?_
  refine wk ?_
  refine wk ?_
  refine wk ?_
  refine wv (OV.pickT rfl rfl) ?_
  refine wm ?_
  refine wk ?_
  refine wk ?_
  refine wk ?_
  refine wv (OV.pickT rfl rfl) ?_
  refine wm ?_
  refine wk ?_
  refine wk ?_
  refine wk ?_
  refine wv (OV.pickT rfl rfl) ?_
  refine WL.nil ?_
  refine kg (hK_5' [(0, st text), (3, Value.pointer none), (37, zB true)] _ ?_)
  refine h8 rfl ?_
  refine a7 (fun _ hK_6' => ?_)
  refine a6 ?_
  refine wA ?_
  refine WL.nil ?_
  refine kg (hK_6' [(2, zB true)] _ ?_)
  refine c7 ?_
  exact hE.ret [] rfl rfl (.inl ⟨_, h, rfl⟩) (e9.of1 rfl (RV.tmp rfl))
 ·obtain ⟨B, hc, ho⟩ := hS
  cases ho
theorem ak8 (te : TypeId) (fre : Nat × Nat) (t : List UInt8) : d9 Tryd.prog 6 [st t] (ab2 te fre) [] (Ret (.bool true) []) := by
 have out : ∀ {x : Out}, (∃ v : Bool, v = true ∧ x = .ret (.bool v) []) ∨ False → x = .ret (.bool true) [] := by
  rintro x (⟨v, rfl, rfl⟩ | h)
  ·rfl
  ·exact h.elim
 cases hp : n0 t with
 | error x =>
  obtain ⟨c, p⟩ := x
  refine (aph te fre t c p (fun b => b = true) ?_).weak fun x h => out h
  unfold afg
  refine ⟨hp, fun _ _ => ⟨?_, rfl⟩⟩
  unfold n0 at hp
  split at hp
  ·exact ahb hp
  ·rename_i h0; cases hp; exact h0
 | ok x =>
  obtain ⟨l, a⟩ := x
  refine (apn te fre t l a [] (shX 1 a) [] (.keyed 0 (shX 1 a)) (fun b => b = true) ?_).weak fun x h => out h
  unfold afk
  refine ⟨hp, fun b1 dw1 mv1 ds1 R1 B ⟨g1, _⟩ => ⟨g1.2.2.2.2, g1.2.2.1, fun h => ?_, ?_⟩⟩
  ·rw [Bool.or_eq_false_iff, decide_eq_false_iff_not, decide_eq_false_iff_not] at h; omega
  ·have k1 : ds1.length = l.length := g1.1.len
   split
   ·rfl
   ·rename_i hc
    rw [Bool.or_eq_true, Bool.or_eq_true, decide_eq_true_eq, decide_eq_true_eq, decide_eq_true_eq] at hc
    have hl0 : l = [] := by cases l with
     | nil => rfl
     | cons x y => exfalso; apply hc; left; left; rw [k1, List.length_cons]; omega
    subst hl0
    have hl : t.length ≤ 4000 := by omega
    have q1 := akn hp hl (by omega)
    have q2 := aj2 hp hl (by omega)
    have hlen : c8 [] a ≠ [] := by rw [ac7]; simp
    have hpl := (ac7 a)
    have hw := ac2 hp
    have ha := s9 a 0 hw.2.1
    have hw3 := hw.2.2
    have hn : (c8 [] a).length = (f7 a 0).length + 1 := by rw [ac7, List.length_append]; rfl
    have htk : (c8 [] a).take (((c8 [] a).length : Int) - 1).toNat = f7 a 0 := by
     rw [hn, show (((f7 a 0).length + 1 : Nat) - 1 : Int).toNat = (f7 a 0).length by omega, ac7, List.take_left]
    rw [htk]
    have hll : ([40] : List UInt8).length = 1 := rfl
    have hl2 : ([123] : List UInt8).length = 1 := rfl
    have hl3 : ([10, 41] : List UInt8).length = 2 := rfl
    have hl4 : ([10, 125] : List UInt8).length = 2 := rfl
    have hl5 : ([125, 10] : List UInt8).length = 2 := rfl
    refine ⟨by omega, by rw [List.length_append]; omega, q1, fun b2 dw2 mv2 ds2 R2 B2 ⟨g2, gm⟩ => ⟨by omega, by rw [List.length_append]; omega, q2, fun b3 dw3 mv3 ds3 R3 B3 ⟨g3, gm3⟩ => ⟨⟨(g1.more gm).more gm3, hw⟩, fun _ => ⟨g2.more gm3, ac2 q1⟩, fun _ => ⟨⟨g3, ac2 q2⟩, by unfold I64; omega, ⟨by omega, by omega⟩, by omega, by rw [List.length_append]; omega⟩, ?_⟩⟩⟩
    rw [ali, al2, decide_eq_false hlen, decide_eq_true rfl, show f7 (shX 1 a) 0 = f7 a 0 from aod 1 a 0, decide_eq_true (by simp)]
    rfl
end Go.Proofs.YtifajndacnfcbaaDoor
namespace Go.Proofs.YtifajndacnfcbaaDoor
open Go Go.ChangeShapes Go.WideShapes Go.ChangeAt Go.RowKit
theorem afe (os : Os) : laidMet Tryd.prog Rows.syntaxWrappedRow.laid ((afx os).forCall (fun _ _ => 0) ⟨#[], #[.string ByteArray.empty], []⟩).memory :=
 laidMet_of_run' 8 (by kernel_rfl) (by kernel_rfl)
theorem aec (os : Os) {H : Type} (enc : TypeId × Value → H) : ∃ places, DataW.whole enc Tryd.prog ((afx os).forCall (fun _ _ => 0) ⟨#[], #[.string ByteArray.empty], []⟩).memory Tryd.f6.params.toList Rows.syntaxWrappedSpec.vars false (#[.string ByteArray.empty] : Array Value).toList 8 = some ([.lit (.string [])], [], places) :=
 ⟨[], by kernel_rfl⟩
set_option maxRecDepth 100000 in
theorem adz (os : Os) (started : os.Started) (H : Type) (enc : TypeId × Value → H) (F : Stop.Interp) :
  ReturnsInHanded {} Tryd.checked os 6 .any ((OpenSpec.ofChange Rows.syntaxWrappedSpec).preRow enc Tryd.prog Tryd.f6 Rows.syntaxWrappedRow.domain false Rows.syntaxWrappedRow.laid) (((OpenSpec.ofChange Rows.syntaxWrappedSpec).at F).post enc Tryd.prog Tryd.f6 false true false false) := by
 obtain ⟨places, hx⟩ := aec os enc
 refine returnsInHanded_of_row (C := Tryd.checked) (s := OpenSpec.ofChange Rows.syntaxWrappedSpec) aq6 started (by kernel_rfl) Tryd.func6
  (witness_row_atRef (enc := enc) (C := Tryd.checked) false (afx os) #[.string ByteArray.empty] rfl (by kernel_rfl) (by kernel_rfl) (by kernel_rfl)
   (OpenSpec.preRow_of_cond 8 hx (by kernel_rfl) (fun k hk => by cases hk) (by kernel_rfl) (afe os))) ?_
 intro W base args ds gs before hval0 hW _ hcond hwt0 hL _ _
 have hval : ∀ (j : Nat) t v, Tryd.f6.params[j]? = some t → args[j]? = some v → Value.okWide Tryd.prog W .any base t v := hval0
 have hW' : DataW.Whole enc Tryd.prog Tryd.f6.params.toList Rows.syntaxWrappedSpec.vars false W args.toList ds gs before := hW
 obtain ⟨p, q, hA0, hV, rfl, _, _⟩ := hW'
 have hA : DataW.TrodAll enc Tryd.prog W 0 (fun _ => true) true Tryd.f6.params.toList args.toList ds p := hA0
 have hwt : (DataW.weightsEach Tryd.prog (Tryd.f6.params.toList ++ Rows.syntaxWrappedSpec.plain.varTypes Tryd.prog) (ds ++ gs)).all (· ≤ reachBytes) = true := hwt0
 rw [Tryd.params6] at hA hval hwt
 obtain ⟨v0, d0, rfl, rfl, h0⟩ := trodAll_one hA
 obtain ⟨rfl, rfl⟩ := trodVars_none hV
 obtain ⟨a0, rfl, e0, _, _⟩ := ChangeMaps.open_string Tryd.underlying9 (hval 0 _ v0 rfl rfl) h0
 have y0 : a0.data.toList.length ≤ reachBytes := sized_string hwt (j := 0) (t := 9) rfl (by rw [e0]; rfl)
 have r0 : a0.data.toList.length ≤ 140737488351232 := y0
 refine (al3 hL (fun te fre => ak8 te fre a0.data.toList)).mono fun e W' ⟨he, hb⟩ => ?_
 subst he
 exact ⟨_, rfl, ap5 aqf rfl Tryd.underlying4 (by kernel_rfl) rfl hW rfl hb⟩
theorem aer : Rows.SyntaxWrappedSaid :=
 OpenClaim.holds_of_cond 6 Tryd.f6 rfl rfl rfl rfl rfl rfl rfl ⟨rfl, rfl, rfl, rfl, rfl⟩ rfl rfl rfl rfl rfl (by kernel_rfl) Tryd.func6 (by kernel_rfl)
  (of_decide_eq_true (by kernel_rfl)) (by unfold Func.isWrapper; rw [if_neg (of_decide_eq_false (by kernel_rfl))]; exact ⟨rfl, rfl⟩)
  (fun os started H enc _ F => by rw [OpenClaim.pre_eq_preRow]; exact adz os started H enc F)
theorem syntaxWrapped_card_holds : Rows.SyntaxWrappedCardSaid :=
 Claim7.holds_tied_plain_at .later [] _ _ _ _ aer (fun _ h => by cases h) (by kernel_rfl) (fun _ h => by cases h) syntaxWrapped_row_tie rfl ⟨rfl, rfl⟩ (by kernel_rfl) rfl
  (fun f fn hf hfn => by
   obtain rfl : f = 6 := Option.some.inj ((show Tryd.prog.funcNamed "loupe/loupelaw13.SyntaxWrapped" = some 6 by kernel_rfl).symm.trans hf) |>.symm
   obtain rfl : fn = Tryd.f6 := (Option.some.inj (Tryd.func6.symm.trans hfn)).symm
   refine ⟨by kernel_rfl, fun j t ht => ?_⟩
   rw [Tryd.params6] at ht
   have h3 : t = 9 := by simpa using Array.mem_of_getElem? ht
   rcases h3 with rfl
   ·exact (show Tryd.prog.wantsStandIn 9 = false by kernel_rfl))
  (by kernel_rfl)
end Go.Proofs.YtifajndacnfcbaaDoor
