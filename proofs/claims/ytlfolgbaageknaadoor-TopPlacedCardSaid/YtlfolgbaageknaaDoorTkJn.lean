/-
  Two texts with a newline between have the tokens of both: in plain Lean.
-/
import Derived.Test.YtlfolgbaageknaaDoorTkC
namespace Go.Proofs.YtlfolgbaageknaaDoor
open Go Go.RowKit

theorem bt_lt {s r : List UInt8} {i : Int} (h : 0 ≤ i ∧ i < s.length) : bt (s ++ r) i = bt s i := by
  unfold bt
  rw [List.getD_eq_getElem?_getD, List.getD_eq_getElem?_getD, List.getElem?_append_left (by omega)]
theorem bt_ge {p t : List UInt8} {i : Int} (h : 0 ≤ i) : bt (p ++ t) (p.length + i) = bt t i := by
  unfold bt
  rw [List.getD_eq_getElem?_getD, List.getD_eq_getElem?_getD, List.getElem?_append_right (by omega), show ((p.length : Int) + i).toNat - p.length = i.toNat by omega]
theorem drop_ge {p t : List UInt8} {i : Int} (h : 0 ≤ i) : (p ++ t).drop ((p.length : Int) + i).toNat = t.drop i.toNat := by
  rw [show ((p.length : Int) + i).toNat = p.length + i.toNat by omega, ← List.drop_drop, List.drop_left]
theorem drop_lt {s r : List UInt8} {i : Int} (h : 0 ≤ i ∧ i ≤ s.length) : (s ++ r).drop i.toNat = s.drop i.toNat ++ r := by
  rw [List.drop_append_of_le_length (by omega)]

/-! ### ahead -/
section ahead
variable {s t : List UInt8}
theorem len_u : ((s ++ 10 :: t).length : Int) = s.length + 1 + t.length := by simp; omega
theorem gapL_app : ∀ (cm : Bool) (x : List UInt8), gapL cm (x ++ 10 :: t) = if gapL cm x = x.length then x.length + 1 + gapL false t else gapL cm x
  | cm, [] => by
    rw [List.nil_append, gapL]
    cases cm <;> simp [gapL]
  | cm, c :: x => by
    have ih := gapL_app ((cm || c == 35) && c != 10) x
    rw [List.cons_append, gapL, gapL]
    by_cases h : (((cm || c == 35) && c != 10) || c == 32 || c == 9 || c == 10 || c == 13) = true
    · rw [if_pos h, if_pos h, ih, List.length_cons]
      by_cases h2 : gapL ((cm || c == 35) && c != 10) x = x.length
      · rw [if_pos h2, if_pos (by omega)]; omega
      · rw [if_neg h2, if_neg (by omega)]
    · rw [if_neg h, if_neg h, if_neg (by simp)]
def posJ (s t : List UInt8) (a : Int) : Int := if a < s.length then a else s.length + 1 + gapM t 0
theorem gapM_app {q : Int} (h : 0 ≤ q ∧ q ≤ s.length) : gapM (s ++ 10 :: t) q = posJ s t (gapM s q) := by
  have hb := gapM_bd h
  unfold posJ
  have h1 : gapM (s ++ 10 :: t) q = q + gapL false (s.drop q.toNat ++ 10 :: t) := by unfold gapM; rw [drop_lt h]
  rw [h1, gapL_app]
  have hl : (s.drop q.toNat).length = s.length - q.toNat := List.length_drop
  by_cases h2 : gapL false (s.drop q.toNat) = (s.drop q.toNat).length
  · rw [if_pos h2, if_neg (by unfold gapM; omega)]
    unfold gapM
    rw [show (0 : Int).toNat = 0 from rfl, List.drop_zero]; omega
  · have := gapL_le false (s.drop q.toNat)
    rw [if_neg h2, if_pos (by unfold gapM; omega)]; rfl
theorem nameL_app : ∀ x : List UInt8, nameL (x ++ 10 :: t) = nameL x
  | [] => by rw [List.nil_append, nameL]; rfl
  | c :: x => by rw [List.cons_append, nameL, nameL, nameL_app x]
theorem cut_app {i j : Int} {r : List UInt8} (h : 0 ≤ i ∧ i ≤ j ∧ j ≤ s.length) : cut (s ++ r) i j = cut s i j := by
  unfold cut
  rw [drop_lt ⟨h.1, by omega⟩, List.take_append_of_le_length (by rw [List.length_drop]; omega)]
theorem escM_app {a c q : Int} (h0 : 0 ≤ a) (h : escM s a = (c, true, q)) : escM (s ++ 10 :: t) a = (c, true, q) := by
  have hl := len_u (s := s) (t := t)
  unfold escM at h ⊢
  simp only at h ⊢
  by_cases h1 : (s.length : Int) ≤ a + 1
  · rw [if_pos h1] at h; simp at h
  · rw [if_neg h1] at h
    rw [if_neg (by omega), bt_lt (r := 10 :: t) ⟨by omega, by omega⟩]
    generalize bt s (a + 1) = b at h ⊢
    by_cases c1 : b = 110
    · rw [if_pos c1] at h ⊢; exact h
    · rw [if_neg c1] at h ⊢
      by_cases c2 : b = 114
      · rw [if_pos c2] at h ⊢; exact h
      · rw [if_neg c2] at h ⊢
        by_cases c3 : b = 116
        · rw [if_pos c3] at h ⊢; exact h
        · rw [if_neg c3] at h ⊢
          by_cases c4 : b = 34 ∨ b = 92
          · rw [if_pos c4] at h ⊢; exact h
          · rw [if_neg c4] at h ⊢
            by_cases c5 : b = 120
            · rw [if_pos c5] at h ⊢
              by_cases d1 : (s.length : Int) ≤ a + 2
              · rw [if_pos d1] at h; simp at h
              · rw [if_neg d1] at h
                rw [if_neg (by omega), bt_lt (r := 10 :: t) ⟨by omega, by omega⟩]
                by_cases d2 : refHex (bt s (a + 2)) < 0
                · rw [if_pos d2] at h; simp at h
                · rw [if_neg d2] at h ⊢
                  by_cases d3 : (s.length : Int) ≤ a + 3
                  · rw [if_pos d3] at h; simp at h
                  · rw [if_neg d3] at h
                    rw [if_neg (by omega), bt_lt (r := 10 :: t) ⟨by omega, by omega⟩]
                    exact h
            · rw [if_neg c5] at h; simp at h
theorem quotedF_app {fr : Int} : ∀ {n m : Nat} {out : List UInt8} {k : Int} {r : List UInt8 × Int}, 0 ≤ k → n ≤ m → quotedF s fr n out k = .ok r → quotedF (s ++ 10 :: t) fr m out k = .ok r
  | 0, _, _, _, _, _, _, h => by cases h
  | n + 1, m, out, k, r, h0, hm, h => by
    obtain ⟨m, rfl⟩ : ∃ q, m = q + 1 := ⟨m - 1, by omega⟩
    have hl := len_u (s := s) (t := t)
    rw [quotedF] at h ⊢
    by_cases hk : k < s.length
    · rw [if_pos hk] at h
      rw [if_pos (by omega), bt_lt (r := 10 :: t) ⟨h0, hk⟩]
      by_cases e1 : bt s k = 34
      · rw [if_pos e1] at h ⊢; exact h
      · rw [if_neg e1] at h ⊢
        by_cases e2 : printB (bt s k) = false
        · rw [if_pos e2] at h; cases h
        · rw [if_neg e2] at h ⊢
          by_cases e3 : bt s k ≠ 92
          · rw [if_pos e3] at h ⊢
            exact quotedF_app (by omega) (by omega) h
          · rw [if_neg e3] at h ⊢
            by_cases e4 : (s.length : Int) ≤ (escM s k).2.2
            · rw [if_pos e4] at h; cases h
            · rw [if_neg e4] at h
              by_cases e5 : (escM s k).2.1 = false
              · rw [if_pos e5] at h; cases h
              · rw [if_neg e5] at h
                have he : escM s k = ((escM s k).1, true, (escM s k).2.2) := by
                  have : (escM s k).2.1 = true := by simpa using e5
                  rw [← this]
                have he2 := escM_app (t := t) h0 he
                have hq := escM_q he
                rw [he2]
                simp only
                rw [if_neg (by omega), if_neg (by simp)]
                exact quotedF_app (by omega) (by omega) h
    · rw [if_neg hk] at h; cases h
theorem regexF_app {fr : Int} (hfr : 0 ≤ fr) : ∀ {n m : Nat} {k : Int} {r : List UInt8 × Int}, fr + 1 ≤ k → n ≤ m → regexF s fr n k = .ok r → regexF (s ++ 10 :: t) fr m k = .ok r
  | 0, _, _, _, _, _, h => by cases h
  | n + 1, m, k, r, h0, hm, h => by
    obtain ⟨m, rfl⟩ : ∃ q, m = q + 1 := ⟨m - 1, by omega⟩
    have hl := len_u (s := s) (t := t)
    rw [regexF] at h ⊢
    by_cases hk : k < s.length
    · rw [if_pos hk] at h
      rw [if_pos (by omega), bt_lt (r := 10 :: t) ⟨by omega, hk⟩]
      by_cases e1 : bt s k = 92 ∧ k + 1 < s.length
      · rw [if_pos e1] at h
        rw [if_pos ⟨e1.1, by omega⟩, bt_lt (r := 10 :: t) ⟨by omega, e1.2⟩]
        by_cases e2 : printB (bt s (k + 1)) = false
        · rw [if_pos e2] at h; cases h
        · rw [if_neg e2] at h ⊢
          exact regexF_app hfr (by omega) (by omega) h
      · rw [if_neg e1] at h
        by_cases e2 : printB (bt s k) = false
        · rw [if_pos e2] at h; cases h
        · rw [if_neg e2] at h
          by_cases e3 : bt s k = 47
          · rw [if_pos e3] at h
            rw [if_neg (by omega), if_neg e2, if_pos e3, cut_app ⟨by omega, by omega, by omega⟩]; exact h
          · rw [if_neg e3] at h
            by_cases e4 : bt s k = 92
            · have : ¬ k + 1 < s.length := fun x => e1 ⟨e4, x⟩
              cases n with
              | zero => cases h
              | succ n => rw [regexF, if_neg (by omega)] at h; cases h
            · rw [if_neg (by omega), if_neg e2, if_neg e3]
              exact regexF_app hfr (by omega) (by omega) h
    · rw [if_neg hk] at h; cases h
theorem oneM_app {a : Int} {r : Tok × Int} (hb : 0 ≤ a ∧ a < s.length) (h : oneM s a = .ok r) : oneM (s ++ 10 :: t) a = .ok r := by
  have hl := len_u (s := s) (t := t)
  have hlen : (s ++ 10 :: t).length = s.length + 1 + t.length := by simp; omega
  have hd : (s ++ 10 :: t).drop a.toNat = s.drop a.toNat ++ 10 :: t := drop_lt ⟨hb.1, by omega⟩
  have hn := nameL_le (s.drop a.toNat)
  rw [List.length_drop] at hn
  unfold oneM at h ⊢
  rw [bt_lt (r := 10 :: t) hb, hd, nameL_app]
  by_cases e1 : letterB (bt s a) = true
  · rw [if_pos e1] at h ⊢
    by_cases e2 : (nameL (s.drop a.toNat) : Int) > 32
    · rw [if_pos e2] at h; cases h
    · rw [if_neg e2] at h ⊢
      rw [cut_app ⟨hb.1, by omega, by omega⟩]; exact h
  · rw [if_neg e1] at h ⊢
    by_cases e2 : bt s a = 34
    · rw [if_pos e2] at h ⊢
      unfold quotedM at h ⊢
      cases hq : quotedF s a (s.length + 1) [] (a + 1) with
      | error e => rw [hq] at h; cases h
      | ok x => rw [hq] at h; rw [quotedF_app (by omega) (by omega) hq]; exact h
    · rw [if_neg e2] at h ⊢
      by_cases e3 : bt s a = 47
      · rw [if_pos e3] at h ⊢
        unfold regexM at h ⊢
        cases hq : regexF s a (s.length + 1) (a + 1) with
        | error e => rw [hq] at h; cases h
        | ok x => rw [hq] at h; rw [regexF_app hb.1 (by omega) (by omega) hq]; exact h
      · rw [if_neg e3] at h ⊢
        by_cases e4 : marksL.contains (bt s a).toNat.toUInt8 = true
        · rw [if_pos e4] at h ⊢
          rw [cut_app ⟨hb.1, by omega, by omega⟩]; exact h
        · rw [if_neg e4] at h ⊢
          by_cases e5 : a + 1 < s.length ∧ bt s a = 62 ∧ bt s (a + 1) = 62
          · rw [if_pos e5] at h
            rw [if_pos ⟨by omega, e5.2.1, by rw [bt_lt (r := 10 :: t) ⟨by omega, e5.1⟩]; exact e5.2.2⟩]; exact h
          · rw [if_neg e5] at h; cases h
/-- Through the first text. -/
theorem scanF_app : ∀ {n : Nat} {l l1 : List Tok} {a : Int}, 0 ≤ a → a ≤ s.length → scanF s n l a = .ok l1 →
    ∃ init, l1 = init ++ [((0, (s.length : Int), []) : Tok)] ∧ ∀ m, ((s ++ 10 :: t).length - posJ s t a).toNat < m → ∃ m', ((s ++ 10 :: t).length - (s.length + 1 + gapM t 0)).toNat < m' ∧ scanF (s ++ 10 :: t) m l (posJ s t a) = scanF (s ++ 10 :: t) m' init (s.length + 1 + gapM t 0)
  | 0, _, _, _, _, _, h => by cases h
  | n + 1, l, l1, a, h0, h1, h => by
    have hl := len_u (s := s) (t := t)
    rw [scanF] at h
    by_cases ha : a < s.length
    · rw [if_pos ha] at h
      cases ho : oneM s a with
      | error e => rw [ho] at h; cases h
      | ok r =>
        rw [ho] at h
        have hq := oneM_ok ⟨h0, ha⟩ (k := r.1) (q := r.2) ho
        have hg := gapM_bd (t := s) (a := r.2) ⟨by omega, hq.2⟩
        obtain ⟨init, e1, e2⟩ := scanF_app (by omega) hg.2 h
        refine ⟨init, e1, fun m hm => ?_⟩
        have hp : posJ s t a = a := by unfold posJ; rw [if_pos ha]
        rw [hp] at hm ⊢
        obtain ⟨m, rfl⟩ : ∃ q, m = q + 1 := ⟨m - 1, by omega⟩
        have hg0 := gapM_bd (t := t) (a := 0) ⟨by omega, by omega⟩
        have hpos : a < posJ s t (gapM s r.2) := by unfold posJ; split <;> omega
        obtain ⟨m', f1, f2⟩ := e2 m (by omega)
        refine ⟨m', f1, ?_⟩
        rw [scanF, if_pos (by omega), oneM_app ⟨h0, ha⟩ ho]
        simp only
        rw [gapM_app ⟨by omega, hq.2⟩, f2]
    · rw [if_neg ha] at h
      simp only [Except.ok.injEq] at h
      refine ⟨l, h.symm, fun m hm => ⟨m, ?_, ?_⟩⟩
      · have hp : posJ s t a = s.length + 1 + gapM t 0 := by unfold posJ; rw [if_neg ha]
        rwa [hp] at hm
      · have hp : posJ s t a = s.length + 1 + gapM t 0 := by unfold posJ; rw [if_neg ha]
        rw [hp]
end ahead

theorem quotedF_fuel {t : List UInt8} {fr : Int} : ∀ {n m : Nat} {out : List UInt8} {k : Int} {r : List UInt8 × Int}, n ≤ m → quotedF t fr n out k = .ok r → quotedF t fr m out k = .ok r
  | 0, _, _, _, _, _, h => by cases h
  | n + 1, m, out, k, r, hm, h => by
    obtain ⟨m, rfl⟩ : ∃ q, m = q + 1 := ⟨m - 1, by omega⟩
    rw [quotedF] at h ⊢
    by_cases hk : k < t.length
    · rw [if_pos hk] at h ⊢
      by_cases e1 : bt t k = 34
      · rw [if_pos e1] at h ⊢; exact h
      · rw [if_neg e1] at h ⊢
        by_cases e2 : printB (bt t k) = false
        · rw [if_pos e2] at h; cases h
        · rw [if_neg e2] at h ⊢
          by_cases e3 : bt t k ≠ 92
          · rw [if_pos e3] at h ⊢; exact quotedF_fuel (by omega) h
          · rw [if_neg e3] at h ⊢
            by_cases e4 : (t.length : Int) ≤ (escM t k).2.2
            · rw [if_pos e4] at h; cases h
            · rw [if_neg e4] at h ⊢
              by_cases e5 : (escM t k).2.1 = false
              · rw [if_pos e5] at h; cases h
              · rw [if_neg e5] at h ⊢; exact quotedF_fuel (by omega) h
    · rw [if_neg hk] at h; cases h
theorem regexF_fuel {t : List UInt8} {fr : Int} : ∀ {n m : Nat} {k : Int} {r : List UInt8 × Int}, n ≤ m → regexF t fr n k = .ok r → regexF t fr m k = .ok r
  | 0, _, _, _, _, h => by cases h
  | n + 1, m, k, r, hm, h => by
    obtain ⟨m, rfl⟩ : ∃ q, m = q + 1 := ⟨m - 1, by omega⟩
    rw [regexF] at h ⊢
    by_cases hk : k < t.length
    · rw [if_pos hk] at h ⊢
      by_cases e1 : bt t k = 92 ∧ k + 1 < t.length
      · rw [if_pos e1] at h ⊢
        by_cases e2 : printB (bt t (k + 1)) = false
        · rw [if_pos e2] at h; cases h
        · rw [if_neg e2] at h ⊢; exact regexF_fuel (by omega) h
      · rw [if_neg e1] at h ⊢
        by_cases e2 : printB (bt t k) = false
        · rw [if_pos e2] at h; cases h
        · rw [if_neg e2] at h ⊢
          by_cases e3 : bt t k = 47
          · rw [if_pos e3] at h ⊢; exact h
          · rw [if_neg e3] at h ⊢; exact regexF_fuel (by omega) h
    · rw [if_neg hk] at h; cases h
/-! ### behind -/
section behind
variable {p t : List UInt8}
theorem len_p : ((p ++ t).length : Int) = p.length + t.length := by simp
theorem escM_sh {a : Int} (h : 0 ≤ a) : escM (p ++ t) (p.length + a) = ((escM t a).1, (escM t a).2.1, p.length + (escM t a).2.2) := by
  unfold escM
  have e1 : bt (p ++ t) (p.length + a + 1) = bt t (a + 1) := by rw [Int.add_assoc]; exact bt_ge (by omega)
  have e2 : bt (p ++ t) (p.length + a + 2) = bt t (a + 2) := by rw [Int.add_assoc]; exact bt_ge (by omega)
  have e3 : bt (p ++ t) (p.length + a + 3) = bt t (a + 3) := by rw [Int.add_assoc]; exact bt_ge (by omega)
  have g : ∀ k : Int, (((p ++ t).length : Int) ≤ p.length + a + k) = ((t.length : Int) ≤ a + k) := fun k => by rw [len_p]; exact propext ⟨fun x => by omega, fun x => by omega⟩
  simp only [e1, e2, e3, g]
  by_cases d1 : (t.length : Int) ≤ a + 1
  · simp only [if_pos d1, Int.add_assoc]
  · simp only [if_neg d1]
    by_cases d2 : bt t (a + 1) = 110
    · simp only [if_pos d2, Int.add_assoc]
    · simp only [if_neg d2]
      by_cases d3 : bt t (a + 1) = 114
      · simp only [if_pos d3, Int.add_assoc]
      · simp only [if_neg d3]
        by_cases d4 : bt t (a + 1) = 116
        · simp only [if_pos d4, Int.add_assoc]
        · simp only [if_neg d4]
          by_cases d5 : bt t (a + 1) = 34 ∨ bt t (a + 1) = 92
          · simp only [if_pos d5, Int.add_assoc]
          · simp only [if_neg d5]
            by_cases d6 : bt t (a + 1) = 120
            · simp only [if_pos d6]
              by_cases f1 : (t.length : Int) ≤ a + 2
              · simp only [if_pos f1, Int.add_assoc]
              · simp only [if_neg f1]
                by_cases f2 : refHex (bt t (a + 2)) < 0
                · simp only [if_pos f2, Int.add_assoc]
                · simp only [if_neg f2]
                  by_cases f3 : (t.length : Int) ≤ a + 3
                  · simp only [if_pos f3, Int.add_assoc]
                  · simp only [if_neg f3]
                    by_cases f4 : refHex (bt t (a + 3)) < 0
                    · simp only [if_pos f4, Int.add_assoc]
                    · simp only [if_neg f4, Int.add_assoc]
            · simp only [if_neg d6, Int.add_assoc]
theorem quotedF_sh {fr : Int} : ∀ {n : Nat} {out : List UInt8} {k : Int}, 0 ≤ k → quotedF (p ++ t) (p.length + fr) n out (p.length + k) = match quotedF t fr n out k with
    | .ok (x, q) => .ok (x, p.length + q)
    | .error (e, q) => .error (e, p.length + q)
  | 0, _, _, _ => rfl
  | n + 1, out, k, h => by
    have hl := len_p (p := p) (t := t)
    rw [quotedF, quotedF, bt_ge h, escM_sh h]
    simp only
    by_cases hk : k < t.length
    · rw [if_pos (by omega), if_pos hk]
      by_cases e1 : bt t k = 34
      · rw [if_pos e1, if_pos e1]; simp [Int.add_assoc]
      · rw [if_neg e1, if_neg e1]
        by_cases e2 : printB (bt t k) = false
        · rw [if_pos e2, if_pos e2]
        · rw [if_neg e2, if_neg e2]
          by_cases e3 : bt t k ≠ 92
          · rw [if_pos e3, if_pos e3, Int.add_assoc, quotedF_sh (by omega)]
          · rw [if_neg e3, if_neg e3]
            have hq := escM_q (t := t) (a := k) (b := (escM t k).1) (ok := (escM t k).2.1) (q := (escM t k).2.2) rfl
            by_cases e4 : (t.length : Int) ≤ (escM t k).2.2
            · rw [if_pos (by omega), if_pos e4]
            · rw [if_neg (by omega), if_neg e4]
              by_cases e5 : (escM t k).2.1 = false
              · rw [if_pos e5, if_pos e5]
              · rw [if_neg e5, if_neg e5, Int.add_assoc, quotedF_sh (by omega)]
    · rw [if_neg (by omega), if_neg hk]
theorem cut_sh {i j : Int} (h : 0 ≤ i) (hj : 0 ≤ j) : cut (p ++ t) (p.length + i) (p.length + j) = cut t i j := by
  unfold cut
  rw [drop_ge h]
  congr 1; omega
theorem regexF_sh {fr : Int} (hfr : 0 ≤ fr) : ∀ {n : Nat} {k : Int}, 0 ≤ k → regexF (p ++ t) (p.length + fr) n (p.length + k) = match regexF t fr n k with
    | .ok (x, q) => .ok (x, p.length + q)
    | .error (e, q) => .error (e, p.length + q)
  | 0, _, _ => rfl
  | n + 1, k, h => by
    have hl := len_p (p := p) (t := t)
    have e0 : bt (p ++ t) (p.length + k + 1) = bt t (k + 1) := by rw [Int.add_assoc]; exact bt_ge (by omega)
    rw [regexF, regexF, bt_ge h, e0]
    by_cases hk : k < t.length
    · rw [if_pos (by omega), if_pos hk]
      by_cases e1 : bt t k = 92 ∧ k + 1 < t.length
      · rw [if_pos ⟨e1.1, by omega⟩, if_pos e1]
        by_cases e2 : printB (bt t (k + 1)) = false
        · rw [if_pos e2, if_pos e2]; simp [Int.add_assoc]
        · rw [if_neg e2, if_neg e2, Int.add_assoc, regexF_sh hfr (by omega)]
      · rw [if_neg (fun x => e1 ⟨x.1, by omega⟩), if_neg e1]
        by_cases e2 : printB (bt t k) = false
        · rw [if_pos e2, if_pos e2]
        · rw [if_neg e2, if_neg e2]
          by_cases e3 : bt t k = 47
          · rw [if_pos e3, if_pos e3, Int.add_assoc, cut_sh (by omega) h]; simp [Int.add_assoc]
          · rw [if_neg e3, if_neg e3, Int.add_assoc, regexF_sh hfr (by omega)]
    · rw [if_neg (by omega), if_neg hk]
def shT (d : Int) (k : Tok) : Tok := (k.1, k.2.1 + d, k.2.2)
theorem oneM_sh {a : Int} (hb : 0 ≤ a ∧ a < t.length) {k : Tok} {q : Int} (h : oneM t a = .ok (k, q)) : oneM (p ++ t) (p.length + a) = .ok (shT p.length k, p.length + q) := by
  have hl := len_p (p := p) (t := t)
  have hlen : (p ++ t).length = p.length + t.length := by simp
  have e1 : bt (p ++ t) (p.length + a + 1) = bt t (a + 1) := by rw [Int.add_assoc]; exact bt_ge (by omega)
  have hq := oneM_ok hb h
  unfold oneM at h ⊢
  rw [bt_ge hb.1, drop_ge hb.1, e1]
  by_cases c1 : letterB (bt t a) = true
  · rw [if_pos c1] at h ⊢
    by_cases c2 : (nameL (t.drop a.toNat) : Int) > 32
    · rw [if_pos c2] at h; cases h
    · rw [if_neg c2] at h ⊢
      simp only [Except.ok.injEq, Prod.mk.injEq] at h
      obtain ⟨rfl, rfl⟩ := h
      rw [Int.add_assoc, cut_sh hb.1 (by omega)]
      simp [shT, Int.add_comm]
  · rw [if_neg c1] at h ⊢
    by_cases c2 : bt t a = 34
    · rw [if_pos c2] at h ⊢
      unfold quotedM at h ⊢
      cases hqf : quotedF t a (t.length + 1) [] (a + 1) with
      | error e => rw [hqf] at h; cases h
      | ok x =>
        rw [hqf] at h
        simp only [Except.ok.injEq, Prod.mk.injEq] at h
        obtain ⟨rfl, rfl⟩ := h
        have hfu := quotedF_fuel (fr := a) (m := (p ++ t).length + 1) (by omega) hqf
        rw [Int.add_assoc, quotedF_sh (by omega), hfu]
        simp [shT, Int.add_comm]
    · rw [if_neg c2] at h ⊢
      by_cases c3 : bt t a = 47
      · rw [if_pos c3] at h ⊢
        unfold regexM at h ⊢
        cases hqf : regexF t a (t.length + 1) (a + 1) with
        | error e => rw [hqf] at h; cases h
        | ok x =>
          rw [hqf] at h
          simp only [Except.ok.injEq, Prod.mk.injEq] at h
          obtain ⟨rfl, rfl⟩ := h
          have hfu := regexF_fuel (fr := a) (m := (p ++ t).length + 1) (by omega) hqf
          rw [Int.add_assoc, regexF_sh hb.1 (by omega), hfu]
          simp [shT, Int.add_comm]
      · rw [if_neg c3] at h ⊢
        by_cases c4 : marksL.contains (bt t a).toNat.toUInt8 = true
        · rw [if_pos c4] at h ⊢
          simp only [Except.ok.injEq, Prod.mk.injEq] at h
          obtain ⟨rfl, rfl⟩ := h
          rw [Int.add_assoc, cut_sh hb.1 (by omega)]
          simp [shT, Int.add_comm]
        · rw [if_neg c4] at h ⊢
          by_cases c5 : a + 1 < t.length ∧ bt t a = 62 ∧ bt t (a + 1) = 62
          · rw [if_pos c5] at h
            simp only [Except.ok.injEq, Prod.mk.injEq] at h
            obtain ⟨rfl, rfl⟩ := h
            rw [if_pos ⟨by omega, c5.2⟩]
            simp [shT, Int.add_comm, Int.add_assoc]
            omega
          · rw [if_neg c5] at h; cases h
theorem gapM_sh {a : Int} (h : 0 ≤ a) : gapM (p ++ t) (p.length + a) = p.length + gapM t a := by
  unfold gapM
  rw [drop_ge h]; omega
/-- Through the second text. -/
theorem scanF_sh : ∀ {n m : Nat} {l l' init : List Tok} {a : Int}, 0 ≤ a → a ≤ t.length → (t.length - a).toNat < m → scanF t n l a = .ok l' →
    ∃ l2, l' = l ++ l2 ∧ scanF (p ++ t) m init (p.length + a) = .ok (init ++ l2.map (shT p.length))
  | 0, _, _, _, _, _, _, _, _, h => by cases h
  | n + 1, m, l, l', init, a, h0, h1, hm, h => by
    obtain ⟨m, rfl⟩ : ∃ q, m = q + 1 := ⟨m - 1, by omega⟩
    have hl := len_p (p := p) (t := t)
    rw [scanF] at h
    rw [scanF]
    by_cases ha : a < t.length
    · rw [if_pos ha] at h
      rw [if_pos (by omega)]
      cases ho : oneM t a with
      | error e => rw [ho] at h; cases h
      | ok r =>
        rw [ho] at h
        have hq := oneM_ok ⟨h0, ha⟩ (k := r.1) (q := r.2) ho
        have hg := gapM_bd (t := t) (a := r.2) ⟨by omega, hq.2⟩
        obtain ⟨l2, e1, e2⟩ := scanF_sh (m := m) (init := init ++ [shT p.length r.1]) (by omega) hg.2 (by omega) h
        refine ⟨r.1 :: l2, by rw [e1]; simp, ?_⟩
        rw [oneM_sh ⟨h0, ha⟩ ho]
        simp only
        rw [gapM_sh (by omega), e2]
        simp
    · rw [if_neg ha] at h
      simp only [Except.ok.injEq] at h
      rw [if_neg (by omega)]
      refine ⟨[(0, (t.length : Int), [])], h.symm, ?_⟩
      simp [shT, Int.add_comm]
end behind
theorem oneM_at {t : List UInt8} {a : Int} {k : Tok} {q : Int} (h : oneM t a = .ok (k, q)) : k.2.1 = a := by
  unfold oneM at h
  split at h
  · split at h
    · cases h
    · simp only [Except.ok.injEq, Prod.mk.injEq] at h; rw [← h.1]
  · split at h
    · unfold quotedM at h
      split at h
      · simp only [Except.ok.injEq, Prod.mk.injEq] at h; rw [← h.1]
      · cases h
    · split at h
      · unfold regexM at h
        split at h
        · simp only [Except.ok.injEq, Prod.mk.injEq] at h; rw [← h.1]
        · cases h
      · split at h
        · simp only [Except.ok.injEq, Prod.mk.injEq] at h; rw [← h.1]
        · split at h
          · simp only [Except.ok.injEq, Prod.mk.injEq] at h; rw [← h.1]
          · cases h
theorem quotedF_err {t : List UInt8} {fr : Int} : ∀ {n : Nat} {out : List UInt8} {k : Int} {e p : Int}, quotedF t fr n out k = .error (e, p) → e ≠ 0
  | 0, _, _, _, _, h => by rw [quotedF] at h; simp only [Except.error.injEq, Prod.mk.injEq] at h; omega
  | n + 1, out, k, e, p, h => by
    rw [quotedF] at h
    repeat' split at h
    all_goals first | (exact quotedF_err h) | (simp only [Except.error.injEq, Prod.mk.injEq] at h; omega) | cases h
theorem regexF_err {t : List UInt8} {fr : Int} : ∀ {n : Nat} {k : Int} {e p : Int}, regexF t fr n k = .error (e, p) → e ≠ 0
  | 0, _, _, _, h => by rw [regexF] at h; simp only [Except.error.injEq, Prod.mk.injEq] at h; omega
  | n + 1, k, e, p, h => by
    rw [regexF] at h
    repeat' split at h
    all_goals first | (exact regexF_err h) | (simp only [Except.error.injEq, Prod.mk.injEq] at h; omega) | cases h
theorem oneM_err {t : List UInt8} {a : Int} {e : Int × Int} (h : oneM t a = .error e) : e.1 ≠ 0 := by
  unfold oneM at h
  split at h
  · split at h
    · simp only [Except.error.injEq] at h; subst h; simp
    · cases h
  · split at h
    · unfold quotedM at h
      split at h
      · cases h
      · rename_i e' he
        simp only [Except.error.injEq] at h
        subst h
        exact quotedF_err (e := e'.1) (p := e'.2) he
    · split at h
      · unfold regexM at h
        split at h
        · cases h
        · rename_i e' he
          simp only [Except.error.injEq] at h
          subst h
          exact regexF_err (e := e'.1) (p := e'.2) he
      · split at h
        · cases h
        · split at h
          · cases h
          · simp only [Except.error.injEq] at h; subst h; simp
theorem scanF_err {t : List UInt8} : ∀ {n : Nat} {l : List Tok} {a : Int} {e : Int × Int}, 0 ≤ a → a ≤ t.length → (t.length - a).toNat < n → scanF t n l a = .error e → e.1 ≠ 0
  | 0, _, _, _, _, _, h, _ => by omega
  | n + 1, l, a, e, h0, h1, hn, h => by
    rw [scanF] at h
    split at h
    · rename_i ha
      split at h
      · rename_i k q ho
        have hq := oneM_ok ⟨h0, ha⟩ ho
        have hg := gapM_bd (t := t) (a := q) ⟨by omega, hq.2⟩
        exact scanF_err (by omega) hg.2 (by omega) h
      · rename_i e' ho
        simp only [Except.error.injEq] at h
        subst h
        exact oneM_err ho
    · cases h
/-- Both texts. -/
theorem scanR_ok {t : List UInt8} (h1 : (scanR t).2.1 = 0) (h3 : t.length ≤ 4096) : scanF t (t.length + 1) [] (gapM t 0) = .ok (scanR t).1 := by
  unfold scanR at h1 ⊢
  rw [if_neg (by omega)] at h1 ⊢
  cases hq : scanF t (t.length + 1) [] (gapM t 0) with
  | ok l => rfl
  | error e =>
    rw [hq] at h1
    exact absurd h1 (scanF_err (gapM_bd ⟨by omega, by omega⟩).1 (gapM_bd ⟨by omega, by omega⟩).2 (by have := (gapM_bd (t := t) (a := 0) ⟨by omega, by omega⟩).1; omega) hq)
theorem scan_join {s t : List UInt8} (hs : (scanR s).2.1 = 0) (ht : (scanR t).2.1 = 0) (hl : s.length + t.length < 4096) :
    ∃ init, (scanR s).1 = init ++ [((0, (s.length : Int), []) : Tok)] ∧ scanR (s ++ [10] ++ t) = (init ++ (scanR t).1.map (shT (s.length + 1)), 0, 0) := by
  have gs := gapM_bd (t := s) (a := 0) ⟨by omega, by omega⟩
  have gt := gapM_bd (t := t) (a := 0) ⟨by omega, by omega⟩
  have k1 := scanR_ok hs (by omega)
  have k2 := scanR_ok ht (by omega)
  obtain ⟨init, e1, e2⟩ := scanF_app (t := t) gs.1 gs.2 k1
  refine ⟨init, e1, ?_⟩
  have hu : s ++ [10] ++ t = s ++ 10 :: t := by simp
  have hlen : (s ++ 10 :: t).length = s.length + 1 + t.length := by simp; omega
  rw [hu]
  have hp0 : gapM (s ++ 10 :: t) 0 = posJ s t (gapM s 0) := gapM_app ⟨by omega, by omega⟩
  have hp1 : 0 ≤ posJ s t (gapM s 0) := by unfold posJ; split <;> omega
  obtain ⟨m', f1, f2⟩ := e2 ((s ++ 10 :: t).length + 1) (by omega)
  have hpl : (((s ++ [10]).length : Nat) : Int) = s.length + 1 := by simp
  obtain ⟨l2, g1, g2⟩ := scanF_sh (p := s ++ [10]) (m := m') (init := init) gt.1 gt.2 (by omega) k2
  rw [hpl, show s ++ [10] ++ t = s ++ 10 :: t by simp] at g2
  rw [List.nil_append] at g1
  unfold scanR
  rw [if_neg (by omega), hp0, f2, g2, ← g1]
  simp only [k2]
  rw [if_neg (by omega)]
theorem scanF_tail {t : List UInt8} : ∀ {n : Nat} {l l' : List Tok} {a : Int}, 0 ≤ a → a ≤ t.length → scanF t n l a = .ok l' → (∀ k ∈ l, 0 ≤ k.2.1 ∧ k.2.1 ≤ t.length) → l.length < l'.length ∧ ∀ k ∈ l', 0 ≤ k.2.1 ∧ k.2.1 ≤ t.length
  | 0, _, _, _, _, _, h, _ => by cases h
  | n + 1, l, l', a, h0, h1, h, hl => by
    rw [scanF] at h
    split at h
    · rename_i ha
      split at h
      · rename_i k q ho
        have hq := oneM_ok ⟨h0, ha⟩ ho
        have hg := gapM_bd (t := t) (a := q) ⟨by omega, hq.2⟩
        have hk := oneM_at ho
        have := scanF_tail (by omega) hg.2 h (fun x hx => by
          rcases List.mem_append.1 hx with hx | hx
          · exact hl x hx
          · rw [List.mem_singleton.1 hx, hk]; omega)
        refine ⟨?_, this.2⟩
        have h3 := this.1
        simp only [List.length_append, List.length_cons, List.length_nil] at h3; omega
      · cases h
    · simp only [Except.ok.injEq] at h
      subst h
      refine ⟨by simp, fun k hk => ?_⟩
      rcases List.mem_append.1 hk with hk | hk
      · exact hl k hk
      · rw [List.mem_singleton.1 hk]
        show (0 : Int) ≤ (t.length : Int) ∧ (t.length : Int) ≤ t.length
        omega
theorem scanR_pos {t : List UInt8} (h : (scanR t).2.1 = 0) (hl : t.length ≤ 4096) : 0 < (scanR t).1.length := by
  have hg := gapM_bd (t := t) (a := 0) ⟨by omega, by omega⟩
  exact (scanF_tail hg.1 hg.2 (scanR_ok h hl) (fun k hk => by cases hk)).1
theorem scanR_at {t : List UInt8} (h : (scanR t).2.1 = 0) (hl : t.length ≤ 4096) {j : Nat} (hj : j < (scanR t).1.length) : ((scanR t).1.getD j default).2.1 ≤ 4096 ∧ 0 ≤ ((scanR t).1.getD j default).2.1 := by
  have hg := gapM_bd (t := t) (a := 0) ⟨by omega, by omega⟩
  have := (scanF_tail hg.1 hg.2 (scanR_ok h hl) (fun k hk => by cases hk)).2 _ (List.getElem_mem hj)
  rw [List.getD_eq_getElem?_getD, List.getElem?_eq_getElem hj]
  exact ⟨by have := this.2; show (scanR t).1[j].2.1 ≤ 4096; omega, this.1⟩
end Go.Proofs.YtlfolgbaageknaaDoor
