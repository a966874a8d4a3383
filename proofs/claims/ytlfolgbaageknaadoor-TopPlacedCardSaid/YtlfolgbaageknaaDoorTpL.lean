/-
  TopPlaced.
-/
import Derived.Test.YtlfolgbaageknaaDoorPlS
namespace Go.Proofs.YtlfolgbaageknaaDoor
open Go Go.RowKit

theorem tf_ent_4 : entB Tryd.prog 4 = true := by kernel_rfl
theorem tf_ent_5 : entB Tryd.prog 5 = true := by kernel_rfl
theorem tf_stood_25 : Program.stoodInHeld Tryd.prog 25 = false := by kernel_rfl
theorem tf_eqg_25 : Program.eqGuardType Tryd.prog Tryd.prog.depth 25 = false := by kernel_rfl
theorem tf_ent_7 : entB Tryd.prog 7 = true := by kernel_rfl
theorem tf_field_34_1 : fieldOff Tryd.prog 34 1 = some 1 := by kernel_rfl
theorem tf_ent_8 : entB Tryd.prog 8 = true := by kernel_rfl

theorem pos_lex {t : List UInt8} {j : Nat} : ∀ {m : Nat}, j + (m + 1) ≤ t.length → (posF t j).1 < (posF t (j + (m + 1))).1 ∨ (posF t j).1 = (posF t (j + (m + 1))).1 ∧ (posF t j).2 < (posF t (j + (m + 1))).2
  | 0, h => by
    rw [Nat.zero_add, posF_succ (by omega)]
    unfold stepP
    by_cases hc : t.getD j 0 = 10
    · rw [if_pos hc]
      exact .inl (by show _ < _ + 1; omega)
    · rw [if_neg hc]
      exact .inr ⟨rfl, by show _ < _ + 1; omega⟩
  | m + 1, h => by
    have ih := pos_lex (t := t) (j := j) (m := m) (by omega)
    rw [show j + (m + 1 + 1) = j + (m + 1) + 1 by omega, posF_succ (by omega)]
    unfold stepP
    by_cases hc : t.getD (j + (m + 1)) 0 = 10
    · rw [if_pos hc]
      exact .inl (by show _ < _ + 1; omega)
    · rw [if_neg hc]
      rcases ih with ih | ih
      · exact .inl ih
      · exact .inr ⟨ih.1, by show _ < _ + 1; omega⟩
theorem off_back {t : List UInt8} {i : Nat} (h : i ≤ t.length) : offL t (posF t i).1 (posF t i).2 = ((i : Int), true) :=
  off_some h rfl fun j hj e => by
    have := pos_lex (t := t) (j := j) (m := i - j - 1) (by omega)
    rw [show j + (i - j - 1 + 1) = i by omega, e] at this
    simp only at this; omega
theorem ofL_at {t : List UInt8} {a : Int} (h : 0 ≤ a ∧ a ≤ t.length) : ofL t a = posF t a.toNat := by
  unfold ofL clampI
  rw [show (min (max a 0) (t.length : Int)).toNat = a.toNat by omega]
theorem off_inv {t : List UInt8} {l c : Int} : offL t l c = (0, false) ∨ ∃ i : Nat, i ≤ t.length ∧ offL t l c = ((i : Int), true) ∧ posF t i = (l, c) := by
  unfold offL
  split
  · rename_i i hi
    have h1 := List.mem_of_find?_eq_some hi
    have h2 := List.find?_some hi
    have h3 := List.mem_range.1 h1
    exact .inr ⟨i, by omega, rfl, by simpa using h2⟩
  · exact .inl rfl
theorem qb_pre0 : ∀ n, n < 256 → ∀ m, m < 256 → (qb (UInt8.ofNat n)).isPrefixOf (qb (UInt8.ofNat m)) = true → n = m := by decide +kernel
theorem qb_fine0 : ∀ n, n < 256 → (qb (UInt8.ofNat n)).all (fun b => decide (32 ≤ b.toNat) && decide (b.toNat ≤ 126)) = true ∧ (qb (UInt8.ofNat n)).head? ≠ some 34 ∧ qb (UInt8.ofNat n) ≠ [] := by decide +kernel
theorem of_self (c : UInt8) : UInt8.ofNat c.toNat = c := by simp
theorem qb_pre {c d : UInt8} (h : (qb c).isPrefixOf (qb d) = true) : c = d := by
  have := qb_pre0 c.toNat c.toNat_lt d.toNat d.toNat_lt
  rw [of_self, of_self] at this
  exact UInt8.toNat_inj.1 (this h)
theorem qb_fine (c : UInt8) : (qb c).all (fun b => decide (32 ≤ b.toNat) && decide (b.toNat ≤ 126)) = true ∧ (qb c).head? ≠ some 34 ∧ qb c ≠ [] := by
  have := qb_fine0 c.toNat c.toNat_lt
  rwa [of_self] at this
theorem qb_inj {c d : UInt8} {x y : List UInt8} (h : qb c ++ x = qb d ++ y) : c = d ∧ x = y := by
  have hcd : c = d := by
    by_cases hl : (qb c).length ≤ (qb d).length
    · refine qb_pre ?_
      rw [List.isPrefixOf_iff_prefix]
      exact List.prefix_of_prefix_length_le (List.prefix_append (qb c) x) (by rw [h]; exact List.prefix_append (qb d) y) hl
    · refine (qb_pre ?_).symm
      rw [List.isPrefixOf_iff_prefix]
      exact List.prefix_of_prefix_length_le (List.prefix_append (qb d) y) (by rw [← h]; exact List.prefix_append (qb c) x) (by omega)
  subst hcd
  exact ⟨rfl, List.append_cancel_left h⟩
theorem qbs_inj : ∀ {s t : List UInt8}, s.flatMap qb ++ [34] = t.flatMap qb ++ [34] → s = t
  | [], [], _ => rfl
  | [], d :: t, h => by
    rw [List.flatMap_cons, List.append_assoc] at h
    have := qb_fine d
    cases hq : qb d with
    | nil => exact absurd hq this.2.2
    | cons e r =>
      rw [hq] at h this
      simp only [List.flatMap_nil, List.nil_append, List.cons_append, List.cons.injEq] at h
      exact absurd (by rw [h.1]; rfl) this.2.1
  | c :: s, [], h => by
    rw [List.flatMap_cons, List.append_assoc] at h
    have := qb_fine c
    cases hq : qb c with
    | nil => exact absurd hq this.2.2
    | cons e r =>
      rw [hq] at h this
      simp only [List.flatMap_nil, List.nil_append, List.cons_append, List.cons.injEq] at h
      exact absurd (by rw [h.1]; rfl) this.2.1
  | c :: s, d :: t, h => by
    rw [List.flatMap_cons, List.flatMap_cons, List.append_assoc, List.append_assoc] at h
    obtain ⟨rfl, h2⟩ := qb_inj h
    rw [qbs_inj h2]
theorem quoteL_inj {s t : List UInt8} (h : quoteL s = quoteL t) : s = t := by
  unfold quoteL at h
  rw [List.append_assoc, List.append_assoc] at h
  exact qbs_inj (List.append_cancel_left h)
theorem quoteL_fine (s : List UInt8) : ∀ b ∈ quoteL s, 32 ≤ b.toNat ∧ b.toNat ≤ 126 := by
  intro b hb
  unfold quoteL at hb
  simp only [List.mem_append, List.mem_singleton, List.mem_flatMap] at hb
  rcases hb with (rfl | ⟨c, _, hc⟩) | rfl
  · decide
  · have := List.all_eq_true.1 (qb_fine c).1 b hc
    simpa using this
  · decide

/-! ### a line for each token -/
def lineT (k : Tok) : List UInt8 := showTok k ++ [10]
def linesL (ks : List Tok) : List UInt8 := ks.flatMap lineT
def placed : Nat → List Tok → List Tok
  | _, [] => []
  | p, k :: ks => ((k.1, (p : Int), k.2.2) : Tok) :: placed (p + (lineT k).length) ks
theorem qb_low0 : ∀ n, n < 256 → (qb (UInt8.ofNat n)).all (fun b => decide (b ≠ 10)) = true := by decide +kernel
theorem qb_low (c : UInt8) : ∀ b ∈ qb c, b ≠ 10 := by
  have h := qb_low0 c.toNat c.toNat_lt
  rw [show UInt8.ofNat c.toNat = c by simp] at h
  intro b hb
  simpa using List.all_eq_true.1 h b hb
theorem quote_low (s : List UInt8) : ∀ b ∈ quoteL s, b ≠ 10 := by
  intro b hb
  unfold quoteL at hb
  simp only [List.mem_append, List.mem_singleton, List.mem_flatMap] at hb
  rcases hb with (rfl | ⟨c, _, hc⟩) | rfl
  · decide
  · exact qb_low c b hc
  · decide
theorem print_low {c : UInt8} (h : printB (c.toNat : Int) = true) : c ≠ 10 := by
  rintro rfl; exact absurd h (by decide)
theorem rx_low {w : List UInt8} (h : Rx w) : ∀ b ∈ w, b ≠ 10 := by
  induction h with
  | nil => intro b hb; cases hb
  | esc d r hd _ ih =>
    intro b hb
    rcases List.mem_cons.1 hb with rfl | hb
    · decide
    · rcases List.mem_cons.1 hb with rfl | hb
      · exact print_low hd
      · exact ih b hb
  | one c r hc _ _ _ ih =>
    intro b hb
    rcases List.mem_cons.1 hb with rfl | hb
    · exact print_low hc
    · exact ih b hb
theorem bare_low {k : Tok} (h : Good k) : ∀ b ∈ bare k, b ≠ 10 := by
  unfold bare
  rcases h with ⟨h1, _, hall, _⟩ | h1 | ⟨h1, hrx⟩ | ⟨h1, h2⟩
  · rw [if_neg (by omega), if_neg (by omega)]
    intro b hb
    have := hall b hb
    rintro rfl
    exact absurd this (by decide)
  · rw [if_pos h1]; exact quote_low _
  · rw [if_neg (by omega), if_pos h1]
    intro b hb
    simp only [List.mem_append, List.mem_singleton] at hb
    rcases hb with (rfl | hb) | rfl
    · decide
    · exact rx_low hrx b hb
    · decide
  · rw [if_neg (by omega), if_neg (by omega)]
    rcases h2 with ⟨c, e, hc⟩ | e
    · rw [e]
      intro b hb
      rw [List.mem_singleton.1 hb]
      exact (marks_not c (by simpa using hc)).2.2.2.2.1
    · rw [e]; decide
theorem fold_flat : ∀ (w : List UInt8) (n m : Int), (∀ b ∈ w, b ≠ 10) → w.foldl stepP (n, m) = (n, m + w.length)
  | [], n, m, _ => by simp
  | c :: w, n, m, h => by
    rw [List.foldl_cons]
    unfold stepP
    rw [if_neg (h c (by simp))]
    have := fold_flat w n (m + 1) fun b hb => h b (by simp [hb])
    unfold stepP at this
    rw [this, List.length_cons]
    simp only [Prod.mk.injEq, true_and]; omega
theorem fold_line {k : Tok} (h : Good k) (n : Int) : (lineT k).foldl stepP (n, 1) = (n + 1, 1) := by
  unfold lineT
  rw [show_bare h, List.foldl_append, fold_flat (bare k ++ [32]) _ _ (fun b hb => by
    rcases List.mem_append.1 hb with hb | hb
    · exact bare_low h b hb
    · rw [List.mem_singleton.1 hb]; decide)]
  rfl
theorem fold_lines : ∀ (ks : List Tok) (n : Int), (∀ k ∈ ks, Good k) → (linesL ks).foldl stepP (n, 1) = (n + ks.length, 1)
  | [], n, _ => by simp [linesL]
  | k :: ks, n, h => by
    have ih := fold_lines ks (n + 1) fun x hx => h x (by simp [hx])
    unfold linesL at ih ⊢
    rw [List.flatMap_cons, List.foldl_append, fold_line (h k (by simp)), ih, List.length_cons]
    simp only [Prod.mk.injEq, and_true]; omega
theorem pos_line {ks : List Tok} (h : ∀ k ∈ ks, Good k) (i : Nat) (hi : i ≤ ks.length) : posF (linesL ks) (linesL (ks.take i)).length = (1 + (i : Int), 1) := by
  have e : (linesL ks).take (linesL (ks.take i)).length = linesL (ks.take i) := by
    have : linesL ks = linesL (ks.take i) ++ linesL (ks.drop i) := by unfold linesL; rw [← List.flatMap_append, List.take_append_drop]
    rw [this, List.take_left]
  unfold posF
  rw [e, fold_lines _ _ fun k hk => h k (List.mem_of_mem_take hk), List.length_take, Nat.min_eq_left hi]
theorem gap_nl {u r : List UInt8} {p : Nat} (h : u.drop p = 10 :: r) : gapM u (p : Int) = gapM u ((p + 1 : Nat) : Int) := by
  unfold gapM
  obtain ⟨_, _, h3⟩ := at_bt h
  rw [Int.toNat_natCast, Int.toNat_natCast, h, h3, gapL]
  simp; omega
theorem scanF_lines {u : List UInt8} : ∀ (ks : List Tok) (n p : Nat) (l : List Tok), (∀ k ∈ ks, Good k) → u.drop p = linesL ks → p ≤ u.length → u.length - p < n →
    scanF u n l (gapM u p) = .ok (l ++ placed p ks ++ [((0, (u.length : Int), []) : Tok)])
  | [], n, p, l, _, h, hp, hn => by
    obtain ⟨n, rfl⟩ : ∃ m, n = m + 1 := ⟨n - 1, by omega⟩
    have hp2 : u.length ≤ p := by
      have := congrArg List.length h
      rw [List.length_drop] at this
      simp [linesL] at this; omega
    have hg : gapM u (p : Int) = u.length := by
      unfold gapM; rw [gap_end _ (by omega)]; simp; omega
    rw [hg, scanF, if_neg (by omega)]; simp [placed]
  | k :: ks, n, p, l, hk, h, hp, hn => by
    obtain ⟨n, rfl⟩ : ∃ m, n = m + 1 := ⟨n - 1, by omega⟩
    have hgk := hk k (by simp)
    have hd : u.drop p = bare k ++ 32 :: (10 :: linesL ks) := by
      rw [h]; unfold linesL lineT
      rw [List.flatMap_cons, show_bare hgk]; simp
    obtain ⟨c, r, e, hc⟩ := good_head hgk
    have hne : bare k ≠ [] := by rw [e]; simp
    have hlen := drop_len hd hne
    have hpos : 0 < (bare k).length := by rw [e]; simp
    simp only [List.length_cons] at hlen
    have hd2 : u.drop (p + (bare k).length) = 32 :: (10 :: linesL ks) := by rw [← List.drop_drop, hd, List.drop_left]
    obtain ⟨_, _, hd3⟩ := at_bt hd2
    obtain ⟨_, _, hd4⟩ := at_bt hd3
    have hll : (lineT k).length = (bare k).length + 2 := by unfold lineT; rw [show_bare hgk]; simp
    have ih := scanF_lines ks n (p + (bare k).length + 1 + 1) (l ++ [((k.1, (p : Int), k.2.2) : Tok)]) (fun x hx => hk x (by simp [hx])) hd4 (by omega) (by omega)
    rw [gap_head (by rw [hd, e]; rfl) hc, scanF, if_pos (by omega), oneM_back hgk hd]
    simp only
    rw [gap_blank hd2, gap_nl hd3, ih, placed, hll]; simp [Nat.add_assoc]
theorem scan_lines {ks : List Tok} (h : ∀ k ∈ ks, Good k) (hl : (linesL ks).length ≤ 4096) : scanR (linesL ks) = (placed 0 ks ++ [((0, ((linesL ks).length : Int), []) : Tok)], 0, 0) := by
  have e : scanF (linesL ks) ((linesL ks).length + 1) [] (gapM (linesL ks) 0) = _ := scanF_lines (u := linesL ks) ks ((linesL ks).length + 1) 0 [] h rfl (by omega) (by omega)
  unfold scanR
  rw [if_neg (by omega), e]; simp
theorem placed_len : ∀ (ks : List Tok) (p : Nat), (placed p ks).length = ks.length
  | [], _ => rfl
  | k :: ks, p => by rw [placed, List.length_cons, List.length_cons, placed_len ks]
theorem placed_at : ∀ (ks : List Tok) (p i : Nat) (k : Tok), ks[i]? = some k → (placed p ks)[i]? = some (k.1, ((p + (linesL (ks.take i)).length : Nat) : Int), k.2.2)
  | [], _, _, _, h => by simp at h
  | k0 :: ks, p, 0, k, h => by simp at h; subst h; simp [placed, linesL]
  | k0 :: ks, p, i + 1, k, h => by
    rw [placed, List.getElem?_cons_succ, placed_at ks _ i k (by simpa using h)]
    unfold linesL
    rw [List.take_succ_cons, List.flatMap_cons, List.length_append, Nat.add_assoc]

/-! ### a fault's place lies in the text -/
theorem quotedF_at {t : List UInt8} {fr : Int} (hfr : 0 ≤ fr ∧ fr ≤ t.length) : ∀ {n : Nat} {out : List UInt8} {k : Int} {e : Int × Int}, 0 ≤ k → quotedF t fr n out k = .error e → 0 ≤ e.2 ∧ e.2 ≤ t.length
  | 0, _, _, _, _, h => by cases h; exact hfr
  | n + 1, out, k, e, h0, h => by
    rw [quotedF] at h
    split at h
    · rename_i hk
      split at h
      · cases h
      · split at h
        · cases h; exact ⟨h0, by show k ≤ _; omega⟩
        · split at h
          · exact quotedF_at hfr (by omega) h
          · have h2 := (escM_q (t := t) (a := k) (b := (escM t k).1) (ok := (escM t k).2.1) (q := (escM t k).2.2) rfl)
            split at h
            · cases h; exact hfr
            · rename_i hq
              split at h
              · cases h; exact ⟨by show 0 ≤ (escM t k).2.2; omega, by show (escM t k).2.2 ≤ _; omega⟩
              · exact quotedF_at hfr (by omega) h
    · cases h; exact hfr
theorem regexF_at {t : List UInt8} {fr : Int} (hfr : 0 ≤ fr ∧ fr ≤ t.length) : ∀ {n : Nat} {k : Int} {e : Int × Int}, 0 ≤ k → regexF t fr n k = .error e → 0 ≤ e.2 ∧ e.2 ≤ t.length
  | 0, _, _, _, h => by cases h; exact hfr
  | n + 1, k, e, h0, h => by
    rw [regexF] at h
    split at h
    · split at h
      · rename_i hk
        split at h
        · cases h; exact ⟨by show 0 ≤ k + 1; omega, by show k + 1 ≤ _; omega⟩
        · exact regexF_at hfr (by omega) h
      · split at h
        · cases h; exact ⟨h0, by show k ≤ _; omega⟩
        · split at h
          · cases h
          · exact regexF_at hfr (by omega) h
    · cases h; exact hfr
theorem oneM_eat {t : List UInt8} {a : Int} (hb : 0 ≤ a ∧ a < t.length) {e : Int × Int} (h : oneM t a = .error e) : 0 ≤ e.2 ∧ e.2 ≤ t.length := by
  unfold oneM at h
  split at h
  · split at h
    · cases h; exact ⟨hb.1, by show a ≤ _; omega⟩
    · cases h
  · split at h
    · unfold quotedM at h
      split at h
      · cases h
      · rename_i he
        cases h
        exact quotedF_at ⟨hb.1, by omega⟩ (by omega) he
    · split at h
      · unfold regexM at h
        split at h
        · cases h
        · rename_i he
          cases h
          exact regexF_at ⟨hb.1, by omega⟩ (by omega) he
      · split at h
        · cases h
        · split at h
          · cases h
          · cases h; exact ⟨hb.1, by show a ≤ _; omega⟩
theorem scanF_eat {t : List UInt8} : ∀ {n : Nat} {l : List Tok} {a : Int} {e : Int × Int}, 0 ≤ a → a ≤ t.length → scanF t n l a = .error e → 0 ≤ e.2 ∧ e.2 ≤ t.length
  | 0, _, _, _, _, _, h => by cases h; exact ⟨Int.le_refl _, by show (0 : Int) ≤ _; omega⟩
  | n + 1, l, a, e, h0, h1, h => by
    rw [scanF] at h
    split at h
    · rename_i ha
      split at h
      · rename_i k q ho
        have hq := oneM_ok ⟨h0, ha⟩ ho
        have hg := gapM_bd (t := t) (a := q) ⟨by omega, hq.2⟩
        exact scanF_eat (by omega) hg.2 h
      · rename_i ho
        cases h
        exact oneM_eat ⟨h0, ha⟩ ho
    · cases h
theorem scanR_eat (t : List UInt8) : 0 ≤ (scanR t).2.2 ∧ (scanR t).2.2 ≤ t.length := by
  have hg := gapM_bd (t := t) (a := 0) ⟨by omega, by omega⟩
  unfold scanR
  split
  · exact ⟨Int.le_refl _, by show (0 : Int) ≤ _; omega⟩
  · split
    · exact ⟨Int.le_refl _, by show (0 : Int) ≤ _; omega⟩
    · rename_i he
      exact scanF_eat hg.1 hg.2 he

def lplaced_vc (text : List UInt8) (K : Bool → Prop) : Prop :=
  (([97, 10, 62] : List UInt8).length ≤ 140737488351232 ∧ I64 (50 : Int) ∧ I64 (2 : Int) ∧ ([] : List UInt8).length ≤ 1048576) ∧
  (if (!decide (sayL ([97, 10, 62] : List UInt8) 50 2 ([] : List UInt8) = ([50, 58, 49, 58, 32, 110, 111, 32, 116, 111, 107, 101, 110] : List UInt8))) = true then
    K false
  else
    (
      (if (!andAll [decide ((scanR text).2.1 = 0), decide ((scanR text).2.2 = 0), decide (([] : List UInt8) = [])]) = true then
        (text.length ≤ 140737488351232) ∧
        (text.length ≤ 140737488351232 ∧ I64 ((ofL text ((scanR text).2.2)).1) ∧ I64 ((ofL text ((scanR text).2.2)).2)) ∧
        K ((((offL text ((ofL text ((scanR text).2.2)).1) ((ofL text ((scanR text).2.2)).2)).2) && (decide ((offL text ((ofL text ((scanR text).2.2)).1) ((ofL text ((scanR text).2.2)).2)).1 = (scanR text).2.2))) && (decide ((((scanR text).1).length : Int) = 0)))
      else
        ∃ (Inv : (List UInt8) → Int → Prop) (mu : (List UInt8) → Int → Nat),
          Inv [] 0 ∧ ∀ (lines_3' : List UInt8) (i_1' : Int), Inv lines_3' i_1' →
            (if (decide (i_1' < (((scanR text).1).length : Int))) = true then
              ∃ (J0_2' : (List UInt8) → Prop),
                (∀ (lines_4' : List UInt8), J0_2' lines_4' →
                  (I64 (i_1' + 1)) ∧
                  Inv lines_4' (i_1' + 1) ∧ mu lines_4' (i_1' + 1) < mu lines_3' i_1') ∧
                (0 ≤ i_1' ∧ i_1' < (((scanR text).1).length : Int)) ∧
                (text.length ≤ 140737488351232) ∧
                (text.length ≤ 140737488351232 ∧ I64 ((ofL text ((((scanR text).1).getD (i_1').toNat default).2.1)).1) ∧ I64 ((ofL text ((((scanR text).1).getD (i_1').toNat default).2.1)).2)) ∧
                ((!((offL text ((ofL text ((((scanR text).1).getD (i_1').toNat default).2.1)).1) ((ofL text ((((scanR text).1).getD (i_1').toNat default).2.1)).2)).2)) = false → (0 ≤ i_1' ∧ i_1' < (((scanR text).1).length : Int))) ∧
                (if ((!((offL text ((ofL text ((((scanR text).1).getD (i_1').toNat default).2.1)).1) ((ofL text ((((scanR text).1).getD (i_1').toNat default).2.1)).2)).2)) || (!decide ((offL text ((ofL text ((((scanR text).1).getD (i_1').toNat default).2.1)).1) ((ofL text ((((scanR text).1).getD (i_1').toNat default).2.1)).2)).1 = (((scanR text).1).getD (i_1').toNat default).2.1))) = true then
                  K false
                else
                  (I64 ((((scanR text).1).length : Int) - 1)) ∧
                  (if (decide (i_1' < (((scanR text).1).length : Int) - 1)) = true then
                    (I64 (i_1' + 1)) ∧
                    (0 ≤ i_1' ∧ i_1' ≤ (i_1' + 1) ∧ (i_1' + 1) ≤ (((scanR text).1).length : Int)) ∧
                    (ShowBd ((((scanR text).1).drop ((i_1').toNat)).take ((((i_1' + 1)).toNat) - ((i_1').toNat)))) ∧
                    ((showL ((((scanR text).1).drop ((i_1').toNat)).take ((((i_1' + 1)).toNat) - ((i_1').toNat)))).length + ([10] : List UInt8).length ≤ 9223372036854775807) ∧
                    (lines_3'.length + ((showL ((((scanR text).1).drop ((i_1').toNat)).take ((((i_1' + 1)).toNat) - ((i_1').toNat)))) ++ ([10] : List UInt8)).length ≤ 9223372036854775807) ∧
                    J0_2' (lines_3' ++ ((showL ((((scanR text).1).drop ((i_1').toNat)).take ((((i_1' + 1)).toNat) - ((i_1').toNat)))) ++ ([10] : List UInt8)))
                  else
                    J0_2' lines_3'))
            else
              (if (decide (4096 < (lines_3'.length : Int))) = true then
                K true
              else
                (
                  (if ((!andAll [decide ((scanR lines_3').2.1 = 0), decide ((scanR lines_3').2.2 = 0), decide (([] : List UInt8) = [])]) || (!decide ((((scanR lines_3').1).length : Int) = (((scanR text).1).length : Int)))) = true then
                    K false
                  else
                    ∃ (Inv_1' : Int → Prop) (mu_1' : Int → Nat),
                      Inv_1' 0 ∧ ∀ (i_3' : Int), Inv_1' i_3' →
                        (I64 ((((scanR lines_3').1).length : Int) - 1)) ∧
                        (if (decide (i_3' < (((scanR lines_3').1).length : Int) - 1)) = true then
                          (0 ≤ i_3' ∧ i_3' < (((scanR lines_3').1).length : Int)) ∧
                          (lines_3'.length ≤ 140737488351232) ∧
                          (I64 (i_3' + 1)) ∧
                          (((!decide ((ofL lines_3' ((((scanR lines_3').1).getD (i_3').toNat default).2.1)).1 = i_3' + 1)) || (!decide ((ofL lines_3' ((((scanR lines_3').1).getD (i_3').toNat default).2.1)).2 = 1))) = false → (0 ≤ i_3' ∧ i_3' < (((scanR lines_3').1).length : Int)) ∧ (0 ≤ i_3' ∧ i_3' < (((scanR text).1).length : Int))) ∧
                          ((((!decide ((ofL lines_3' ((((scanR lines_3').1).getD (i_3').toNat default).2.1)).1 = i_3' + 1)) || (!decide ((ofL lines_3' ((((scanR lines_3').1).getD (i_3').toNat default).2.1)).2 = 1))) || (!decide ((((scanR lines_3').1).getD (i_3').toNat default).1 = (((scanR text).1).getD (i_3').toNat default).1))) = false → (0 ≤ i_3' ∧ i_3' < (((scanR lines_3').1).length : Int)) ∧ (0 ≤ i_3' ∧ i_3' < (((scanR text).1).length : Int))) ∧
                          (if ((((!decide ((ofL lines_3' ((((scanR lines_3').1).getD (i_3').toNat default).2.1)).1 = i_3' + 1)) || (!decide ((ofL lines_3' ((((scanR lines_3').1).getD (i_3').toNat default).2.1)).2 = 1))) || (!decide ((((scanR lines_3').1).getD (i_3').toNat default).1 = (((scanR text).1).getD (i_3').toNat default).1))) || (!decide ((((scanR lines_3').1).getD (i_3').toNat default).2.2 = (((scanR text).1).getD (i_3').toNat default).2.2))) = true then
                            K false
                          else
                            (I64 (i_3' + 1)) ∧
                            Inv_1' (i_3' + 1) ∧ mu_1' (i_3' + 1) < mu_1' i_3')
                        else
                          K true))))))))
set_option maxRecDepth 100000 in
theorem lplaced_wp (te : TypeId) (fre : Nat × Nat) (text : List UInt8) (K : Bool → Prop) (h : lplaced_vc text K) :
    Does Tryd.prog 3 [st text] [(1, .cells [Value.int .u64 1, Value.int .u64 10, Value.int .u64 100, Value.int .u64 1000, Value.int .u64 10000, Value.int .u64 100000, Value.int .u64 1000000, Value.int .u64 10000000, Value.int .u64 100000000, Value.int .u64 1000000000, Value.int .u64 10000000000, Value.int .u64 100000000000, Value.int .u64 1000000000000, Value.int .u64 10000000000000, Value.int .u64 100000000000000, Value.int .u64 1000000000000000, Value.int .u64 10000000000000000, Value.int .u64 100000000000000000, Value.int .u64 1000000000000000000, Value.int .u64 10000000000000000000].toArray te fre)] [] (fun o => (∃ (v : Bool), K v ∧ o = .ret (Value.bool v) []) ∨ (False)) := by
  unfold lplaced_vc at h
  refine does_of_wc (n := 174) (L0 := [(0, st text)]) Tryd.func3 rfl rfl rfl rfl (fun w0 M Q hE => ?_)
  refine wc_seq (fun K0 hK => ?_)
  refine wc_region ?_
  refine WL.val (OV.assign rfl) rfl rfl rfl ?_
  refine WL.nil ?_
  refine KX.go (hK [(0, st text)] _ ?_) ⟨rfl, trivial⟩
  refine wc_seq (fun K0_1' hK_1' => ?_)
  refine wc_seq (fun K0_2' hK_2' => ?_)
  refine wc_region ?_
  refine WL.val (OV.build rfl (cs := [Value.int .i64 50, Value.int .i64 2, st []]) rfl) rfl rfl rfl ?_
  obtain ⟨o, h⟩ := h
  refine WL.call (A := []) tf_ent_4 rfl (say_does te fre ([97, 10, 62] : List UInt8) 50 2 ([] : List UInt8) o) rfl ⟨.inr (List.mem_of_getElem? (i := 0) rfl), trivial⟩ rfl rfl ?_
  refine WL.val (OV.neqS rfl rfl) rfl rfl rfl ?_
  refine WL.nil ?_
  refine KX.go (hK_2' [(0, st text), (22, Value.bool (!decide (sayL ([97, 10, 62] : List UInt8) 50 2 ([] : List UInt8) = ([50, 58, 49, 58, 32, 110, 111, 32, 116, 111, 107, 101, 110] : List UInt8))))] _ ?_) ⟨rfl, rfl, trivial⟩
  refine wc_cond (b := !decide (sayL ([97, 10, 62] : List UInt8) 50 2 ([] : List UInt8) = ([50, 58, 49, 58, 32, 110, 111, 32, 116, 111, 107, 101, 110] : List UInt8))) rfl (fun hb => ?_) (fun hb => ?_)
  · replace h := if_T h hb
    refine wc_seq (fun K0_3' hK_3' => ?_)
    refine wc_region ?_
    refine WL.val (OV.assign rfl) rfl rfl rfl ?_
    refine WL.nil ?_
    refine KX.go (hK_3' [(2, Value.bool false)] _ ?_) ⟨rfl, trivial⟩
    refine wc_ret ?_
    exact hE.ret [] rfl rfl (.inl ⟨_, h, rfl⟩) (ResV.of1 rfl (RV.tmp rfl))
  · replace h := if_F h hb
    refine wc_skip ?_
    refine KX.go (hK_1' [(0, st text)] _ ?_) ⟨rfl, trivial⟩
    refine wc_seq (fun K0_4' hK_4' => ?_)
    refine wc_region ?_
    refine WL.val (OV.move rfl) rfl rfl rfl ?_
    refine WL.callS tf_ent_5 rfl (scan_does text) rfl trivial rfl rfl (fun r H' hS => ?_) (fun c H' hS => ?_)
    · obtain ⟨w, ho⟩ := hS
      cases ho
      refine WL.val (OV.move rfl) rfl rfl rfl ?_
      refine WL.val (OV.extract 0 rfl rfl) rfl rfl rfl ?_
      refine WL.val (OV.extract 1 rfl rfl) rfl rfl rfl ?_
      refine WL.make (MV.alloc tf_zero_25) rfl rfl rfl (fun b => ?_)
      refine WL.val (OV.assign rfl) rfl rfl rfl ?_
      refine WL.storeW (vs := [Value.int .i64 ((scanR text).2.1), Value.int .i64 ((scanR text).2.2), st []]) 0 rfl rfl rfl rfl rfl tf_size_25 rfl rfl rfl ?_
      refine WL.nil ?_
      refine KX.go (hK_4' [(0, st text), (3, w), (4, Value.pointer (some ⟨b, 0, none⟩))] _ ?_) ⟨rfl, rfl, rfl, trivial⟩
      refine wc_seq (fun K0_5' hK_5' => ?_)
      refine wc_seq (fun K0_6' hK_6' => ?_)
      refine wc_region ?_
      refine WL.val (OV.loadR rfl (At.own 0 rfl) tf_row_25) rfl rfl rfl ?_
      refine WL.val (OV.build rfl (cs := [Value.int .i64 0, Value.int .i64 0, st []]) rfl) rfl rfl rfl ?_
      refine WL.val (OV.neqF (rs := [decide ((scanR text).2.1 = 0), decide ((scanR text).2.2 = 0), decide (([] : List UInt8) = [])]) rfl rfl Tryd.underlying25 tf_stood_25 tf_eqg_25 ⟨rfl, tf_scal_23, ⟨_, _, rfl, rfl, ScalEq.int Tryd.underlying23⟩, ⟨rfl, tf_scal_3, ⟨_, _, rfl, rfl, ScalEq.int Tryd.underlying3⟩, ⟨rfl, tf_scal_9, ⟨_, _, rfl, rfl, ScalEq.str Tryd.underlying9⟩, trivial⟩⟩⟩) rfl rfl rfl ?_
      refine WL.nil ?_
      refine KX.go (hK_6' [(0, st text), (3, w), (4, Value.pointer (some ⟨b, 0, none⟩)), (30, Value.bool (!andAll [decide ((scanR text).2.1 = 0), decide ((scanR text).2.2 = 0), decide (([] : List UInt8) = [])]))] _ ?_) ⟨rfl, rfl, rfl, rfl, trivial⟩
      refine wc_cond (b := !andAll [decide ((scanR text).2.1 = 0), decide ((scanR text).2.2 = 0), decide (([] : List UInt8) = [])]) rfl (fun hb => ?_) (fun hb => ?_)
      · replace h := if_T h hb
        refine wc_seq (fun K0_7' hK_7' => ?_)
        refine wc_region ?_
        refine WL.val (OV.move rfl) rfl rfl rfl ?_
        refine WL.val (OV.fieldAddr0 rfl tf_field_25_1) rfl rfl rfl ?_
        refine WL.val (OV.load rfl (At.own 0 rfl) rfl tf_scal_3) rfl rfl rfl ?_
        obtain ⟨o_1', h⟩ := h
        refine WL.call (A := []) tf_ent_6 rfl (of_does text ((scanR text).2.2) o_1') rfl trivial rfl rfl ?_
        refine WL.val (OV.move rfl) rfl rfl rfl ?_
        refine WL.val (OV.extract 0 rfl rfl) rfl rfl rfl ?_
        refine WL.val (OV.extract 1 rfl rfl) rfl rfl rfl ?_
        refine WL.val (OV.assign rfl) rfl rfl rfl ?_
        refine WL.val (OV.assign rfl) rfl rfl rfl ?_
        refine WL.nil ?_
        refine KX.go (hK_7' [(0, st text), (3, w), (4, Value.pointer (some ⟨b, 0, none⟩)), (5, Value.int .i64 ((ofL text ((scanR text).2.2)).1)), (6, Value.int .i64 ((ofL text ((scanR text).2.2)).2))] _ ?_) ⟨rfl, rfl, rfl, rfl, rfl, trivial⟩
        refine wc_seq (fun K0_8' hK_8' => ?_)
        refine wc_region ?_
        refine WL.val (OV.move rfl) rfl rfl rfl ?_
        refine WL.val (OV.move rfl) rfl rfl rfl ?_
        refine WL.val (OV.move rfl) rfl rfl rfl ?_
        obtain ⟨o_2', h⟩ := h
        refine WL.call (A := []) tf_ent_7 rfl (offset_does text ((ofL text ((scanR text).2.2)).1) ((ofL text ((scanR text).2.2)).2) o_2') rfl trivial rfl rfl ?_
        refine WL.val (OV.move rfl) rfl rfl rfl ?_
        refine WL.val (OV.extract 0 rfl rfl) rfl rfl rfl ?_
        refine WL.val (OV.extract 1 rfl rfl) rfl rfl rfl ?_
        refine WL.val (OV.assign rfl) rfl rfl rfl ?_
        refine WL.val (OV.assign rfl) rfl rfl rfl ?_
        refine WL.nil ?_
        refine KX.go (hK_8' [(3, w), (4, Value.pointer (some ⟨b, 0, none⟩)), (7, Value.int .i64 ((offL text ((ofL text ((scanR text).2.2)).1) ((ofL text ((scanR text).2.2)).2)).1)), (8, Value.bool ((offL text ((ofL text ((scanR text).2.2)).1) ((ofL text ((scanR text).2.2)).2)).2))] _ ?_) ⟨rfl, rfl, rfl, rfl, trivial⟩
        refine wc_seq (fun K0_9' hK_9' => ?_)
        refine wc_region ?_
        refine WL.val (OV.move rfl) rfl rfl rfl ?_
        refine WL.val (OV.move rfl) rfl rfl rfl ?_
        refine WL.cut 5 [(3, w), (51, Value.bool (((offL text ((ofL text ((scanR text).2.2)).1) ((ofL text ((scanR text).2.2)).2)).2) && (decide ((offL text ((ofL text ((scanR text).2.2)).1) ((ofL text ((scanR text).2.2)).2)).1 = (scanR text).2.2))))] ?_ (fun K0_10' hK_10' => ?_)
        rotate_left
        · refine WL.split ((offL text ((ofL text ((scanR text).2.2)).1) ((ofL text ((scanR text).2.2)).2)).2) (fun hb => ?_) (fun hb => ?_)
          · refine WL.set 46 rfl (congrArg Value.bool hb) ?_
            refine WL.val (OV.move rfl) rfl rfl rfl ?_
            refine WL.val (OV.fieldAddr0 rfl tf_field_25_1) rfl rfl rfl ?_
            refine WL.val (OV.load rfl (At.own 0 rfl) rfl tf_scal_3) rfl rfl rfl ?_
            refine WL.val (OV.eql rfl rfl) rfl rfl rfl ?_
            refine WL.val (OV.pickT rfl rfl) rfl rfl rfl ?_
            refine WL.set 51 rfl (bT (v := decide ((offL text ((ofL text ((scanR text).2.2)).1) ((ofL text ((scanR text).2.2)).2)).1 = (scanR text).2.2)) hb) ?_
            exact WL.end_ (KX.go hK_10' ⟨rfl, rfl, trivial⟩)
          · refine WL.set 46 rfl (congrArg Value.bool hb) ?_
            refine WL.skip rfl rfl rfl ?_
            refine WL.skip rfl rfl rfl ?_
            refine WL.skip rfl rfl rfl ?_
            refine WL.skip rfl rfl rfl ?_
            refine WL.val (OV.pickF rfl rfl) rfl rfl rfl ?_
            refine WL.set 51 rfl (bF (v := decide ((offL text ((ofL text ((scanR text).2.2)).1) ((ofL text ((scanR text).2.2)).2)).1 = (scanR text).2.2)) hb) ?_
            exact WL.end_ (KX.go hK_10' ⟨rfl, rfl, trivial⟩)
        refine WL.val (OV.move rfl) rfl rfl rfl ?_
        refine WL.cut 4 [(56, Value.bool ((((offL text ((ofL text ((scanR text).2.2)).1) ((ofL text ((scanR text).2.2)).2)).2) && (decide ((offL text ((ofL text ((scanR text).2.2)).1) ((ofL text ((scanR text).2.2)).2)).1 = (scanR text).2.2))) && (decide ((((scanR text).1).length : Int) = 0))))] ?_ (fun K0_11' hK_11' => ?_)
        rotate_left
        · refine WL.split (((offL text ((ofL text ((scanR text).2.2)).1) ((ofL text ((scanR text).2.2)).2)).2) && (decide ((offL text ((ofL text ((scanR text).2.2)).1) ((ofL text ((scanR text).2.2)).2)).1 = (scanR text).2.2))) (fun hb => ?_) (fun hb => ?_)
          · refine WL.set 52 rfl (congrArg Value.bool hb) ?_
            refine WL.val (OV.move rfl) rfl rfl rfl ?_
            refine WL.val (OV.lenRow 1 rfl rfl tf_sl_26) rfl rfl rfl ?_
            refine WL.val (OV.eql rfl rfl) rfl rfl rfl ?_
            refine WL.val (OV.pickT rfl rfl) rfl rfl rfl ?_
            refine WL.set 56 rfl (bT (v := decide ((((scanR text).1).length : Int) = 0)) hb) ?_
            exact WL.end_ (KX.go hK_11' ⟨rfl, trivial⟩)
          · refine WL.set 52 rfl (congrArg Value.bool hb) ?_
            refine WL.skip rfl rfl rfl ?_
            refine WL.skip rfl rfl rfl ?_
            refine WL.skip rfl rfl rfl ?_
            refine WL.val (OV.pickF rfl rfl) rfl rfl rfl ?_
            refine WL.set 56 rfl (bF (v := decide ((((scanR text).1).length : Int) = 0)) hb) ?_
            exact WL.end_ (KX.go hK_11' ⟨rfl, trivial⟩)
        refine WL.val (OV.assign rfl) rfl rfl rfl ?_
        refine WL.nil ?_
        refine KX.go (hK_9' [(2, Value.bool ((((offL text ((ofL text ((scanR text).2.2)).1) ((ofL text ((scanR text).2.2)).2)).2) && (decide ((offL text ((ofL text ((scanR text).2.2)).1) ((ofL text ((scanR text).2.2)).2)).1 = (scanR text).2.2))) && (decide ((((scanR text).1).length : Int) = 0))))] _ ?_) ⟨rfl, trivial⟩
        refine wc_ret ?_
        exact hE.ret [] rfl rfl (.inl ⟨_, h, rfl⟩) (ResV.of1 rfl (RV.tmp rfl))
      · replace h := if_F h hb
        refine wc_skip ?_
        refine KX.go (hK_5' [(0, st text), (3, w)] _ ?_) ⟨rfl, rfl, trivial⟩
        refine wc_seq (fun K0_12' hK_12' => ?_)
        refine wc_region ?_
        refine WL.val (OV.assign rfl) rfl rfl rfl ?_
        refine WL.nil ?_
        refine KX.go (hK_12' [(0, st text), (3, w), (9, st [])] _ ?_) ⟨rfl, rfl, rfl, trivial⟩
        refine wc_seq (fun K0_13' hK_13' => ?_)
        refine wc_seq (fun K0_14' hK_14' => ?_)
        refine wc_region ?_
        refine WL.val (OV.assign rfl) rfl rfl rfl ?_
        refine WL.nil ?_
        refine KX.go (hK_14' [(0, st text), (3, w), (9, st []), (10, Value.int .i64 0)] _ ?_) ⟨rfl, rfl, rfl, rfl, trivial⟩
        refine wc_block ?_
        refine WC.pick (H' := [HA.row w 34 3 ((scanR text).1).length (((scanR text).1).flatMap tokC)]) [1] rfl rfl ?_
        obtain ⟨Inv, mu, h0, hr⟩ := h
        refine wc_loop (S := (List UInt8) × Int) (fun σ => Inv σ.1 σ.2) (fun σ => mu σ.1 σ.2) (fun σ => [(0, st text), (3, w), (9, st σ.1), (10, Value.int .i64 σ.2)]) (fun σ => [HA.row w 34 3 ((scanR text).1).length (((scanR text).1).flatMap tokC)]) ([], 0) h0 ⟨rfl, rfl, rfl, rfl, trivial⟩ rfl ?_
        rintro ⟨lines_3', i_1'⟩ hi K0_49' hK_49'
        have h := hr lines_3' i_1' hi
        show WC _ _ _ _ [(0, st text), (3, w), (9, st lines_3'), (10, Value.int .i64 i_1')] [HA.row w 34 3 ((scanR text).1).length (((scanR text).1).flatMap tokC)]
        refine wc_seq (fun K0_50' hK_50' => ?_)
        refine wc_seq (fun K0_51' hK_51' => ?_)
        refine wc_region ?_
        refine WL.val (OV.move rfl) rfl rfl rfl ?_
        refine WL.val (OV.move rfl) rfl rfl rfl ?_
        refine WL.val (OV.lenRow 0 rfl rfl tf_sl_26) rfl rfl rfl ?_
        refine WL.val (OV.lss rfl rfl) rfl rfl rfl ?_
        refine WL.nil ?_
        refine KX.go (hK_51' [(0, st text), (3, w), (9, st lines_3'), (10, Value.int .i64 i_1'), (60, Value.bool (decide (i_1' < (((scanR text).1).length : Int))))] _ ?_) ⟨rfl, rfl, rfl, rfl, rfl, trivial⟩
        refine wc_cond (b := decide (i_1' < (((scanR text).1).length : Int))) rfl (fun hb => ?_) (fun hb => ?_)
        · replace h := if_T h hb
          refine wc_skip ?_
          refine KX.go (hK_50' [(0, st text), (3, w), (9, st lines_3'), (10, Value.int .i64 i_1')] _ ?_) ⟨rfl, rfl, rfl, rfl, trivial⟩
          obtain ⟨J0_2', hJ_2', h⟩ := h
          refine wc_seqJ (X := (List UInt8)) (fun σ => J0_2' σ) (fun σ => [(0, st text), (3, w), (9, st σ), (10, Value.int .i64 i_1')]) (fun σ => [HA.row w 34 3 ((scanR text).1).length (((scanR text).1).flatMap tokC)]) ?_ (fun K0_59' hK_59' => ?_)
          · rintro lines_4' hj
            replace h := hJ_2' lines_4' hj
            show WC _ _ _ _ [(0, st text), (3, w), (9, st lines_4'), (10, Value.int .i64 i_1')] [HA.row w 34 3 ((scanR text).1).length (((scanR text).1).flatMap tokC)]
            refine wc_region ?_
            refine WL.val (OV.move rfl) rfl rfl rfl ?_
            obtain ⟨o_59', h⟩ := h
            refine WL.val (OV.add rfl rfl o_59') rfl rfl rfl ?_
            refine WL.val (OV.assign rfl) rfl rfl rfl ?_
            refine WL.nil ?_
            exact KX.goH (hK_49' (lines_4', i_1' + 1) h.1 h.2) ⟨rfl, rfl, rfl, rfl, trivial⟩ [0] rfl rfl
          · skip
            refine wc_block ?_
            refine wc_seq (fun K0_60' hK_60' => ?_)
            refine wc_region ?_
            refine WL.val (OV.move rfl) rfl rfl rfl ?_
            refine WL.val (OV.move rfl) rfl rfl rfl ?_
            refine WL.val (OV.move rfl) rfl rfl rfl ?_
            obtain ⟨o_60', h⟩ := h
            refine WL.val (OV.indexRow 0 rfl rfl rfl tf_sl_26 o_60') rfl rfl rfl ?_
            refine WL.val (OV.fieldAddr rfl tf_field_34_1) rfl rfl rfl ?_
            refine WL.val (OV.loadEF (f := tokC) (o := 1) 0 rfl rfl tokC_len (by omega) rfl tf_scal_3) rfl rfl rfl ?_
            obtain ⟨o_61', h⟩ := h
            refine WL.call (A := []) tf_ent_6 rfl (of_does text ((((scanR text).1).getD (i_1').toNat default).2.1) o_61') rfl trivial rfl rfl ?_
            refine WL.val (OV.move rfl) rfl rfl rfl ?_
            refine WL.val (OV.extract 0 rfl rfl) rfl rfl rfl ?_
            refine WL.val (OV.extract 1 rfl rfl) rfl rfl rfl ?_
            refine WL.val (OV.assign rfl) rfl rfl rfl ?_
            refine WL.val (OV.assign rfl) rfl rfl rfl ?_
            refine WL.nil ?_
            refine KX.go (hK_60' [(0, st text), (3, w), (9, st lines_3'), (10, Value.int .i64 i_1'), (11, Value.int .i64 ((ofL text ((((scanR text).1).getD (i_1').toNat default).2.1)).1)), (12, Value.int .i64 ((ofL text ((((scanR text).1).getD (i_1').toNat default).2.1)).2))] _ ?_) ⟨rfl, rfl, rfl, rfl, rfl, rfl, trivial⟩
            refine wc_seq (fun K0_61' hK_61' => ?_)
            refine wc_region ?_
            refine WL.val (OV.move rfl) rfl rfl rfl ?_
            refine WL.val (OV.move rfl) rfl rfl rfl ?_
            refine WL.val (OV.move rfl) rfl rfl rfl ?_
            obtain ⟨o_62', h⟩ := h
            refine WL.call (A := []) tf_ent_7 rfl (offset_does text ((ofL text ((((scanR text).1).getD (i_1').toNat default).2.1)).1) ((ofL text ((((scanR text).1).getD (i_1').toNat default).2.1)).2) o_62') rfl trivial rfl rfl ?_
            refine WL.val (OV.move rfl) rfl rfl rfl ?_
            refine WL.val (OV.extract 0 rfl rfl) rfl rfl rfl ?_
            refine WL.val (OV.extract 1 rfl rfl) rfl rfl rfl ?_
            refine WL.val (OV.assign rfl) rfl rfl rfl ?_
            refine WL.val (OV.assign rfl) rfl rfl rfl ?_
            refine WL.nil ?_
            refine KX.go (hK_61' [(0, st text), (3, w), (9, st lines_3'), (10, Value.int .i64 i_1'), (13, Value.int .i64 ((offL text ((ofL text ((((scanR text).1).getD (i_1').toNat default).2.1)).1) ((ofL text ((((scanR text).1).getD (i_1').toNat default).2.1)).2)).1)), (14, Value.bool ((offL text ((ofL text ((((scanR text).1).getD (i_1').toNat default).2.1)).1) ((ofL text ((((scanR text).1).getD (i_1').toNat default).2.1)).2)).2))] _ ?_) ⟨rfl, rfl, rfl, rfl, rfl, rfl, trivial⟩
            refine wc_seq (fun K0_62' hK_62' => ?_)
            refine wc_seq (fun K0_63' hK_63' => ?_)
            refine wc_region ?_
            refine WL.val (OV.move rfl) rfl rfl rfl ?_
            refine WL.val (OV.not rfl) rfl rfl rfl ?_
            refine WL.val (OV.move rfl) rfl rfl rfl ?_
            obtain ⟨o_64', h⟩ := h
            refine WL.cut 8 [(0, st text), (3, w), (9, st lines_3'), (10, Value.int .i64 i_1'), (90, Value.bool ((!((offL text ((ofL text ((((scanR text).1).getD (i_1').toNat default).2.1)).1) ((ofL text ((((scanR text).1).getD (i_1').toNat default).2.1)).2)).2)) || (!decide ((offL text ((ofL text ((((scanR text).1).getD (i_1').toNat default).2.1)).1) ((ofL text ((((scanR text).1).getD (i_1').toNat default).2.1)).2)).1 = (((scanR text).1).getD (i_1').toNat default).2.1))))] ?_ (fun K0_64' hK_64' => ?_)
            rotate_left
            · refine WL.split (!((offL text ((ofL text ((((scanR text).1).getD (i_1').toNat default).2.1)).1) ((ofL text ((((scanR text).1).getD (i_1').toNat default).2.1)).2)).2)) (fun hb => ?_) (fun hb => ?_)
              · refine WL.set 82 rfl (congrArg Value.bool hb) ?_
                refine WL.skip rfl rfl rfl ?_
                refine WL.skip rfl rfl rfl ?_
                refine WL.skip rfl rfl rfl ?_
                refine WL.skip rfl rfl rfl ?_
                refine WL.skip rfl rfl rfl ?_
                refine WL.skip rfl rfl rfl ?_
                refine WL.skip rfl rfl rfl ?_
                refine WL.val (OV.pickT rfl rfl) rfl rfl rfl ?_
                refine WL.set 90 rfl (oT (v := !decide ((offL text ((ofL text ((((scanR text).1).getD (i_1').toNat default).2.1)).1) ((ofL text ((((scanR text).1).getD (i_1').toNat default).2.1)).2)).1 = (((scanR text).1).getD (i_1').toNat default).2.1)) hb) ?_
                exact WL.end_ (KX.go hK_64' ⟨rfl, rfl, rfl, rfl, rfl, trivial⟩)
              · have o_63' := o_64' hb
                refine WL.set 82 rfl (congrArg Value.bool hb) ?_
                refine WL.val (OV.move rfl) rfl rfl rfl ?_
                refine WL.val (OV.move rfl) rfl rfl rfl ?_
                refine WL.val (OV.move rfl) rfl rfl rfl ?_
                refine WL.val (OV.indexRow 0 rfl rfl rfl tf_sl_26 o_63') rfl rfl rfl ?_
                refine WL.val (OV.fieldAddr rfl tf_field_34_1) rfl rfl rfl ?_
                refine WL.val (OV.loadEF (f := tokC) (o := 1) 0 rfl rfl tokC_len (by omega) rfl tf_scal_3) rfl rfl rfl ?_
                refine WL.val (OV.neq rfl rfl) rfl rfl rfl ?_
                refine WL.val (OV.pickF rfl rfl) rfl rfl rfl ?_
                refine WL.set 90 rfl (oF (v := !decide ((offL text ((ofL text ((((scanR text).1).getD (i_1').toNat default).2.1)).1) ((ofL text ((((scanR text).1).getD (i_1').toNat default).2.1)).2)).1 = (((scanR text).1).getD (i_1').toNat default).2.1)) hb) ?_
                exact WL.end_ (KX.go hK_64' ⟨rfl, rfl, rfl, rfl, rfl, trivial⟩)
            refine WL.nil ?_
            refine KX.go (hK_63' [(0, st text), (3, w), (9, st lines_3'), (10, Value.int .i64 i_1'), (90, Value.bool ((!((offL text ((ofL text ((((scanR text).1).getD (i_1').toNat default).2.1)).1) ((ofL text ((((scanR text).1).getD (i_1').toNat default).2.1)).2)).2)) || (!decide ((offL text ((ofL text ((((scanR text).1).getD (i_1').toNat default).2.1)).1) ((ofL text ((((scanR text).1).getD (i_1').toNat default).2.1)).2)).1 = (((scanR text).1).getD (i_1').toNat default).2.1))))] _ ?_) ⟨rfl, rfl, rfl, rfl, rfl, trivial⟩
            refine wc_cond (b := (!((offL text ((ofL text ((((scanR text).1).getD (i_1').toNat default).2.1)).1) ((ofL text ((((scanR text).1).getD (i_1').toNat default).2.1)).2)).2)) || (!decide ((offL text ((ofL text ((((scanR text).1).getD (i_1').toNat default).2.1)).1) ((ofL text ((((scanR text).1).getD (i_1').toNat default).2.1)).2)).1 = (((scanR text).1).getD (i_1').toNat default).2.1))) rfl (fun hb => ?_) (fun hb => ?_)
            · replace h := if_T h hb
              refine wc_seq (fun K0_65' hK_65' => ?_)
              refine wc_region ?_
              refine WL.val (OV.assign rfl) rfl rfl rfl ?_
              refine WL.nil ?_
              refine KX.go (hK_65' [(2, Value.bool false)] _ ?_) ⟨rfl, trivial⟩
              refine wc_ret ?_
              exact hE.ret [] rfl rfl (.inl ⟨_, h, rfl⟩) (ResV.of1 rfl (RV.tmp rfl))
            · replace h := if_F h hb
              refine wc_skip ?_
              refine KX.go (hK_62' [(0, st text), (3, w), (9, st lines_3'), (10, Value.int .i64 i_1')] _ ?_) ⟨rfl, rfl, rfl, rfl, trivial⟩
              refine wc_seq (fun K0_66' hK_66' => ?_)
              refine wc_region ?_
              refine WL.val (OV.move rfl) rfl rfl rfl ?_
              refine WL.val (OV.move rfl) rfl rfl rfl ?_
              refine WL.val (OV.lenRow 0 rfl rfl tf_sl_26) rfl rfl rfl ?_
              obtain ⟨o_65', h⟩ := h
              refine WL.val (OV.sub rfl rfl o_65') rfl rfl rfl ?_
              refine WL.val (OV.lss rfl rfl) rfl rfl rfl ?_
              refine WL.nil ?_
              refine KX.go (hK_66' [(0, st text), (3, w), (9, st lines_3'), (10, Value.int .i64 i_1'), (95, Value.bool (decide (i_1' < (((scanR text).1).length : Int) - 1)))] _ ?_) ⟨rfl, rfl, rfl, rfl, rfl, trivial⟩
              refine wc_cond (b := decide (i_1' < (((scanR text).1).length : Int) - 1)) rfl (fun hb => ?_) (fun hb => ?_)
              · replace h := if_T h hb
                refine wc_region ?_
                refine WL.val (OV.move rfl) rfl rfl rfl ?_
                refine WL.val (OV.move rfl) rfl rfl rfl ?_
                refine WL.val (OV.move rfl) rfl rfl rfl ?_
                refine WL.val (OV.move rfl) rfl rfl rfl ?_
                obtain ⟨o_66', h⟩ := h
                refine WL.val (OV.add rfl rfl o_66') rfl rfl rfl ?_
                obtain ⟨o_67', h⟩ := h
                refine WL.val (OV.sliceSub 0 rfl rfl rfl rfl tf_sl_26 o_67') rfl rfl rfl ?_
                obtain ⟨o_68', h⟩ := h
                refine WL.call1 (A := []) tf_ent_8 rfl (showIn_does (slSub w 3 (i_1').toNat ((i_1' + 1)).toNat) ((((scanR text).1).drop ((i_1').toNat)).take ((((i_1' + 1)).toNat) - ((i_1').toNat))) o_68') rfl (LOk.sub 0 rfl tokC_len (by omega)) trivial rfl rfl ?_
                obtain ⟨o_69', h⟩ := h
                refine WL.val (OV.cat rfl rfl o_69') rfl rfl rfl ?_
                obtain ⟨o_70', h⟩ := h
                refine WL.val (OV.cat rfl rfl o_70') rfl rfl rfl ?_
                refine WL.val (OV.assign rfl) rfl rfl rfl ?_
                refine WL.nil ?_
                exact KX.goH (hK_59' (lines_3' ++ ((showL ((((scanR text).1).drop ((i_1').toNat)).take ((((i_1' + 1)).toNat) - ((i_1').toNat)))) ++ ([10] : List UInt8))) h) ⟨rfl, rfl, rfl, rfl, trivial⟩ [0] rfl rfl
              · replace h := if_F h hb
                refine wc_skip ?_
                exact KX.goH (hK_59' lines_3' h) ⟨rfl, rfl, rfl, rfl, trivial⟩ [0] rfl rfl
        · replace h := if_F h hb
          refine wc_exit ?_
          refine KX.go (hK_13' [(3, w), (9, st lines_3')] _ ?_) ⟨rfl, rfl, trivial⟩
          refine wc_seq (fun K0_67' hK_67' => ?_)
          refine wc_seq (fun K0_68' hK_68' => ?_)
          refine wc_region ?_
          refine WL.val (OV.move rfl) rfl rfl rfl ?_
          refine WL.val (OV.len rfl tf_str_9) rfl rfl rfl ?_
          refine WL.val (OV.gtr rfl rfl) rfl rfl rfl ?_
          refine WL.nil ?_
          refine KX.go (hK_68' [(3, w), (9, st lines_3'), (107, Value.bool (decide (4096 < (lines_3'.length : Int))))] _ ?_) ⟨rfl, rfl, rfl, trivial⟩
          refine wc_cond (b := decide (4096 < (lines_3'.length : Int))) rfl (fun hb => ?_) (fun hb => ?_)
          · replace h := if_T h hb
            refine wc_seq (fun K0_69' hK_69' => ?_)
            refine wc_region ?_
            refine WL.val (OV.assign rfl) rfl rfl rfl ?_
            refine WL.nil ?_
            refine KX.go (hK_69' [(2, Value.bool true)] _ ?_) ⟨rfl, trivial⟩
            refine wc_ret ?_
            exact hE.ret [] rfl rfl (.inl ⟨_, h, rfl⟩) (ResV.of1 rfl (RV.tmp rfl))
          · replace h := if_F h hb
            refine wc_skip ?_
            refine KX.go (hK_67' [(3, w), (9, st lines_3')] _ ?_) ⟨rfl, rfl, trivial⟩
            refine wc_seq (fun K0_70' hK_70' => ?_)
            refine wc_region ?_
            refine WL.val (OV.move rfl) rfl rfl rfl ?_
            refine WL.callS tf_ent_5 rfl (scan_does lines_3') rfl trivial rfl rfl (fun r H' hS => ?_) (fun c H' hS => ?_)
            · obtain ⟨w_1', ho⟩ := hS
              cases ho
              refine WL.val (OV.move rfl) rfl rfl rfl ?_
              refine WL.val (OV.extract 0 rfl rfl) rfl rfl rfl ?_
              refine WL.val (OV.extract 1 rfl rfl) rfl rfl rfl ?_
              refine WL.make (MV.alloc tf_zero_25) rfl rfl rfl (fun b_1' => ?_)
              refine WL.val (OV.assign rfl) rfl rfl rfl ?_
              refine WL.storeW (vs := [Value.int .i64 ((scanR lines_3').2.1), Value.int .i64 ((scanR lines_3').2.2), st []]) 0 rfl rfl rfl rfl rfl tf_size_25 rfl rfl rfl ?_
              refine WL.nil ?_
              refine KX.go (hK_70' [(3, w), (9, st lines_3'), (15, w_1'), (16, Value.pointer (some ⟨b_1', 0, none⟩))] _ ?_) ⟨rfl, rfl, rfl, rfl, trivial⟩
              refine wc_seq (fun K0_71' hK_71' => ?_)
              refine wc_seq (fun K0_72' hK_72' => ?_)
              refine wc_region ?_
              refine WL.val (OV.loadR rfl (At.own 0 rfl) tf_row_25) rfl rfl rfl ?_
              refine WL.val (OV.build rfl (cs := [Value.int .i64 0, Value.int .i64 0, st []]) rfl) rfl rfl rfl ?_
              refine WL.val (OV.neqF (rs := [decide ((scanR lines_3').2.1 = 0), decide ((scanR lines_3').2.2 = 0), decide (([] : List UInt8) = [])]) rfl rfl Tryd.underlying25 tf_stood_25 tf_eqg_25 ⟨rfl, tf_scal_23, ⟨_, _, rfl, rfl, ScalEq.int Tryd.underlying23⟩, ⟨rfl, tf_scal_3, ⟨_, _, rfl, rfl, ScalEq.int Tryd.underlying3⟩, ⟨rfl, tf_scal_9, ⟨_, _, rfl, rfl, ScalEq.str Tryd.underlying9⟩, trivial⟩⟩⟩) rfl rfl rfl ?_
              refine WL.val (OV.move rfl) rfl rfl rfl ?_
              refine WL.cut 6 [(3, w), (9, st lines_3'), (15, w_1'), (122, Value.bool ((!andAll [decide ((scanR lines_3').2.1 = 0), decide ((scanR lines_3').2.2 = 0), decide (([] : List UInt8) = [])]) || (!decide ((((scanR lines_3').1).length : Int) = (((scanR text).1).length : Int)))))] ?_ (fun K0_73' hK_73' => ?_)
              rotate_left
              · refine WL.split (!andAll [decide ((scanR lines_3').2.1 = 0), decide ((scanR lines_3').2.2 = 0), decide (([] : List UInt8) = [])]) (fun hb => ?_) (fun hb => ?_)
                · refine WL.set 116 rfl (congrArg Value.bool hb) ?_
                  refine WL.skip rfl rfl rfl ?_
                  refine WL.skip rfl rfl rfl ?_
                  refine WL.skip rfl rfl rfl ?_
                  refine WL.skip rfl rfl rfl ?_
                  refine WL.skip rfl rfl rfl ?_
                  refine WL.val (OV.pickT rfl rfl) rfl rfl rfl ?_
                  refine WL.set 122 rfl (oT (v := !decide ((((scanR lines_3').1).length : Int) = (((scanR text).1).length : Int))) hb) ?_
                  exact WL.end_ (KX.go hK_73' ⟨rfl, rfl, rfl, rfl, trivial⟩)
                · refine WL.set 116 rfl (congrArg Value.bool hb) ?_
                  refine WL.val (OV.move rfl) rfl rfl rfl ?_
                  refine WL.val (OV.lenRow 1 rfl rfl tf_sl_26) rfl rfl rfl ?_
                  refine WL.val (OV.move rfl) rfl rfl rfl ?_
                  refine WL.val (OV.lenRow 2 rfl rfl tf_sl_26) rfl rfl rfl ?_
                  refine WL.val (OV.neq rfl rfl) rfl rfl rfl ?_
                  refine WL.val (OV.pickF rfl rfl) rfl rfl rfl ?_
                  refine WL.set 122 rfl (oF (v := !decide ((((scanR lines_3').1).length : Int) = (((scanR text).1).length : Int))) hb) ?_
                  exact WL.end_ (KX.go hK_73' ⟨rfl, rfl, rfl, rfl, trivial⟩)
              refine WL.nil ?_
              refine KX.go (hK_72' [(3, w), (9, st lines_3'), (15, w_1'), (122, Value.bool ((!andAll [decide ((scanR lines_3').2.1 = 0), decide ((scanR lines_3').2.2 = 0), decide (([] : List UInt8) = [])]) || (!decide ((((scanR lines_3').1).length : Int) = (((scanR text).1).length : Int)))))] _ ?_) ⟨rfl, rfl, rfl, rfl, trivial⟩
              refine wc_cond (b := (!andAll [decide ((scanR lines_3').2.1 = 0), decide ((scanR lines_3').2.2 = 0), decide (([] : List UInt8) = [])]) || (!decide ((((scanR lines_3').1).length : Int) = (((scanR text).1).length : Int)))) rfl (fun hb => ?_) (fun hb => ?_)
              · replace h := if_T h hb
                refine wc_seq (fun K0_74' hK_74' => ?_)
                refine wc_region ?_
                refine WL.val (OV.assign rfl) rfl rfl rfl ?_
                refine WL.nil ?_
                refine KX.go (hK_74' [(2, Value.bool false)] _ ?_) ⟨rfl, trivial⟩
                refine wc_ret ?_
                exact hE.ret [] rfl rfl (.inl ⟨_, h, rfl⟩) (ResV.of1 rfl (RV.tmp rfl))
              · replace h := if_F h hb
                refine wc_skip ?_
                refine KX.go (hK_71' [(3, w), (9, st lines_3'), (15, w_1')] _ ?_) ⟨rfl, rfl, rfl, trivial⟩
                refine wc_seq (fun K0_75' hK_75' => ?_)
                refine wc_seq (fun K0_76' hK_76' => ?_)
                refine wc_region ?_
                refine WL.val (OV.assign rfl) rfl rfl rfl ?_
                refine WL.nil ?_
                refine KX.go (hK_76' [(3, w), (9, st lines_3'), (15, w_1'), (17, Value.int .i64 0)] _ ?_) ⟨rfl, rfl, rfl, rfl, trivial⟩
                refine wc_block ?_
                refine WC.pick (H' := [HA.row w_1' 34 3 ((scanR lines_3').1).length (((scanR lines_3').1).flatMap tokC), HA.row w 34 3 ((scanR text).1).length (((scanR text).1).flatMap tokC)]) [1, 2] rfl rfl ?_
                obtain ⟨Inv_1', mu_1', h0_1', hr_1'⟩ := h
                refine wc_loop (S := Int) (fun σ => Inv_1' σ) (fun σ => mu_1' σ) (fun σ => [(3, w), (9, st lines_3'), (15, w_1'), (17, Value.int .i64 σ)]) (fun σ => [HA.row w_1' 34 3 ((scanR lines_3').1).length (((scanR lines_3').1).flatMap tokC), HA.row w 34 3 ((scanR text).1).length (((scanR text).1).flatMap tokC)]) 0 h0_1' ⟨rfl, rfl, rfl, rfl, trivial⟩ rfl ?_
                rintro i_3' hi K0_95' hK_95'
                have h := hr_1' i_3' hi
                show WC _ _ _ _ [(3, w), (9, st lines_3'), (15, w_1'), (17, Value.int .i64 i_3')] [HA.row w_1' 34 3 ((scanR lines_3').1).length (((scanR lines_3').1).flatMap tokC), HA.row w 34 3 ((scanR text).1).length (((scanR text).1).flatMap tokC)]
                refine wc_seq (fun K0_96' hK_96' => ?_)
                refine wc_seq (fun K0_97' hK_97' => ?_)
                refine wc_region ?_
                refine WL.val (OV.move rfl) rfl rfl rfl ?_
                refine WL.val (OV.move rfl) rfl rfl rfl ?_
                refine WL.val (OV.lenRow 0 rfl rfl tf_sl_26) rfl rfl rfl ?_
                obtain ⟨o_94', h⟩ := h
                refine WL.val (OV.sub rfl rfl o_94') rfl rfl rfl ?_
                refine WL.val (OV.lss rfl rfl) rfl rfl rfl ?_
                refine WL.nil ?_
                refine KX.go (hK_97' [(3, w), (9, st lines_3'), (15, w_1'), (17, Value.int .i64 i_3'), (127, Value.bool (decide (i_3' < (((scanR lines_3').1).length : Int) - 1)))] _ ?_) ⟨rfl, rfl, rfl, rfl, rfl, trivial⟩
                refine wc_cond (b := decide (i_3' < (((scanR lines_3').1).length : Int) - 1)) rfl (fun hb => ?_) (fun hb => ?_)
                · replace h := if_T h hb
                  refine wc_skip ?_
                  refine KX.go (hK_96' [(3, w), (9, st lines_3'), (15, w_1'), (17, Value.int .i64 i_3')] _ ?_) ⟨rfl, rfl, rfl, rfl, trivial⟩
                  refine wc_seq (fun K0_98' hK_98' => ?_)
                  refine wc_block ?_
                  refine wc_seq (fun K0_99' hK_99' => ?_)
                  refine wc_region ?_
                  refine WL.val (OV.move rfl) rfl rfl rfl ?_
                  refine WL.val (OV.move rfl) rfl rfl rfl ?_
                  refine WL.val (OV.move rfl) rfl rfl rfl ?_
                  obtain ⟨o_95', h⟩ := h
                  refine WL.val (OV.indexRow 0 rfl rfl rfl tf_sl_26 o_95') rfl rfl rfl ?_
                  refine WL.val (OV.fieldAddr rfl tf_field_34_1) rfl rfl rfl ?_
                  refine WL.val (OV.loadEF (f := tokC) (o := 1) 0 rfl rfl tokC_len (by omega) rfl tf_scal_3) rfl rfl rfl ?_
                  obtain ⟨o_96', h⟩ := h
                  refine WL.call (A := []) tf_ent_6 rfl (of_does lines_3' ((((scanR lines_3').1).getD (i_3').toNat default).2.1) o_96') rfl trivial rfl rfl ?_
                  refine WL.val (OV.move rfl) rfl rfl rfl ?_
                  refine WL.val (OV.extract 0 rfl rfl) rfl rfl rfl ?_
                  refine WL.val (OV.extract 1 rfl rfl) rfl rfl rfl ?_
                  refine WL.val (OV.assign rfl) rfl rfl rfl ?_
                  refine WL.val (OV.assign rfl) rfl rfl rfl ?_
                  refine WL.nil ?_
                  refine KX.go (hK_99' [(3, w), (9, st lines_3'), (15, w_1'), (17, Value.int .i64 i_3'), (18, Value.int .i64 ((ofL lines_3' ((((scanR lines_3').1).getD (i_3').toNat default).2.1)).1)), (19, Value.int .i64 ((ofL lines_3' ((((scanR lines_3').1).getD (i_3').toNat default).2.1)).2))] _ ?_) ⟨rfl, rfl, rfl, rfl, rfl, rfl, trivial⟩
                  refine wc_seq (fun K0_100' hK_100' => ?_)
                  refine wc_draw_all [] tf_mixed (by kernel_rfl) rfl (fun T_2' hT_2' => ?_)
                  refine FL.val (fun _ => OV.move rfl) rfl (fun _ => rfl) rfl rfl ?_
                  refine FL.val (fun _ => OV.move rfl) rfl (fun _ => rfl) rfl rfl ?_
                  obtain ⟨o_97', h⟩ := h
                  refine FL.val (fun _ => OV.add rfl rfl o_97') rfl (fun _ => rfl) rfl rfl ?_
                  refine FL.val (fun _ => OV.neq rfl rfl) rfl (fun _ => rfl) rfl rfl ?_
                  refine FL.val (fun _ => OV.move rfl) rfl (fun _ => rfl) rfl rfl ?_
                  refine FL.cut 3 rfl (fun _ => [(3, w), (9, st lines_3'), (15, w_1'), (17, Value.int .i64 i_3'), (147, Value.bool ((!decide ((ofL lines_3' ((((scanR lines_3').1).getD (i_3').toNat default).2.1)).1 = i_3' + 1)) || (!decide ((ofL lines_3' ((((scanR lines_3').1).getD (i_3').toNat default).2.1)).2 = 1))))]) ?_ (fun K0_101' hK_101' => ?_)
                  rotate_left
                  · refine FL.split (!decide ((ofL lines_3' ((((scanR lines_3').1).getD (i_3').toNat default).2.1)).1 = i_3' + 1)) (fun hb => ?_) (fun hb => ?_)
                    · refine FL.set 144 (fun _ => rfl) (congrArg Value.bool hb) ?_
                      refine FL.skip rfl (fun _ => rfl) rfl rfl ?_
                      refine FL.skip rfl (fun _ => rfl) rfl rfl ?_
                      refine FL.val (fun _ => OV.pickT rfl rfl) rfl (fun _ => rfl) rfl rfl ?_
                      refine FL.set 147 (fun _ => rfl) (oT (v := !decide ((ofL lines_3' ((((scanR lines_3').1).getD (i_3').toNat default).2.1)).2 = 1)) hb) ?_
                      exact FL.weak (L' := fun _ => [(3, w), (9, st lines_3'), (15, w_1'), (17, Value.int .i64 i_3'), (147, Value.bool ((!decide ((ofL lines_3' ((((scanR lines_3').1).getD (i_3').toNat default).2.1)).1 = i_3' + 1)) || (!decide ((ofL lines_3' ((((scanR lines_3').1).getD (i_3').toNat default).2.1)).2 = 1))))]) (fun _ => ⟨rfl, rfl, rfl, rfl, rfl, trivial⟩) (FL.nil hK_101')
                    · refine FL.set 144 (fun _ => rfl) (congrArg Value.bool hb) ?_
                      refine FL.val (fun _ => OV.move rfl) rfl (fun _ => rfl) rfl rfl ?_
                      refine FL.val (fun _ => OV.neq rfl rfl) rfl (fun _ => rfl) rfl rfl ?_
                      refine FL.val (fun _ => OV.pickF rfl rfl) rfl (fun _ => rfl) rfl rfl ?_
                      refine FL.set 147 (fun _ => rfl) (oF (v := !decide ((ofL lines_3' ((((scanR lines_3').1).getD (i_3').toNat default).2.1)).2 = 1)) hb) ?_
                      exact FL.weak (L' := fun _ => [(3, w), (9, st lines_3'), (15, w_1'), (17, Value.int .i64 i_3'), (147, Value.bool ((!decide ((ofL lines_3' ((((scanR lines_3').1).getD (i_3').toNat default).2.1)).1 = i_3' + 1)) || (!decide ((ofL lines_3' ((((scanR lines_3').1).getD (i_3').toNat default).2.1)).2 = 1))))]) (fun _ => ⟨rfl, rfl, rfl, rfl, rfl, trivial⟩) (FL.nil hK_101')
                  refine FL.val (fun _ => OV.move rfl) rfl (fun _ => rfl) rfl rfl ?_
                  obtain ⟨o_101', h⟩ := h
                  refine FL.cut 12 rfl (fun _ => [(3, w), (9, st lines_3'), (15, w_1'), (17, Value.int .i64 i_3'), (160, Value.bool (((!decide ((ofL lines_3' ((((scanR lines_3').1).getD (i_3').toNat default).2.1)).1 = i_3' + 1)) || (!decide ((ofL lines_3' ((((scanR lines_3').1).getD (i_3').toNat default).2.1)).2 = 1))) || (!decide ((((scanR lines_3').1).getD (i_3').toNat default).1 = (((scanR text).1).getD (i_3').toNat default).1))))]) ?_ (fun K0_102' hK_102' => ?_)
                  rotate_left
                  · refine FL.split ((!decide ((ofL lines_3' ((((scanR lines_3').1).getD (i_3').toNat default).2.1)).1 = i_3' + 1)) || (!decide ((ofL lines_3' ((((scanR lines_3').1).getD (i_3').toNat default).2.1)).2 = 1))) (fun hb => ?_) (fun hb => ?_)
                    · refine FL.set 148 (fun _ => rfl) (congrArg Value.bool hb) ?_
                      refine FL.skip rfl (fun _ => rfl) rfl rfl ?_
                      refine FL.skip rfl (fun _ => rfl) rfl rfl ?_
                      refine FL.skip rfl (fun _ => rfl) rfl rfl ?_
                      refine FL.skip rfl (fun _ => rfl) rfl rfl ?_
                      refine FL.skip rfl (fun _ => rfl) rfl rfl ?_
                      refine FL.skip rfl (fun _ => rfl) rfl rfl ?_
                      refine FL.skip rfl (fun _ => rfl) rfl rfl ?_
                      refine FL.skip rfl (fun _ => rfl) rfl rfl ?_
                      refine FL.skip rfl (fun _ => rfl) rfl rfl ?_
                      refine FL.skip rfl (fun _ => rfl) rfl rfl ?_
                      refine FL.skip rfl (fun _ => rfl) rfl rfl ?_
                      refine FL.val (fun _ => OV.pickT rfl rfl) rfl (fun _ => rfl) rfl rfl ?_
                      refine FL.set 160 (fun _ => rfl) (oT (v := !decide ((((scanR lines_3').1).getD (i_3').toNat default).1 = (((scanR text).1).getD (i_3').toNat default).1)) hb) ?_
                      exact FL.weak (L' := fun _ => [(3, w), (9, st lines_3'), (15, w_1'), (17, Value.int .i64 i_3'), (160, Value.bool (((!decide ((ofL lines_3' ((((scanR lines_3').1).getD (i_3').toNat default).2.1)).1 = i_3' + 1)) || (!decide ((ofL lines_3' ((((scanR lines_3').1).getD (i_3').toNat default).2.1)).2 = 1))) || (!decide ((((scanR lines_3').1).getD (i_3').toNat default).1 = (((scanR text).1).getD (i_3').toNat default).1))))]) (fun _ => ⟨rfl, rfl, rfl, rfl, rfl, trivial⟩) (FL.nil hK_102')
                    · obtain ⟨o_99', o_100'⟩ := o_101' hb
                      refine FL.set 148 (fun _ => rfl) (congrArg Value.bool hb) ?_
                      refine FL.val (fun _ => OV.move rfl) rfl (fun _ => rfl) rfl rfl ?_
                      refine FL.val (fun _ => OV.move rfl) rfl (fun _ => rfl) rfl rfl ?_
                      refine FL.val (fun _ => OV.indexRow 0 rfl rfl rfl tf_sl_26 o_99') rfl (fun _ => rfl) rfl rfl ?_
                      refine FL.val (fun _ => OV.fieldAddr rfl tf_field_34_0) rfl (fun _ => rfl) rfl rfl ?_
                      refine FL.val (fun _ => OV.loadEF (f := tokC) (o := 0) 0 rfl rfl tokC_len (by omega) rfl tf_scal_3) rfl (fun _ => rfl) rfl rfl ?_
                      refine FL.val (fun _ => OV.move rfl) rfl (fun _ => rfl) rfl rfl ?_
                      refine FL.val (fun _ => OV.move rfl) rfl (fun _ => rfl) rfl rfl ?_
                      refine FL.val (fun _ => OV.indexRow 1 rfl rfl rfl tf_sl_26 o_100') rfl (fun _ => rfl) rfl rfl ?_
                      refine FL.val (fun _ => OV.fieldAddr rfl tf_field_34_0) rfl (fun _ => rfl) rfl rfl ?_
                      refine FL.val (fun _ => OV.loadEF (f := tokC) (o := 0) 1 rfl rfl tokC_len (by omega) rfl tf_scal_3) rfl (fun _ => rfl) rfl rfl ?_
                      refine FL.val (fun _ => OV.neq rfl rfl) rfl (fun _ => rfl) rfl rfl ?_
                      refine FL.val (fun _ => OV.pickF rfl rfl) rfl (fun _ => rfl) rfl rfl ?_
                      refine FL.set 160 (fun _ => rfl) (oF (v := !decide ((((scanR lines_3').1).getD (i_3').toNat default).1 = (((scanR text).1).getD (i_3').toNat default).1)) hb) ?_
                      exact FL.weak (L' := fun _ => [(3, w), (9, st lines_3'), (15, w_1'), (17, Value.int .i64 i_3'), (160, Value.bool (((!decide ((ofL lines_3' ((((scanR lines_3').1).getD (i_3').toNat default).2.1)).1 = i_3' + 1)) || (!decide ((ofL lines_3' ((((scanR lines_3').1).getD (i_3').toNat default).2.1)).2 = 1))) || (!decide ((((scanR lines_3').1).getD (i_3').toNat default).1 = (((scanR text).1).getD (i_3').toNat default).1))))]) (fun _ => ⟨rfl, rfl, rfl, rfl, rfl, trivial⟩) (FL.nil hK_102')
                  refine FL.val (fun _ => OV.move rfl) rfl (fun _ => rfl) rfl rfl ?_
                  obtain ⟨o_104', h⟩ := h
                  refine FL.cut 12 rfl (fun _ => [(3, w), (9, st lines_3'), (15, w_1'), (17, Value.int .i64 i_3'), (173, Value.bool ((((!decide ((ofL lines_3' ((((scanR lines_3').1).getD (i_3').toNat default).2.1)).1 = i_3' + 1)) || (!decide ((ofL lines_3' ((((scanR lines_3').1).getD (i_3').toNat default).2.1)).2 = 1))) || (!decide ((((scanR lines_3').1).getD (i_3').toNat default).1 = (((scanR text).1).getD (i_3').toNat default).1))) || (!decide ((((scanR lines_3').1).getD (i_3').toNat default).2.2 = (((scanR text).1).getD (i_3').toNat default).2.2))))]) ?_ (fun K0_103' hK_103' => ?_)
                  rotate_left
                  · refine FL.split (((!decide ((ofL lines_3' ((((scanR lines_3').1).getD (i_3').toNat default).2.1)).1 = i_3' + 1)) || (!decide ((ofL lines_3' ((((scanR lines_3').1).getD (i_3').toNat default).2.1)).2 = 1))) || (!decide ((((scanR lines_3').1).getD (i_3').toNat default).1 = (((scanR text).1).getD (i_3').toNat default).1))) (fun hb => ?_) (fun hb => ?_)
                    · refine FL.set 161 (fun _ => rfl) (congrArg Value.bool hb) ?_
                      refine FL.skip rfl (fun _ => rfl) rfl rfl ?_
                      refine FL.skip rfl (fun _ => rfl) rfl rfl ?_
                      refine FL.skip rfl (fun _ => rfl) rfl rfl ?_
                      refine FL.skip rfl (fun _ => rfl) rfl rfl ?_
                      refine FL.skip rfl (fun _ => rfl) rfl rfl ?_
                      refine FL.skip rfl (fun _ => rfl) rfl rfl ?_
                      refine FL.skip rfl (fun _ => rfl) rfl rfl ?_
                      refine FL.skip rfl (fun _ => rfl) rfl rfl ?_
                      refine FL.skip rfl (fun _ => rfl) rfl rfl ?_
                      refine FL.skip rfl (fun _ => rfl) rfl rfl ?_
                      refine FL.skip rfl (fun _ => rfl) rfl rfl ?_
                      refine FL.val (fun _ => OV.pickT rfl rfl) rfl (fun _ => rfl) rfl rfl ?_
                      refine FL.set 173 (fun _ => rfl) (oT (v := !decide ((((scanR lines_3').1).getD (i_3').toNat default).2.2 = (((scanR text).1).getD (i_3').toNat default).2.2)) hb) ?_
                      exact FL.weak (L' := fun _ => [(3, w), (9, st lines_3'), (15, w_1'), (17, Value.int .i64 i_3'), (173, Value.bool ((((!decide ((ofL lines_3' ((((scanR lines_3').1).getD (i_3').toNat default).2.1)).1 = i_3' + 1)) || (!decide ((ofL lines_3' ((((scanR lines_3').1).getD (i_3').toNat default).2.1)).2 = 1))) || (!decide ((((scanR lines_3').1).getD (i_3').toNat default).1 = (((scanR text).1).getD (i_3').toNat default).1))) || (!decide ((((scanR lines_3').1).getD (i_3').toNat default).2.2 = (((scanR text).1).getD (i_3').toNat default).2.2))))]) (fun _ => ⟨rfl, rfl, rfl, rfl, rfl, trivial⟩) (FL.nil hK_103')
                    · obtain ⟨o_102', o_103'⟩ := o_104' hb
                      refine FL.set 161 (fun _ => rfl) (congrArg Value.bool hb) ?_
                      refine FL.val (fun _ => OV.move rfl) rfl (fun _ => rfl) rfl rfl ?_
                      refine FL.val (fun _ => OV.move rfl) rfl (fun _ => rfl) rfl rfl ?_
                      refine FL.val (fun _ => OV.indexRow 0 rfl rfl rfl tf_sl_26 o_102') rfl (fun _ => rfl) rfl rfl ?_
                      refine FL.val (fun _ => OV.fieldAddr rfl tf_field_34_2) rfl (fun _ => rfl) rfl rfl ?_
                      refine FL.val (fun _ => OV.loadEF (f := tokC) (o := 2) 0 rfl rfl tokC_len (by omega) rfl tf_scal_9) rfl (fun _ => rfl) rfl rfl ?_
                      refine FL.val (fun _ => OV.move rfl) rfl (fun _ => rfl) rfl rfl ?_
                      refine FL.val (fun _ => OV.move rfl) rfl (fun _ => rfl) rfl rfl ?_
                      refine FL.val (fun _ => OV.indexRow 1 rfl rfl rfl tf_sl_26 o_103') rfl (fun _ => rfl) rfl rfl ?_
                      refine FL.val (fun _ => OV.fieldAddr rfl tf_field_34_2) rfl (fun _ => rfl) rfl rfl ?_
                      refine FL.val (fun _ => OV.loadEF (f := tokC) (o := 2) 1 rfl rfl tokC_len (by omega) rfl tf_scal_9) rfl (fun _ => rfl) rfl rfl ?_
                      refine FL.val (fun _ => OV.neqS rfl rfl) rfl (fun _ => rfl) rfl rfl ?_
                      refine FL.val (fun _ => OV.pickF rfl rfl) rfl (fun _ => rfl) rfl rfl ?_
                      refine FL.set 173 (fun _ => rfl) (oF (v := !decide ((((scanR lines_3').1).getD (i_3').toNat default).2.2 = (((scanR text).1).getD (i_3').toNat default).2.2)) hb) ?_
                      exact FL.weak (L' := fun _ => [(3, w), (9, st lines_3'), (15, w_1'), (17, Value.int .i64 i_3'), (173, Value.bool ((((!decide ((ofL lines_3' ((((scanR lines_3').1).getD (i_3').toNat default).2.1)).1 = i_3' + 1)) || (!decide ((ofL lines_3' ((((scanR lines_3').1).getD (i_3').toNat default).2.1)).2 = 1))) || (!decide ((((scanR lines_3').1).getD (i_3').toNat default).1 = (((scanR text).1).getD (i_3').toNat default).1))) || (!decide ((((scanR lines_3').1).getD (i_3').toNat default).2.2 = (((scanR text).1).getD (i_3').toNat default).2.2))))]) (fun _ => ⟨rfl, rfl, rfl, rfl, rfl, trivial⟩) (FL.nil hK_103')
                  refine FL.weak (L' := fun _ => [(3, w), (9, st lines_3'), (15, w_1'), (17, Value.int .i64 i_3'), (173, Value.bool ((((!decide ((ofL lines_3' ((((scanR lines_3').1).getD (i_3').toNat default).2.1)).1 = i_3' + 1)) || (!decide ((ofL lines_3' ((((scanR lines_3').1).getD (i_3').toNat default).2.1)).2 = 1))) || (!decide ((((scanR lines_3').1).getD (i_3').toNat default).1 = (((scanR text).1).getD (i_3').toNat default).1))) || (!decide ((((scanR lines_3').1).getD (i_3').toNat default).2.2 = (((scanR text).1).getD (i_3').toNat default).2.2))))]) (fun _ => ⟨rfl, rfl, rfl, rfl, rfl, trivial⟩) (FL.nil (hT_2' (fun _ => [(3, w), (9, st lines_3'), (15, w_1'), (17, Value.int .i64 i_3'), (173, Value.bool ((((!decide ((ofL lines_3' ((((scanR lines_3').1).getD (i_3').toNat default).2.1)).1 = i_3' + 1)) || (!decide ((ofL lines_3' ((((scanR lines_3').1).getD (i_3').toNat default).2.1)).2 = 1))) || (!decide ((((scanR lines_3').1).getD (i_3').toNat default).1 = (((scanR text).1).getD (i_3').toNat default).1))) || (!decide ((((scanR lines_3').1).getD (i_3').toNat default).2.2 = (((scanR text).1).getD (i_3').toNat default).2.2))))]) (fun _ => ?_)))
                  refine KX.go (hK_100' [(3, w), (9, st lines_3'), (15, w_1'), (17, Value.int .i64 i_3'), (173, Value.bool ((((!decide ((ofL lines_3' ((((scanR lines_3').1).getD (i_3').toNat default).2.1)).1 = i_3' + 1)) || (!decide ((ofL lines_3' ((((scanR lines_3').1).getD (i_3').toNat default).2.1)).2 = 1))) || (!decide ((((scanR lines_3').1).getD (i_3').toNat default).1 = (((scanR text).1).getD (i_3').toNat default).1))) || (!decide ((((scanR lines_3').1).getD (i_3').toNat default).2.2 = (((scanR text).1).getD (i_3').toNat default).2.2))))] _ ?_) ⟨rfl, rfl, rfl, rfl, rfl, trivial⟩
                  refine wc_cond (b := (((!decide ((ofL lines_3' ((((scanR lines_3').1).getD (i_3').toNat default).2.1)).1 = i_3' + 1)) || (!decide ((ofL lines_3' ((((scanR lines_3').1).getD (i_3').toNat default).2.1)).2 = 1))) || (!decide ((((scanR lines_3').1).getD (i_3').toNat default).1 = (((scanR text).1).getD (i_3').toNat default).1))) || (!decide ((((scanR lines_3').1).getD (i_3').toNat default).2.2 = (((scanR text).1).getD (i_3').toNat default).2.2))) rfl (fun hb => ?_) (fun hb => ?_)
                  · replace h := if_T h hb
                    refine wc_seq (fun K0_104' hK_104' => ?_)
                    refine wc_region ?_
                    refine WL.val (OV.assign rfl) rfl rfl rfl ?_
                    refine WL.nil ?_
                    refine KX.go (hK_104' [(2, Value.bool false)] _ ?_) ⟨rfl, trivial⟩
                    refine wc_ret ?_
                    exact hE.ret [] rfl rfl (.inl ⟨_, h, rfl⟩) (ResV.of1 rfl (RV.tmp rfl))
                  · replace h := if_F h hb
                    refine wc_skip ?_
                    refine KX.go (hK_98' [(3, w), (9, st lines_3'), (15, w_1'), (17, Value.int .i64 i_3')] _ ?_) ⟨rfl, rfl, rfl, rfl, trivial⟩
                    refine wc_region ?_
                    refine WL.val (OV.move rfl) rfl rfl rfl ?_
                    obtain ⟨o_105', h⟩ := h
                    refine WL.val (OV.add rfl rfl o_105') rfl rfl rfl ?_
                    refine WL.val (OV.assign rfl) rfl rfl rfl ?_
                    refine WL.nil ?_
                    exact KX.goH (hK_95' (i_3' + 1) h.1 h.2) ⟨rfl, rfl, rfl, rfl, trivial⟩ [0, 1] rfl rfl
                · replace h := if_F h hb
                  refine wc_exit ?_
                  refine KX.go (hK_75' [] _ ?_) trivial
                  refine wc_seq (fun K0_105' hK_105' => ?_)
                  refine wc_region ?_
                  refine WL.val (OV.assign rfl) rfl rfl rfl ?_
                  refine WL.nil ?_
                  refine KX.go (hK_105' [(2, Value.bool true)] _ ?_) ⟨rfl, trivial⟩
                  refine wc_ret ?_
                  exact hE.ret [] rfl rfl (.inl ⟨_, h, rfl⟩) (ResV.of1 rfl (RV.tmp rfl))
            · obtain ⟨w_1', ho⟩ := hS
              cases ho
    · obtain ⟨w, ho⟩ := hS
      cases ho

theorem lines_len : ∀ (ks : List Tok), (∀ k ∈ ks, k.2.2.length ≤ 4096) → (linesL ks).length ≤ ks.length * 16388
  | [], _ => by simp [linesL]
  | k :: ks, h => by
    have h1 := showTok_len k
    have h2 := lines_len ks fun x hx => h x (by simp [hx])
    have h3 := h k (by simp)
    unfold linesL at h2 ⊢
    have h4 : (lineT k).length = (showTok k).length + 1 := by unfold lineT; simp
    rw [List.flatMap_cons, List.length_append, List.length_cons, Nat.add_mul, h4]; omega
theorem lines_next {ks : List Tok} {i : Nat} (h : i < ks.length) : linesL (ks.take (i + 1)) = linesL (ks.take i) ++ lineT ks[i] := by
  unfold linesL
  rw [List.take_add_one, List.flatMap_append, List.getElem?_eq_getElem h]; simp
theorem scan_goods {t : List UInt8} (h : (scanR t).2.1 = 0) : t.length ≤ 4096 ∧ (∀ k ∈ (scanR t).1, 0 ≤ k.2.1 ∧ k.2.1 ≤ t.length) ∧ ∃ ks : List Tok, (scanR t).1 = ks ++ [((0, (t.length : Int), []) : Tok)] ∧ ∀ k ∈ ks, Good k ∧ k.2.2.length ≤ t.length := by
  have hl : t.length ≤ 4096 := by
    rcases Nat.lt_or_ge 4096 t.length with h4 | h4
    · have h1 := h
      unfold scanR at h1
      rw [if_pos h4] at h1; simp at h1
    · exact h4
  have hok := scanR_ok h hl
  have hg := gapM_bd (t := t) (a := 0) ⟨by omega, by omega⟩
  exact ⟨hl, (scanF_tail hg.1 hg.2 hok (by simp)).2, scanF_good hg.1 hg.2 hok (by simp)⟩
theorem scan_none {t : List UInt8} (h : ¬ ((scanR t).2.1 = 0 ∧ (scanR t).2.2 = 0)) : (scanR t).1 = [] := by
  unfold scanR at h ⊢
  split
  · rfl
  · rename_i h4
    rw [if_neg h4] at h
    split
    · rename_i l hl
      rw [hl] at h; simp at h
    · rfl
theorem lead_say : sayL [97, 10, 62] 50 2 [] = [50, 58, 49, 58, 32, 110, 111, 32, 116, 111, 107, 101, 110] := by
  have h1 : ofL [97, 10, 62] 2 = (2, 1) := rfl
  have h2 : pnameL 50 = [110, 111, 32, 116, 111, 107, 101, 110] := rfl
  have h3 : Lib.itoa 2 = [50] := by
    unfold Lib.itoa
    rw [if_neg (by decide), show (2 : Int).toNat = 2 from rfl, small_digits 2 (by decide)]; rfl
  have h4 : Lib.itoa 1 = [49] := by
    unfold Lib.itoa
    rw [if_neg (by decide), show (1 : Int).toNat = 1 from rfl, small_digits 1 (by decide)]; rfl
  unfold sayL
  rw [if_neg (by simp [shownB])]
  unfold sayHead
  rw [h1, h2]
  simp only [h3, h4]; rfl
theorem back_at {t : List UInt8} {a : Int} (h : 0 ≤ a ∧ a ≤ t.length) : offL t (ofL t a).1 (ofL t a).2 = (a, true) := by
  rw [ofL_at h, off_back (by omega)]
  simp only [Prod.mk.injEq, and_true]; omega
theorem of_i64 {t : List UInt8} {a : Int} (ht : t.length ≤ 140737488351232) : I64 (ofL t a).1 ∧ I64 (ofL t a).2 := by
  have := ofL_bd t a
  exact ⟨⟨by omega, by omega⟩, ⟨by omega, by omega⟩⟩
theorem placed_does (te : TypeId) (fre : Nat × Nat) (t : List UInt8) (h : t.length ≤ 140737488351232) : Does Tryd.prog 3 [st t] [(1, .cells powCells.toArray te fre)] [] (Ret (.bool true) []) := by
  refine (lplaced_wp te fre t (fun r => r = true) ?_).weak (by rintro o (⟨v, rfl, rfl⟩ | h) <;> first | rfl | exact h.elim)
  unfold lplaced_vc
  refine ⟨⟨by decide, ⟨by decide, by decide⟩, ⟨by decide, by decide⟩, by decide⟩, ?_⟩
  rw [lead_say, if_neg (by simp)]
  by_cases h1 : (scanR t).2.1 = 0 ∧ (scanR t).2.2 = 0
  · rw [if_neg (by simp [andAll, h1.1, h1.2])]
    obtain ⟨hl, hat, ks, hks, hg⟩ := scan_goods h1.1
    rw [hks] at hat ⊢
    have hn : ks.length ≤ 4096 := by
      have := scanR_len t
      rw [hks, List.length_append] at this; simp only [List.length_cons, List.length_nil] at this; omega
    have hlen : ((ks ++ [((0, (t.length : Int), []) : Tok)]).length : Int) = ks.length + 1 := by simp
    have hgood : ∀ k ∈ ks, Good k := fun k hk => (hg k hk).1
    have hbd : ∀ (i : Nat), (linesL (ks.take i)).length ≤ 4096 * 16388 := fun i => by
      have h2 := lines_len (ks.take i) fun k hk => by have := (hg k (List.mem_of_mem_take hk)).2; omega
      have h3 : (ks.take i).length ≤ 4096 := by rw [List.length_take]; omega
      exact Nat.le_trans h2 (Nat.mul_le_mul_right _ h3)
    refine ⟨fun lines i => 0 ≤ i ∧ i ≤ (ks.length : Int) + 1 ∧ lines = linesL (ks.take i.toNat), fun _ i => ((ks.length : Int) + 1 - i).toNat, ⟨by omega, by omega, rfl⟩, fun lines i ⟨i0, i1, hi⟩ => ?_⟩
    rw [hlen]
    by_cases hlt : i < (ks.length : Int) + 1
    · rw [if_pos (by simpa using hlt)]
      have hmem : (ks ++ [((0, (t.length : Int), []) : Tok)]).getD i.toNat default ∈ ks ++ [((0, (t.length : Int), []) : Tok)] := by
        rw [List.getD_eq_getElem?_getD, List.getElem?_eq_getElem (by omega)]; exact List.getElem_mem _
      have hb := back_at (hat _ hmem)
      have hofb := of_i64 (a := ((ks ++ [((0, (t.length : Int), []) : Tok)]).getD i.toNat default).2.1) h
      refine ⟨fun l2 => l2 = linesL (ks.take (i + 1).toNat), fun l2 h2 => ⟨⟨by omega, by omega⟩, ⟨by omega, by omega, h2⟩, by show ((ks.length : Int) + 1 - (i + 1)).toNat < ((ks.length : Int) + 1 - i).toNat; omega⟩, ⟨i0, hlt⟩, h, ⟨h, hofb⟩, fun _ => ⟨i0, hlt⟩, ?_⟩
      rw [hb, if_neg (by simp)]
      refine ⟨⟨by omega, by omega⟩, ?_⟩
      by_cases hlast : i < (ks.length : Int) + 1 - 1
      · rw [if_pos (by simpa using hlast)]
        have hin : i.toNat < ks.length := by omega
        have hone : ((ks ++ [((0, (t.length : Int), []) : Tok)]).drop i.toNat).take ((i + 1).toNat - i.toNat) = [ks[i.toNat]] := by
          rw [show (i + 1).toNat - i.toNat = 1 by omega, List.drop_append_of_le_length (by omega), List.drop_eq_getElem_cons hin]; rfl
        have hone2 : showL [ks[i.toNat]] ++ ([10] : List UInt8) = lineT ks[i.toNat] := by unfold showL lineT; simp
        have hk := hg _ (List.getElem_mem hin)
        have hsl := showTok_len ks[i.toNat]
        have hl1 : (showL [ks[i.toNat]]).length ≤ 4 * 4096 + 3 := by
          unfold showL; simp only [List.flatMap_cons, List.flatMap_nil, List.append_nil]; omega
        have hl2 := hbd i.toNat
        have hl3 := hbd (i + 1).toNat
        have hnext : lines ++ lineT ks[i.toNat] = linesL (ks.take (i + 1).toNat) := by
          rw [hi, show (i + 1).toNat = i.toNat + 1 by omega, lines_next hin]
        have hl4 := congrArg List.length hnext
        rw [List.length_append] at hl4
        rw [hone, hone2, hnext]
        refine ⟨⟨by omega, by omega⟩, ⟨i0, by omega, by omega⟩, ⟨by simp, fun x hx => ?_⟩, by simp only [List.length_cons, List.length_nil]; omega, by omega, rfl⟩
        rw [List.mem_singleton.1 hx]; omega
      · rw [if_neg (by simpa using hlast)]
        rw [hi, List.take_of_length_le (by omega), List.take_of_length_le (by omega)]
    · rw [if_neg (by simpa using hlt)]
      have hlines : lines = linesL ks := by rw [hi, List.take_of_length_le (by omega)]
      subst hlines
      by_cases h4 : 4096 < (linesL ks).length
      · rw [if_pos (by simp; omega)]
      · rw [if_neg (by simp; omega), scan_lines hgood (by omega)]
        simp only
        have hlen2 : ((placed 0 ks ++ [((0, ((linesL ks).length : Int), []) : Tok)]).length : Int) = ks.length + 1 := by simp [placed_len]
        rw [hlen2, if_neg (by simp [andAll])]
        refine ⟨fun i => 0 ≤ i ∧ i ≤ ks.length, fun i => ((ks.length : Int) - i).toNat, ⟨by omega, by omega⟩, fun j ⟨j0, j1⟩ => ⟨⟨by omega, by omega⟩, ?_⟩⟩
        by_cases hj : j < (ks.length : Int) + 1 - 1
        · rw [if_pos (by simpa using hj)]
          have hin : j.toNat < ks.length := by omega
          have e1 : (placed 0 ks ++ [((0, ((linesL ks).length : Int), []) : Tok)]).getD j.toNat default = (ks[j.toNat].1, (((linesL (ks.take j.toNat)).length : Nat) : Int), ks[j.toNat].2.2) := by
            rw [List.getD_eq_getElem?_getD, List.getElem?_append_left (by rw [placed_len]; exact hin), placed_at ks 0 j.toNat ks[j.toNat] (List.getElem?_eq_getElem hin)]
            simp
          have e2 : (ks ++ [((0, (t.length : Int), []) : Tok)]).getD j.toNat default = ks[j.toNat] := by
            rw [List.getD_eq_getElem?_getD, List.getElem?_append_left hin, List.getElem?_eq_getElem hin]; rfl
          have hle : (linesL (ks.take j.toNat)).length ≤ (linesL ks).length := by
            have : linesL ks = linesL (ks.take j.toNat) ++ linesL (ks.drop j.toNat) := by unfold linesL; rw [← List.flatMap_append, List.take_append_drop]
            rw [this, List.length_append]; omega
          have e3 : ofL (linesL ks) (((linesL (ks.take j.toNat)).length : Nat) : Int) = (j + 1, 1) := by
            rw [ofL_at ⟨by omega, by omega⟩, Int.toNat_natCast, pos_line hgood j.toNat (by omega)]
            simp only [Prod.mk.injEq, and_true]; omega
          rw [e1, e2]
          simp only [e3]
          refine ⟨⟨j0, by omega⟩, by omega, ⟨by omega, by omega⟩, fun _ => ⟨⟨j0, by omega⟩, ⟨j0, by omega⟩⟩, fun _ => ⟨⟨j0, by omega⟩, ⟨j0, by omega⟩⟩, ?_⟩
          rw [if_neg (by simp)]
          exact ⟨⟨by omega, by omega⟩, ⟨by omega, by omega⟩, by show ((ks.length : Int) - (j + 1)).toNat < ((ks.length : Int) - j).toNat; omega⟩
        · rw [if_neg (by simpa using hj)]; trivial
  · rw [if_pos (by
      simp only [andAll, Bool.not_eq_true', Bool.and_eq_false_iff, decide_eq_false_iff_not]
      by_cases c1 : (scanR t).2.1 = 0
      · exact .inr (.inl fun c2 => h1 ⟨c1, c2⟩)
      · exact .inl c1)]
    have hb := back_at (scanR_eat t)
    rw [hb, scan_none h1]
    exact ⟨h, ⟨h, of_i64 h⟩, by simp⟩

end Go.Proofs.YtlfolgbaageknaaDoor
