/-
  TokenThereAndBack.
-/
import Derived.Test.YtiaafdjdppganaaTkW
namespace Go.Proofs.Ytiaafdjdppganaa
open Go Go.RowKit

theorem tf_ent_15 : entB Try.prog 15 = true := by kernel_rfl

def nmB (c : UInt8) : Bool := letterB (c.toNat : Int) || digitB (c.toNat : Int)
/-- What may stand between two slashes. -/
inductive Rx : List UInt8 → Prop
  | nil : Rx []
  | esc (d : UInt8) (r : List UInt8) : printB (d.toNat : Int) = true → Rx r → Rx (92 :: d :: r)
  | one (c : UInt8) (r : List UInt8) : printB (c.toNat : Int) = true → c ≠ 47 → c ≠ 92 → Rx r → Rx (c :: r)
def Good (k : Tok) : Prop :=
  (k.1 = 1 ∧ (∃ c r, k.2.2 = c :: r ∧ letterB (c.toNat : Int) = true) ∧ (∀ c ∈ k.2.2, nmB c = true) ∧ k.2.2.length ≤ 32) ∨ k.1 = 2 ∨ (k.1 = 3 ∧ Rx k.2.2) ∨
  (k.1 = 4 ∧ ((∃ c, k.2.2 = [c] ∧ marksL.contains c = true) ∨ k.2.2 = [62, 62]))
theorem bt_toNat {t : List UInt8} {p : Int} {x : UInt8} (h : bt t p = (x.toNat : Int)) : (bt t p).toNat.toUInt8 = x := by rw [h]; simp
theorem cut_cons {t : List UInt8} {i j : Int} (h : 0 ≤ i ∧ i < j ∧ j ≤ t.length) : ∃ x : UInt8, bt t i = (x.toNat : Int) ∧ cut t i j = x :: cut t (i + 1) j := by
  obtain ⟨x, hx, hb⟩ := drop_bt (t := t) (p := i) ⟨h.1, by omega⟩
  refine ⟨x, hb, ?_⟩
  unfold cut
  rw [hx, show j.toNat - i.toNat = (j.toNat - (i + 1).toNat) + 1 by omega, List.take_succ_cons]
theorem cut_nil (t : List UInt8) (i : Int) : cut t i i = [] := by unfold cut; simp
theorem cut_len {t : List UInt8} {i j : Int} : (cut t i j).length ≤ t.length := by
  unfold cut; rw [List.length_take, List.length_drop]; omega
theorem regexF_good {t : List UInt8} {fr : Int} : ∀ {n : Nat} {k : Int} {x : List UInt8} {q : Int}, 0 ≤ k → regexF t fr n k = .ok (x, q) → x = cut t (fr + 1) (q - 1) ∧ Rx (cut t k (q - 1))
  | 0, _, _, _, _, h => by cases h
  | n + 1, k, x, q, h0, h => by
    have hq := regexF_ok h
    rw [regexF] at h
    split at h
    · rename_i hk
      split at h
      · rename_i h9
        split at h
        · cases h
        · rename_i hp
          have h1 := regexF_ok h
          have h2 := regexF_good (by omega) h
          refine ⟨h2.1, ?_⟩
          obtain ⟨c, c1, c2⟩ := cut_cons (t := t) (i := k) (j := q - 1) ⟨h0, by omega, by omega⟩
          obtain ⟨d, d1, d2⟩ := cut_cons (t := t) (i := k + 1) (j := q - 1) ⟨by omega, by omega, by omega⟩
          have hc : c = 92 := UInt8.toNat_inj.1 (by have := h9.1; rw [c1] at this; exact Int.ofNat.inj this)
          rw [c2, d2, hc, show k + 1 + 1 = k + 2 by omega]
          refine .esc d _ ?_ h2.2
          rw [d1] at hp; simpa using hp
      · rename_i h9
        split at h
        · cases h
        · rename_i hp
          split at h
          · simp only [Except.ok.injEq, Prod.mk.injEq] at h
            obtain ⟨rfl, rfl⟩ := h
            rw [show k + 1 - 1 = k by omega, cut_nil]
            exact ⟨rfl, .nil⟩
          · rename_i h47
            have h1 := regexF_ok h
            have h2 := regexF_good (by omega) h
            refine ⟨h2.1, ?_⟩
            obtain ⟨c, c1, c2⟩ := cut_cons (t := t) (i := k) (j := q - 1) ⟨h0, by omega, by omega⟩
            rw [c2]
            rw [c1] at hp h47 h9
            refine .one c _ (by simpa using hp) (fun e => h47 (by rw [e]; rfl)) (fun e => h9 ⟨by rw [e]; rfl, by omega⟩) h2.2
    · cases h
theorem quotedF_size {t : List UInt8} {fr : Int} : ∀ {n : Nat} {out : List UInt8} {k : Int} {x : List UInt8} {q : Int}, quotedF t fr n out k = .ok (x, q) → (x.length : Int) ≤ out.length + (q - k)
  | 0, _, _, _, _, h => by cases h
  | n + 1, out, k, x, q, h => by
    have hq := quotedF_ok h
    rw [quotedF] at h
    split at h
    · split at h
      · simp only [Except.ok.injEq, Prod.mk.injEq] at h
        obtain ⟨rfl, rfl⟩ := h; omega
      · split at h
        · cases h
        · split at h
          · have := quotedF_size h
            rw [List.length_append] at this; simp only [List.length_cons, List.length_nil] at this; omega
          · split at h
            · cases h
            · split at h
              · cases h
              · have h1 := quotedF_size h
                have h2 := (escM_q (t := t) (a := k) (b := (escM t k).1) (ok := (escM t k).2.1) (q := (escM t k).2.2) rfl).1
                rw [List.length_append] at h1; simp only [List.length_cons, List.length_nil] at h1; omega
    · cases h
theorem nameL_all : ∀ l : List UInt8, ∀ c ∈ l.take (nameL l), nmB c = true
  | [], c, h => by simp at h
  | d :: l, c, h => by
    rw [nameL] at h
    split at h
    · rename_i hd
      rw [Nat.add_comm, List.take_succ_cons] at h
      rcases List.mem_cons.1 h with rfl | h
      · exact hd
      · exact nameL_all l c h
    · simp at h
theorem nameL_back : ∀ (w r : List UInt8), (∀ c ∈ w, nmB c = true) → nameL (w ++ 32 :: r) = w.length
  | [], r, _ => by rw [List.nil_append, nameL]; rfl
  | c :: w, r, h => by
    have hc : nmB c = true := h c (by simp)
    unfold nmB at hc
    rw [List.cons_append, nameL, if_pos hc, nameL_back w r fun d hd => h d (by simp [hd]), List.length_cons]; omega
theorem oneM_good {t : List UInt8} {a : Int} (hb : 0 ≤ a ∧ a < t.length) {k : Tok} {q : Int} (h : oneM t a = .ok (k, q)) : Good k ∧ k.2.2.length ≤ t.length := by
  have hq := oneM_ok hb h
  unfold oneM at h
  split at h
  · rename_i hl
    split at h
    · cases h
    · rename_i h32
      simp only [Except.ok.injEq, Prod.mk.injEq] at h
      obtain ⟨rfl, rfl⟩ := h
      refine ⟨.inl ⟨rfl, ?_, ?_, ?_⟩, cut_len⟩
      · obtain ⟨c, c1, c2⟩ := cut_cons (t := t) (i := a) (j := a + nameL (t.drop a.toNat)) ⟨hb.1, by omega, hq.2⟩
        exact ⟨c, _, c2, by rw [← c1]; exact hl⟩
      · intro c hc
        refine nameL_all (t.drop a.toNat) c ?_
        have : cut t a (a + nameL (t.drop a.toNat)) = (t.drop a.toNat).take (nameL (t.drop a.toNat)) := by
          unfold cut; congr 1; omega
        rw [← this]; exact hc
      · show (cut _ _ _).length ≤ 32
        unfold cut; rw [List.length_take]; omega
  · split at h
    · unfold quotedM at h
      split at h
      · rename_i he
        have h1 := quotedF_size he
        have h2 := quotedF_ok he
        simp only [Except.ok.injEq, Prod.mk.injEq] at h
        obtain ⟨rfl, rfl⟩ := h
        refine ⟨.inr (.inl rfl), ?_⟩
        simp only [List.length_nil] at h1
        dsimp only
        omega
      · cases h
    · split at h
      · unfold regexM at h
        split at h
        · rename_i he
          have h1 := regexF_good (by omega) he
          have h2 := regexF_ok he
          simp only [Except.ok.injEq, Prod.mk.injEq] at h
          obtain ⟨rfl, rfl⟩ := h
          refine ⟨.inr (.inr (.inl ⟨rfl, ?_⟩)), ?_⟩
          · show Rx _
            rw [h1.1]; exact h1.2
          · show List.length _ ≤ _
            rw [h1.1]; exact cut_len
        · cases h
      · split at h
        · rename_i hm
          simp only [Except.ok.injEq, Prod.mk.injEq] at h
          obtain ⟨rfl, rfl⟩ := h
          obtain ⟨c, c1, c2⟩ := cut_cons (t := t) (i := a) (j := a + 1) ⟨hb.1, by omega, by omega⟩
          refine ⟨.inr (.inr (.inr ⟨rfl, .inl ⟨c, ?_, ?_⟩⟩)), cut_len⟩
          · show cut t a (a + 1) = [c]
            rw [c2, cut_nil]
          · rw [bt_toNat c1] at hm; exact hm
        · split at h
          · rename_i h62
            simp only [Except.ok.injEq, Prod.mk.injEq] at h
            obtain ⟨rfl, rfl⟩ := h
            exact ⟨.inr (.inr (.inr ⟨rfl, .inr rfl⟩)), by show 2 ≤ t.length; omega⟩
          · cases h
theorem scanF_good {t : List UInt8} : ∀ {n : Nat} {l l' : List Tok} {a : Int}, 0 ≤ a → a ≤ t.length → scanF t n l a = .ok l' → (∀ k ∈ l, Good k ∧ k.2.2.length ≤ t.length) → ∃ ks, l' = ks ++ [((0, (t.length : Int), []) : Tok)] ∧ ∀ k ∈ ks, Good k ∧ k.2.2.length ≤ t.length
  | 0, _, _, _, _, _, h, _ => by cases h
  | n + 1, l, l', a, h0, h1, h, hl => by
    rw [scanF] at h
    split at h
    · rename_i ha
      split at h
      · rename_i k q ho
        have hq := oneM_ok ⟨h0, ha⟩ ho
        have hg := gapM_bd (t := t) (a := q) ⟨by omega, hq.2⟩
        have hk := oneM_good ⟨h0, ha⟩ ho
        exact scanF_good (by omega) hg.2 h fun x hx => by
          rcases List.mem_append.1 hx with hx | hx
          · exact hl x hx
          · rw [List.mem_singleton.1 hx]; exact hk
      · cases h
    · simp only [Except.ok.injEq] at h
      exact ⟨l, h.symm, hl⟩

/-! ### back -/
theorem regexF_back {u : List UInt8} {fr : Int} {r : List UInt8} : ∀ {x : List UInt8}, Rx x → ∀ (n p : Nat), u.drop p = x ++ 47 :: r → x.length < n → regexF u fr n (p : Int) = .ok (cut u (fr + 1) ((p + x.length : Nat) : Int), ((p + x.length + 1 : Nat) : Int)) := by
  intro x hx
  induction hx with
  | nil =>
    intro n p h hn
    obtain ⟨n, rfl⟩ : ∃ m, n = m + 1 := ⟨n - 1, by simp only [List.length_nil] at hn; omega⟩
    obtain ⟨h1, h2, _⟩ := at_bt (v := r) h
    rw [regexF, if_pos h1, if_neg (by rw [h2]; simp), if_neg (by rw [h2]; decide), if_pos (by rw [h2]; rfl)]; rfl
  | esc d w hd hw ih =>
    intro n p h hn
    obtain ⟨n, rfl⟩ : ∃ m, n = m + 1 := ⟨n - 1, by simp only [List.length_cons] at hn; omega⟩
    obtain ⟨h1, h2, h3⟩ := at_bt (v := d :: w ++ 47 :: r) h
    obtain ⟨g1, g2, g3⟩ := at_bt (v := w ++ 47 :: r) h3
    rw [regexF, if_pos h1, if_pos ⟨by rw [h2]; rfl, by omega⟩, show (p : Int) + 1 = ((p + 1 : Nat) : Int) by omega, g2, if_neg (by rw [hd]; simp), show (p : Int) + 2 = ((p + 1 + 1 : Nat) : Int) by omega, ih n (p + 1 + 1) g3 (by simp only [List.length_cons] at hn; omega)]
    simp only [List.length_cons]
    rw [show p + 1 + 1 + w.length = p + (w.length + 1 + 1) by omega]
  | one c w hc h47 h92 hw ih =>
    intro n p h hn
    obtain ⟨n, rfl⟩ : ∃ m, n = m + 1 := ⟨n - 1, by simp only [List.length_cons] at hn; omega⟩
    obtain ⟨h1, h2, h3⟩ := at_bt (v := w ++ 47 :: r) h
    rw [regexF, if_pos h1, if_neg (fun e => h92 (UInt8.toNat_inj.1 (by have := e.1; rw [h2] at this; exact Int.ofNat.inj this))), h2, if_neg (by rw [hc]; simp), if_neg (fun e : (c.toNat : Int) = 47 => h47 (UInt8.toNat_inj.1 (by show c.toNat = 47; omega))), show (p : Int) + 1 = ((p + 1 : Nat) : Int) by omega, ih n (p + 1) h3 (by simp only [List.length_cons] at hn; omega)]
    simp only [List.length_cons]
    rw [show p + 1 + w.length = p + (w.length + 1) by omega]
theorem cut_at {u x r : List UInt8} {p : Nat} (h : u.drop p = x ++ r) : cut u (p : Int) ((p + x.length : Nat) : Int) = x := by
  unfold cut
  rw [Int.toNat_natCast, Int.toNat_natCast, h, show p + x.length - p = x.length by omega, List.take_left]
theorem drop_len {u x r : List UInt8} {p : Nat} (h : u.drop p = x ++ r) (hx : x ≠ []) : p + x.length + r.length = u.length := by
  have := congrArg List.length h
  rw [List.length_drop, List.length_append] at this
  have : 0 < x.length := by cases x <;> simp_all
  omega
/-- A token's text without the blank behind. -/
def bare (k : Tok) : List UInt8 := if k.1 = 2 then quoteL k.2.2 else if k.1 = 3 then [47] ++ k.2.2 ++ [47] else k.2.2
theorem show_bare {k : Tok} (h : Good k) : showTok k = bare k ++ [32] := by
  unfold showTok bare
  rcases h with h | h | h | h
  · rw [if_pos (.inl h.1), if_neg (by omega), if_neg (by omega)]
  · rw [if_neg (by omega), if_pos h, if_pos h]
  · rw [if_neg (by omega), if_neg (by omega), if_pos h.1, if_neg (by omega), if_pos h.1]; simp
  · rw [if_pos (.inr h.1), if_neg (by omega), if_neg (by omega)]
theorem qbs_ge : ∀ s : List UInt8, s.length ≤ (s.flatMap qb).length
  | [] => by simp
  | c :: s => by
    have : 1 ≤ (qb c).length := by
      unfold qb
      repeat' split
      all_goals simp
    have := qbs_ge s
    rw [List.flatMap_cons, List.length_append, List.length_cons]; omega
theorem marks_not : ∀ c ∈ marksL, letterB (c.toNat : Int) = false ∧ c ≠ 34 ∧ c ≠ 47 ∧ c ≠ 35 ∧ c ≠ 10 ∧ c ≠ 32 ∧ c ≠ 9 ∧ c ≠ 13 := by decide
theorem letter_not {c : UInt8} (h : letterB (c.toNat : Int) = true) : c ≠ 35 ∧ c ≠ 10 ∧ c ≠ 32 ∧ c ≠ 9 ∧ c ≠ 13 := by
  refine ⟨?_, ?_, ?_, ?_, ?_⟩ <;> rintro rfl <;> exact absurd h (by decide)
/-- What a good token begins with is neither blank nor comment. -/
theorem good_head {k : Tok} (h : Good k) : ∃ c r, bare k = c :: r ∧ c ≠ 35 ∧ c ≠ 10 ∧ c ≠ 32 ∧ c ≠ 9 ∧ c ≠ 13 := by
  unfold bare
  rcases h with ⟨h1, ⟨c, r, e, hl⟩, _⟩ | h | ⟨h1, _⟩ | ⟨h1, h2⟩
  · rw [if_neg (by omega), if_neg (by omega)]
    exact ⟨c, r, e, letter_not hl⟩
  · rw [if_pos h]
    exact ⟨34, _, rfl, by decide, by decide, by decide, by decide, by decide⟩
  · rw [if_neg (by omega), if_pos h1]
    exact ⟨47, _, rfl, by decide, by decide, by decide, by decide, by decide⟩
  · rw [if_neg (by omega), if_neg (by omega)]
    rcases h2 with ⟨c, e, hc⟩ | e
    · have := marks_not c (by simpa using hc)
      exact ⟨c, [], e, this.2.2.2⟩
    · exact ⟨62, [62], e, by decide, by decide, by decide, by decide, by decide⟩
theorem oneM_back {u r : List UInt8} {k : Tok} {p : Nat} (hk : Good k) (h : u.drop p = bare k ++ 32 :: r) : oneM u (p : Int) = .ok ((k.1, (p : Int), k.2.2), ((p + (bare k).length : Nat) : Int)) := by
  unfold bare at h ⊢
  rcases hk with ⟨h1, ⟨c, w, e, hl⟩, hall, h32⟩ | h1 | ⟨h1, hrx⟩ | ⟨h1, h2⟩
  · rw [if_neg (by omega), if_neg (by omega)] at h ⊢
    have hd := h
    rw [e] at hd
    obtain ⟨g1, g2, _⟩ := at_bt (v := w ++ 32 :: r) hd
    have hn : nameL (u.drop (p : Int).toNat) = k.2.2.length := by rw [Int.toNat_natCast, h]; exact nameL_back _ _ hall
    unfold oneM
    rw [g2, if_pos hl, hn, if_neg (by omega), show (p : Int) + (k.2.2.length : Int) = ((p + k.2.2.length : Nat) : Int) by omega, cut_at h, h1]
  · rw [if_pos h1] at h ⊢
    have hd : u.drop p = 34 :: (k.2.2.flatMap qb ++ 34 :: 32 :: r) := by rw [h]; unfold quoteL; simp
    obtain ⟨g1, g2, g3⟩ := at_bt hd
    have hlen := drop_len (x := k.2.2.flatMap qb ++ [34]) (r := 32 :: r) (p := p + 1) (by rw [g3]; simp) (by simp)
    have hge := qbs_ge k.2.2
    rw [List.length_append] at hlen
    simp only [List.length_cons, List.length_nil] at hlen
    unfold oneM
    rw [g2, if_neg (by decide), if_pos (by decide)]
    unfold quotedM
    rw [show (p : Int) + 1 = ((p + 1 : Nat) : Int) by omega, quotedF_back (r := 32 :: r) k.2.2 (u.length + 1) (p + 1) [] g3 (by omega)]
    simp only [List.nil_append, h1]
    unfold quoteL
    rw [List.length_append, List.length_append]
    simp only [List.length_cons, List.length_nil]
    rw [show p + 1 + (k.2.2.flatMap qb).length + 1 = p + (0 + 1 + (k.2.2.flatMap qb).length + (0 + 1)) by omega]
  · rw [if_neg (by omega), if_pos h1] at h ⊢
    have hd : u.drop p = 47 :: (k.2.2 ++ 47 :: 32 :: r) := by rw [h]; simp
    obtain ⟨g1, g2, g3⟩ := at_bt hd
    have hlen := drop_len (x := k.2.2 ++ [47]) (r := 32 :: r) (p := p + 1) (by rw [g3]; simp) (by simp)
    rw [List.length_append] at hlen
    simp only [List.length_cons, List.length_nil] at hlen
    unfold oneM
    rw [g2, if_neg (by decide), if_neg (by decide), if_pos (by decide)]
    unfold regexM
    rw [show (p : Int) + 1 = ((p + 1 : Nat) : Int) by omega, regexF_back (r := 32 :: r) hrx (u.length + 1) (p + 1) g3 (by omega)]
    simp only
    rw [show (p : Int) + 1 = ((p + 1 : Nat) : Int) by omega, cut_at g3, h1, List.length_append, List.length_append]
    simp only [List.length_cons, List.length_nil]
    rw [show p + 1 + k.2.2.length + 1 = p + (0 + 1 + k.2.2.length + (0 + 1)) by omega]
  · rw [if_neg (by omega), if_neg (by omega)] at h ⊢
    rcases h2 with ⟨c, e, hc⟩ | e
    · rw [e] at h ⊢
      obtain ⟨g1, g2, g3⟩ := at_bt (v := 32 :: r) h
      obtain ⟨m1, m2, m3, _⟩ := marks_not c (by simpa using hc)
      unfold oneM
      rw [g2, if_neg (by rw [m1]; simp), if_neg (fun x : (c.toNat : Int) = 34 => m2 (UInt8.toNat_inj.1 (by show c.toNat = 34; omega))), if_neg (fun x : (c.toNat : Int) = 47 => m3 (UInt8.toNat_inj.1 (by show c.toNat = 47; omega))), if_pos (by simpa using hc), h1]
      have := cut_at (x := [c]) (r := 32 :: r) h
      simp only [List.length_cons, List.length_nil] at this ⊢
      rw [show (p : Int) + 1 = ((p + (0 + 1) : Nat) : Int) by omega, this]
    · rw [e] at h ⊢
      obtain ⟨g1, g2, g3⟩ := at_bt (v := 62 :: 32 :: r) h
      obtain ⟨f1, f2, f3⟩ := at_bt (v := 32 :: r) g3
      unfold oneM
      rw [show (p : Int) + 1 = ((p + 1 : Nat) : Int) by omega, g2, f2, if_neg (by decide), if_neg (by decide), if_neg (by decide), if_neg (by decide), if_pos ⟨by omega, rfl, rfl⟩, h1]
      rfl
theorem gap_head {u r : List UInt8} {c : UInt8} {p : Nat} (h : u.drop p = c :: r) (hc : c ≠ 35 ∧ c ≠ 10 ∧ c ≠ 32 ∧ c ≠ 9 ∧ c ≠ 13) : gapM u (p : Int) = p := by
  unfold gapM
  rw [Int.toNat_natCast, h, gapL]
  simp [hc]
theorem gap_blank {u r : List UInt8} {p : Nat} (h : u.drop p = 32 :: r) : gapM u (p : Int) = gapM u ((p + 1 : Nat) : Int) := by
  unfold gapM
  obtain ⟨_, _, h3⟩ := at_bt h
  rw [Int.toNat_natCast, Int.toNat_natCast, h, h3, gapL]
  simp; omega
def kt (k : Tok) : Int × List UInt8 := (k.1, k.2.2)
theorem scanF_back {u : List UInt8} : ∀ (ks : List Tok) (n p : Nat) (l : List Tok), (∀ k ∈ ks, Good k) → u.drop p = showL ks → p ≤ u.length → u.length - p < n →
    ∃ l2, l2.map kt = ks.map kt ∧ scanF u n l (gapM u p) = .ok (l ++ l2 ++ [((0, (u.length : Int), []) : Tok)])
  | [], n, p, l, _, h, hp, hn => by
    obtain ⟨n, rfl⟩ : ∃ m, n = m + 1 := ⟨n - 1, by omega⟩
    have hp2 : u.length ≤ p := by
      have := congrArg List.length h
      rw [List.length_drop] at this
      simp [showL] at this; omega
    have hg : gapM u (p : Int) = u.length := by
      unfold gapM; rw [gap_end _ (by omega)]; simp; omega
    refine ⟨[], rfl, ?_⟩
    rw [hg, scanF, if_neg (by omega)]; simp
  | k :: ks, n, p, l, hk, h, hp, hn => by
    obtain ⟨n, rfl⟩ : ∃ m, n = m + 1 := ⟨n - 1, by omega⟩
    have hgk := hk k (by simp)
    have hd : u.drop p = bare k ++ 32 :: showL ks := by
      rw [h]; unfold showL
      rw [List.flatMap_cons, show_bare hgk]; simp
    obtain ⟨c, r, e, hc⟩ := good_head hgk
    have hne : bare k ≠ [] := by rw [e]; simp
    have hlen := drop_len hd hne
    have hpos : 0 < (bare k).length := by rw [e]; simp
    simp only [List.length_cons] at hlen
    have hd2 : u.drop (p + (bare k).length) = 32 :: showL ks := by rw [← List.drop_drop, hd, List.drop_left]
    obtain ⟨_, _, hd3⟩ := at_bt hd2
    obtain ⟨l2, e1, e2⟩ := scanF_back ks n (p + (bare k).length + 1) (l ++ [((k.1, (p : Int), k.2.2) : Tok)]) (fun x hx => hk x (by simp [hx])) hd3 (by omega) (by omega)
    refine ⟨(k.1, (p : Int), k.2.2) :: l2, by simp [e1, kt], ?_⟩
    rw [gap_head (by rw [hd, e]; rfl) hc, scanF, if_pos (by omega), oneM_back hgk hd]
    simp only
    rw [gap_blank hd2, e2]; simp
theorem scan_back {t : List UInt8} (h : (scanR t).2.1 = 0) (hl : t.length ≤ 4096) (hs : (showL (scanR t).1).length ≤ 4096) : ∃ m, scanR (showL (scanR t).1) = (m, 0, 0) ∧ m.map kt = (scanR t).1.map kt := by
  have hg := gapM_bd (t := t) (a := 0) ⟨by omega, by omega⟩
  obtain ⟨ks, e, hk⟩ := scanF_good hg.1 hg.2 (scanR_ok h hl) (fun k hk => by cases hk)
  have hshow : showL (scanR t).1 = showL ks := by
    rw [e]; unfold showL; rw [List.flatMap_append]
    simp [showTok]
  rw [hshow] at hs ⊢
  obtain ⟨l2, e1, e2⟩ := scanF_back (u := showL ks) ks ((showL ks).length + 1) 0 [] (fun k hx => (hk k hx).1) rfl (by omega) (by omega)
  refine ⟨l2 ++ [((0, ((showL ks).length : Int), []) : Tok)], ?_, by rw [e]; simp [e1, kt]⟩
  unfold scanR
  rw [if_neg (by omega)]
  have e2' : scanF (showL ks) ((showL ks).length + 1) [] (gapM (showL ks) 0) = _ := e2
  rw [e2']; simp
theorem showTok_kt {a b : Tok} (h : kt a = kt b) : showTok a = showTok b := by
  simp only [kt, Prod.mk.injEq] at h
  unfold showTok
  rw [h.1, h.2]
theorem showL_kt : ∀ {l m : List Tok}, l.map kt = m.map kt → showL l = showL m
  | [], [], _ => rfl
  | [], _ :: _, h => by simp at h
  | _ :: _, [], h => by simp at h
  | a :: l, b :: m, h => by
    simp only [List.map_cons, List.cons.injEq] at h
    have := showL_kt h.2
    unfold showL at this ⊢
    rw [List.flatMap_cons, List.flatMap_cons, showTok_kt h.1, this]
theorem scan_bd (t : List UInt8) : ShowBd (scanR t).1 := by
  have hl := scanR_len t
  refine ⟨by omega, ?_⟩
  by_cases h4 : 4096 < t.length
  · have : (scanR t).1 = [] := by unfold scanR; rw [if_pos h4]
    rw [this]; intro x hx; cases hx
  · by_cases h : (scanR t).2.1 = 0
    · have hg := gapM_bd (t := t) (a := 0) ⟨by omega, by omega⟩
      obtain ⟨ks, e, hk⟩ := scanF_good hg.1 hg.2 (scanR_ok h (by omega)) (fun k hk => by cases hk)
      rw [e]
      intro x hx
      rcases List.mem_append.1 hx with hx | hx
      · have := (hk x hx).2; omega
      · rw [List.mem_singleton.1 hx]; simp
    · have : (scanR t).1 = [] := by
        unfold scanR at h ⊢
        rw [if_neg h4] at h ⊢
        split at h
        · simp at h
        · rfl
      rw [this]; intro x hx; cases hx

def lback_vc (text : List UInt8) (K : Bool → Prop) : Prop :=
  (
    (if (!andAll [decide ((scanR text).2.1 = 0), decide ((scanR text).2.2 = 0), decide (([] : List UInt8) = [])]) = true then
      K true
    else
      (ShowBd ((scanR text).1)) ∧
      (if (decide (4096 < ((showL ((scanR text).1)).length : Int))) = true then
        K true
      else
        (
          (((!andAll [decide ((scanR (showL ((scanR text).1))).2.1 = 0), decide ((scanR (showL ((scanR text).1))).2.2 = 0), decide (([] : List UInt8) = [])]) || (!decide ((((scanR (showL ((scanR text).1))).1).length : Int) = (((scanR text).1).length : Int)))) = false → (ShowBd ((scanR (showL ((scanR text).1))).1))) ∧
          (if (((!andAll [decide ((scanR (showL ((scanR text).1))).2.1 = 0), decide ((scanR (showL ((scanR text).1))).2.2 = 0), decide (([] : List UInt8) = [])]) || (!decide ((((scanR (showL ((scanR text).1))).1).length : Int) = (((scanR text).1).length : Int)))) || (!decide (showL ((scanR (showL ((scanR text).1))).1) = showL ((scanR text).1)))) = true then
            K false
          else
            ∃ (Inv : Int → Prop) (mu : Int → Nat),
              Inv 0 ∧ ∀ (i_1' : Int), Inv i_1' →
                (if (decide (i_1' < (((scanR text).1).length : Int))) = true then
                  (0 ≤ i_1' ∧ i_1' < (((scanR text).1).length : Int)) ∧
                  (0 ≤ i_1' ∧ i_1' < (((scanR (showL ((scanR text).1))).1).length : Int)) ∧
                  ((!decide ((((scanR text).1).getD (i_1').toNat default).1 = (((scanR (showL ((scanR text).1))).1).getD (i_1').toNat default).1)) = false → (0 ≤ i_1' ∧ i_1' < (((scanR text).1).length : Int)) ∧ (0 ≤ i_1' ∧ i_1' < (((scanR (showL ((scanR text).1))).1).length : Int))) ∧
                  (if ((!decide ((((scanR text).1).getD (i_1').toNat default).1 = (((scanR (showL ((scanR text).1))).1).getD (i_1').toNat default).1)) || (!decide ((((scanR text).1).getD (i_1').toNat default).2.2 = (((scanR (showL ((scanR text).1))).1).getD (i_1').toNat default).2.2))) = true then
                    K false
                  else
                    (I64 (i_1' + 1)) ∧
                    Inv (i_1' + 1) ∧ mu (i_1' + 1) < mu i_1')
                else
                  K true))))))
set_option maxRecDepth 100000 in
theorem lback_wp  (text : List UInt8) (K : Bool → Prop) (h : lback_vc text K) :
    Does Try.prog 8 [st text] [] [] (fun o => (∃ (v : Bool), K v ∧ o = .ret (Value.bool v) []) ∨ (False)) := by
  unfold lback_vc at h
  refine does_of_wc (n := 75) (L0 := [(0, st text)]) Try.func8 rfl rfl rfl rfl (fun w0 M Q hE => ?_)
  refine wc_seq (fun K0 hK => ?_)
  refine wc_region ?_
  refine WL.val (OV.assign rfl) rfl rfl rfl ?_
  refine WL.nil ?_
  refine KX.go (hK [(0, st text)] _ ?_) ⟨rfl, trivial⟩
  refine wc_seq (fun K0_1' hK_1' => ?_)
  refine wc_seq (fun K0_2' hK_2' => ?_)
  refine wc_region ?_
  refine WL.call (A := []) tf_ent_9 rfl (speaks_does) rfl trivial rfl rfl ?_
  refine WL.val (OV.not rfl) rfl rfl rfl ?_
  refine WL.nil ?_
  refine KX.go (hK_2' [(0, st text), (10, Value.bool false)] _ ?_) ⟨rfl, rfl, trivial⟩
  refine wc_condF rfl ?_
  refine wc_skip ?_
  refine KX.go (hK_1' [(0, st text)] _ ?_) ⟨rfl, trivial⟩
  refine wc_seq (fun K0_3' hK_3' => ?_)
  refine wc_region ?_
  refine WL.val (OV.move rfl) rfl rfl rfl ?_
  refine WL.callS tf_ent_11 rfl (scan_does text) rfl trivial rfl rfl (fun r H' hS => ?_) (fun c H' hS => ?_)
  · obtain ⟨w, ho⟩ := hS
    cases ho
    refine WL.val (OV.move rfl) rfl rfl rfl ?_
    refine WL.val (OV.extract 0 rfl rfl) rfl rfl rfl ?_
    refine WL.val (OV.extract 1 rfl rfl) rfl rfl rfl ?_
    refine WL.make (MV.alloc tf_zero_29) rfl rfl rfl (fun b => ?_)
    refine WL.val (OV.assign rfl) rfl rfl rfl ?_
    refine WL.storeW (vs := [Value.int .i64 ((scanR text).2.1), Value.int .i64 ((scanR text).2.2), st []]) 0 rfl rfl rfl rfl rfl tf_size_29 rfl rfl rfl ?_
    refine WL.nil ?_
    refine KX.go (hK_3' [(3, w), (4, Value.pointer (some ⟨b, 0, none⟩))] _ ?_) ⟨rfl, rfl, trivial⟩
    refine wc_seq (fun K0_4' hK_4' => ?_)
    refine wc_seq (fun K0_5' hK_5' => ?_)
    refine wc_region ?_
    refine WL.val (OV.loadR rfl (At.own 0 rfl) tf_row_29) rfl rfl rfl ?_
    refine WL.val (OV.build rfl (cs := [Value.int .i64 0, Value.int .i64 0, st []]) rfl) rfl rfl rfl ?_
    refine WL.val (OV.neqF (rs := [decide ((scanR text).2.1 = 0), decide ((scanR text).2.2 = 0), decide (([] : List UInt8) = [])]) rfl rfl Try.underlying29 tf_stood_29 tf_eqg_29 ⟨rfl, tf_scal_27, ⟨_, _, rfl, rfl, ScalEq.int Try.underlying27⟩, ⟨rfl, tf_scal_3, ⟨_, _, rfl, rfl, ScalEq.int Try.underlying3⟩, ⟨rfl, tf_scal_9, ⟨_, _, rfl, rfl, ScalEq.str Try.underlying9⟩, trivial⟩⟩⟩) rfl rfl rfl ?_
    refine WL.nil ?_
    refine KX.go (hK_5' [(3, w), (18, Value.bool (!andAll [decide ((scanR text).2.1 = 0), decide ((scanR text).2.2 = 0), decide (([] : List UInt8) = [])]))] _ ?_) ⟨rfl, rfl, trivial⟩
    refine wc_cond (b := !andAll [decide ((scanR text).2.1 = 0), decide ((scanR text).2.2 = 0), decide (([] : List UInt8) = [])]) rfl (fun hb => ?_) (fun hb => ?_)
    · replace h := if_T h hb
      refine wc_seq (fun K0_6' hK_6' => ?_)
      refine wc_region ?_
      refine WL.val (OV.assign rfl) rfl rfl rfl ?_
      refine WL.nil ?_
      refine KX.go (hK_6' [(2, Value.bool true)] _ ?_) ⟨rfl, trivial⟩
      refine wc_ret ?_
      exact hE.ret [] rfl rfl (.inl ⟨_, h, rfl⟩) (ResV.of1 rfl (RV.tmp rfl))
    · replace h := if_F h hb
      refine wc_skip ?_
      refine KX.go (hK_4' [(3, w)] _ ?_) ⟨rfl, trivial⟩
      refine wc_seq (fun K0_7' hK_7' => ?_)
      refine wc_region ?_
      refine WL.val (OV.move rfl) rfl rfl rfl ?_
      obtain ⟨o, h⟩ := h
      refine WL.pick (H' := [HA.row w 34 3 ((scanR text).1).length (((scanR text).1).flatMap tokC), HA.blk b (.cells [Value.int .i64 ((scanR text).2.1), Value.int .i64 ((scanR text).2.2), st []].toArray 29 (0, 0))]) [1, 0] rfl rfl ?_
      refine WL.call tf_ent_15 rfl (show_does w ((scanR text).1) o) rfl trivial rfl rfl ?_
      refine WL.val (OV.assign rfl) rfl rfl rfl ?_
      refine WL.nil ?_
      refine KX.go (hK_7' [(3, w), (5, st (showL ((scanR text).1)))] _ ?_) ⟨rfl, rfl, trivial⟩
      refine wc_seq (fun K0_8' hK_8' => ?_)
      refine wc_seq (fun K0_9' hK_9' => ?_)
      refine wc_region ?_
      refine WL.val (OV.move rfl) rfl rfl rfl ?_
      refine WL.val (OV.len rfl tf_str_9) rfl rfl rfl ?_
      refine WL.val (OV.gtr rfl rfl) rfl rfl rfl ?_
      refine WL.nil ?_
      refine KX.go (hK_9' [(3, w), (5, st (showL ((scanR text).1))), (23, Value.bool (decide (4096 < ((showL ((scanR text).1)).length : Int))))] _ ?_) ⟨rfl, rfl, rfl, trivial⟩
      refine wc_cond (b := decide (4096 < ((showL ((scanR text).1)).length : Int))) rfl (fun hb => ?_) (fun hb => ?_)
      · replace h := if_T h hb
        refine wc_seq (fun K0_10' hK_10' => ?_)
        refine wc_region ?_
        refine WL.val (OV.assign rfl) rfl rfl rfl ?_
        refine WL.nil ?_
        refine KX.go (hK_10' [(2, Value.bool true)] _ ?_) ⟨rfl, trivial⟩
        refine wc_ret ?_
        exact hE.ret [] rfl rfl (.inl ⟨_, h, rfl⟩) (ResV.of1 rfl (RV.tmp rfl))
      · replace h := if_F h hb
        refine wc_skip ?_
        refine KX.go (hK_8' [(3, w), (5, st (showL ((scanR text).1)))] _ ?_) ⟨rfl, rfl, trivial⟩
        refine wc_seq (fun K0_11' hK_11' => ?_)
        refine wc_region ?_
        refine WL.val (OV.move rfl) rfl rfl rfl ?_
        refine WL.callS tf_ent_11 rfl (scan_does (showL ((scanR text).1))) rfl trivial rfl rfl (fun r H' hS => ?_) (fun c H' hS => ?_)
        · obtain ⟨w_1', ho⟩ := hS
          cases ho
          refine WL.val (OV.move rfl) rfl rfl rfl ?_
          refine WL.val (OV.extract 0 rfl rfl) rfl rfl rfl ?_
          refine WL.val (OV.extract 1 rfl rfl) rfl rfl rfl ?_
          refine WL.make (MV.alloc tf_zero_29) rfl rfl rfl (fun b_1' => ?_)
          refine WL.val (OV.assign rfl) rfl rfl rfl ?_
          refine WL.storeW (vs := [Value.int .i64 ((scanR (showL ((scanR text).1))).2.1), Value.int .i64 ((scanR (showL ((scanR text).1))).2.2), st []]) 0 rfl rfl rfl rfl rfl tf_size_29 rfl rfl rfl ?_
          refine WL.nil ?_
          refine KX.go (hK_11' [(3, w), (5, st (showL ((scanR text).1))), (6, w_1'), (7, Value.pointer (some ⟨b_1', 0, none⟩))] _ ?_) ⟨rfl, rfl, rfl, rfl, trivial⟩
          refine wc_seq (fun K0_12' hK_12' => ?_)
          refine wc_seq (fun K0_13' hK_13' => ?_)
          refine wc_region ?_
          refine WL.val (OV.loadR rfl (At.own 0 rfl) tf_row_29) rfl rfl rfl ?_
          refine WL.val (OV.build rfl (cs := [Value.int .i64 0, Value.int .i64 0, st []]) rfl) rfl rfl rfl ?_
          refine WL.val (OV.neqF (rs := [decide ((scanR (showL ((scanR text).1))).2.1 = 0), decide ((scanR (showL ((scanR text).1))).2.2 = 0), decide (([] : List UInt8) = [])]) rfl rfl Try.underlying29 tf_stood_29 tf_eqg_29 ⟨rfl, tf_scal_27, ⟨_, _, rfl, rfl, ScalEq.int Try.underlying27⟩, ⟨rfl, tf_scal_3, ⟨_, _, rfl, rfl, ScalEq.int Try.underlying3⟩, ⟨rfl, tf_scal_9, ⟨_, _, rfl, rfl, ScalEq.str Try.underlying9⟩, trivial⟩⟩⟩) rfl rfl rfl ?_
          refine WL.val (OV.move rfl) rfl rfl rfl ?_
          refine WL.cut 6 [(3, w), (5, st (showL ((scanR text).1))), (6, w_1'), (38, Value.bool ((!andAll [decide ((scanR (showL ((scanR text).1))).2.1 = 0), decide ((scanR (showL ((scanR text).1))).2.2 = 0), decide (([] : List UInt8) = [])]) || (!decide ((((scanR (showL ((scanR text).1))).1).length : Int) = (((scanR text).1).length : Int)))))] ?_ (fun K0_14' hK_14' => ?_)
          rotate_left
          · refine WL.split (!andAll [decide ((scanR (showL ((scanR text).1))).2.1 = 0), decide ((scanR (showL ((scanR text).1))).2.2 = 0), decide (([] : List UInt8) = [])]) (fun hb => ?_) (fun hb => ?_)
            · refine WL.set 32 rfl (congrArg Value.bool hb) ?_
              refine WL.skip rfl rfl rfl ?_
              refine WL.skip rfl rfl rfl ?_
              refine WL.skip rfl rfl rfl ?_
              refine WL.skip rfl rfl rfl ?_
              refine WL.skip rfl rfl rfl ?_
              refine WL.val (OV.pickT rfl rfl) rfl rfl rfl ?_
              refine WL.set 38 rfl (oT (v := !decide ((((scanR (showL ((scanR text).1))).1).length : Int) = (((scanR text).1).length : Int))) hb) ?_
              exact WL.end_ (KX.go hK_14' ⟨rfl, rfl, rfl, rfl, trivial⟩)
            · refine WL.set 32 rfl (congrArg Value.bool hb) ?_
              refine WL.val (OV.move rfl) rfl rfl rfl ?_
              refine WL.val (OV.lenRow 1 rfl rfl tf_sl_26) rfl rfl rfl ?_
              refine WL.val (OV.move rfl) rfl rfl rfl ?_
              refine WL.val (OV.lenRow 2 rfl rfl tf_sl_26) rfl rfl rfl ?_
              refine WL.val (OV.neq rfl rfl) rfl rfl rfl ?_
              refine WL.val (OV.pickF rfl rfl) rfl rfl rfl ?_
              refine WL.set 38 rfl (oF (v := !decide ((((scanR (showL ((scanR text).1))).1).length : Int) = (((scanR text).1).length : Int))) hb) ?_
              exact WL.end_ (KX.go hK_14' ⟨rfl, rfl, rfl, rfl, trivial⟩)
          refine WL.val (OV.move rfl) rfl rfl rfl ?_
          obtain ⟨o_3', h⟩ := h
          refine WL.cut 5 [(3, w), (6, w_1'), (44, Value.bool (((!andAll [decide ((scanR (showL ((scanR text).1))).2.1 = 0), decide ((scanR (showL ((scanR text).1))).2.2 = 0), decide (([] : List UInt8) = [])]) || (!decide ((((scanR (showL ((scanR text).1))).1).length : Int) = (((scanR text).1).length : Int)))) || (!decide (showL ((scanR (showL ((scanR text).1))).1) = showL ((scanR text).1)))))] ?_ (fun K0_15' hK_15' => ?_)
          rotate_left
          · refine WL.split ((!andAll [decide ((scanR (showL ((scanR text).1))).2.1 = 0), decide ((scanR (showL ((scanR text).1))).2.2 = 0), decide (([] : List UInt8) = [])]) || (!decide ((((scanR (showL ((scanR text).1))).1).length : Int) = (((scanR text).1).length : Int)))) (fun hb => ?_) (fun hb => ?_)
            · refine WL.set 39 rfl (congrArg Value.bool hb) ?_
              refine WL.skip rfl rfl rfl ?_
              refine WL.skip rfl rfl rfl ?_
              refine WL.skip rfl rfl rfl ?_
              refine WL.skip rfl rfl rfl ?_
              refine WL.val (OV.pickT rfl rfl) rfl rfl rfl ?_
              refine WL.set 44 rfl (oT (v := !decide (showL ((scanR (showL ((scanR text).1))).1) = showL ((scanR text).1))) hb) ?_
              exact WL.end_ (KX.go hK_15' ⟨rfl, rfl, rfl, trivial⟩)
            · have o_2' := o_3' hb
              refine WL.set 39 rfl (congrArg Value.bool hb) ?_
              refine WL.val (OV.move rfl) rfl rfl rfl ?_
              refine WL.pick (H' := [HA.row w_1' 34 3 ((scanR (showL ((scanR text).1))).1).length (((scanR (showL ((scanR text).1))).1).flatMap tokC), HA.blk b_1' (.cells [Value.int .i64 ((scanR (showL ((scanR text).1))).2.1), Value.int .i64 ((scanR (showL ((scanR text).1))).2.2), st []].toArray 29 (0, 0)), HA.row w 34 3 ((scanR text).1).length (((scanR text).1).flatMap tokC), HA.blk b (.cells [Value.int .i64 ((scanR text).2.1), Value.int .i64 ((scanR text).2.2), st []].toArray 29 (0, 0))]) [1, 0, 2, 3] rfl rfl ?_
              refine WL.call tf_ent_15 rfl (show_does w_1' ((scanR (showL ((scanR text).1))).1) o_2') rfl trivial rfl rfl ?_
              refine WL.val (OV.move rfl) rfl rfl rfl ?_
              refine WL.val (OV.neqS rfl rfl) rfl rfl rfl ?_
              refine WL.val (OV.pickF rfl rfl) rfl rfl rfl ?_
              refine WL.set 44 rfl (oF (v := !decide (showL ((scanR (showL ((scanR text).1))).1) = showL ((scanR text).1))) hb) ?_
              exact WL.end_ (KX.goH hK_15' ⟨rfl, rfl, rfl, trivial⟩ [1, 0, 2, 3] rfl rfl)
          refine WL.nil ?_
          refine KX.go (hK_13' [(3, w), (6, w_1'), (44, Value.bool (((!andAll [decide ((scanR (showL ((scanR text).1))).2.1 = 0), decide ((scanR (showL ((scanR text).1))).2.2 = 0), decide (([] : List UInt8) = [])]) || (!decide ((((scanR (showL ((scanR text).1))).1).length : Int) = (((scanR text).1).length : Int)))) || (!decide (showL ((scanR (showL ((scanR text).1))).1) = showL ((scanR text).1)))))] _ ?_) ⟨rfl, rfl, rfl, trivial⟩
          refine wc_cond (b := ((!andAll [decide ((scanR (showL ((scanR text).1))).2.1 = 0), decide ((scanR (showL ((scanR text).1))).2.2 = 0), decide (([] : List UInt8) = [])]) || (!decide ((((scanR (showL ((scanR text).1))).1).length : Int) = (((scanR text).1).length : Int)))) || (!decide (showL ((scanR (showL ((scanR text).1))).1) = showL ((scanR text).1)))) rfl (fun hb => ?_) (fun hb => ?_)
          · replace h := if_T h hb
            refine wc_seq (fun K0_16' hK_16' => ?_)
            refine wc_region ?_
            refine WL.val (OV.assign rfl) rfl rfl rfl ?_
            refine WL.nil ?_
            refine KX.go (hK_16' [(2, Value.bool false)] _ ?_) ⟨rfl, trivial⟩
            refine wc_ret ?_
            exact hE.ret [] rfl rfl (.inl ⟨_, h, rfl⟩) (ResV.of1 rfl (RV.tmp rfl))
          · replace h := if_F h hb
            refine wc_skip ?_
            refine KX.go (hK_12' [(3, w), (6, w_1')] _ ?_) ⟨rfl, rfl, trivial⟩
            refine wc_seq (fun K0_17' hK_17' => ?_)
            refine wc_seq (fun K0_18' hK_18' => ?_)
            refine wc_region ?_
            refine WL.val (OV.assign rfl) rfl rfl rfl ?_
            refine WL.nil ?_
            refine KX.go (hK_18' [(3, w), (6, w_1'), (8, Value.int .i64 0)] _ ?_) ⟨rfl, rfl, rfl, trivial⟩
            refine wc_block ?_
            refine WC.pick (H' := [HA.row w_1' 34 3 ((scanR (showL ((scanR text).1))).1).length (((scanR (showL ((scanR text).1))).1).flatMap tokC), HA.row w 34 3 ((scanR text).1).length (((scanR text).1).flatMap tokC)]) [1, 2] rfl rfl ?_
            obtain ⟨Inv, mu, h0, hr⟩ := h
            refine wc_loop (S := Int) (fun σ => Inv σ) (fun σ => mu σ) (fun σ => [(3, w), (6, w_1'), (8, Value.int .i64 σ)]) (fun σ => [HA.row w_1' 34 3 ((scanR (showL ((scanR text).1))).1).length (((scanR (showL ((scanR text).1))).1).flatMap tokC), HA.row w 34 3 ((scanR text).1).length (((scanR text).1).flatMap tokC)]) 0 h0 ⟨rfl, rfl, rfl, trivial⟩ rfl ?_
            rintro i_1' hi K0_31' hK_31'
            have h := hr i_1' hi
            show WC _ _ _ _ [(3, w), (6, w_1'), (8, Value.int .i64 i_1')] [HA.row w_1' 34 3 ((scanR (showL ((scanR text).1))).1).length (((scanR (showL ((scanR text).1))).1).flatMap tokC), HA.row w 34 3 ((scanR text).1).length (((scanR text).1).flatMap tokC)]
            refine wc_seq (fun K0_32' hK_32' => ?_)
            refine wc_seq (fun K0_33' hK_33' => ?_)
            refine wc_region ?_
            refine WL.val (OV.move rfl) rfl rfl rfl ?_
            refine WL.val (OV.move rfl) rfl rfl rfl ?_
            refine WL.val (OV.lenRow 1 rfl rfl tf_sl_26) rfl rfl rfl ?_
            refine WL.val (OV.lss rfl rfl) rfl rfl rfl ?_
            refine WL.nil ?_
            refine KX.go (hK_33' [(3, w), (6, w_1'), (8, Value.int .i64 i_1'), (48, Value.bool (decide (i_1' < (((scanR text).1).length : Int))))] _ ?_) ⟨rfl, rfl, rfl, rfl, trivial⟩
            refine wc_cond (b := decide (i_1' < (((scanR text).1).length : Int))) rfl (fun hb => ?_) (fun hb => ?_)
            · replace h := if_T h hb
              refine wc_skip ?_
              refine KX.go (hK_32' [(3, w), (6, w_1'), (8, Value.int .i64 i_1')] _ ?_) ⟨rfl, rfl, rfl, trivial⟩
              refine wc_seq (fun K0_34' hK_34' => ?_)
              refine wc_block ?_
              refine wc_seq (fun K0_35' hK_35' => ?_)
              refine wc_draw_all [] tf_mixed (by kernel_rfl) rfl (fun T_2' hT_2' => ?_)
              refine FL.val (fun _ => OV.move rfl) rfl (fun _ => rfl) rfl rfl ?_
              refine FL.val (fun _ => OV.move rfl) rfl (fun _ => rfl) rfl rfl ?_
              obtain ⟨o_15', h⟩ := h
              refine FL.val (fun _ => OV.indexRow 1 rfl rfl rfl tf_sl_26 o_15') rfl (fun _ => rfl) rfl rfl ?_
              refine FL.val (fun _ => OV.fieldAddr rfl tf_field_34_0) rfl (fun _ => rfl) rfl rfl ?_
              refine FL.val (fun _ => OV.loadEF (f := tokC) (o := 0) 1 rfl rfl tokC_len (by omega) rfl tf_scal_3) rfl (fun _ => rfl) rfl rfl ?_
              refine FL.val (fun _ => OV.move rfl) rfl (fun _ => rfl) rfl rfl ?_
              refine FL.val (fun _ => OV.move rfl) rfl (fun _ => rfl) rfl rfl ?_
              obtain ⟨o_16', h⟩ := h
              refine FL.val (fun _ => OV.indexRow 0 rfl rfl rfl tf_sl_26 o_16') rfl (fun _ => rfl) rfl rfl ?_
              refine FL.val (fun _ => OV.fieldAddr rfl tf_field_34_0) rfl (fun _ => rfl) rfl rfl ?_
              refine FL.val (fun _ => OV.loadEF (f := tokC) (o := 0) 0 rfl rfl tokC_len (by omega) rfl tf_scal_3) rfl (fun _ => rfl) rfl rfl ?_
              refine FL.val (fun _ => OV.neq rfl rfl) rfl (fun _ => rfl) rfl rfl ?_
              refine FL.val (fun _ => OV.move rfl) rfl (fun _ => rfl) rfl rfl ?_
              obtain ⟨o_19', h⟩ := h
              refine FL.cut 12 rfl (fun _ => [(3, w), (6, w_1'), (8, Value.int .i64 i_1'), (74, Value.bool ((!decide ((((scanR text).1).getD (i_1').toNat default).1 = (((scanR (showL ((scanR text).1))).1).getD (i_1').toNat default).1)) || (!decide ((((scanR text).1).getD (i_1').toNat default).2.2 = (((scanR (showL ((scanR text).1))).1).getD (i_1').toNat default).2.2))))]) ?_ (fun K0_36' hK_36' => ?_)
              rotate_left
              · refine FL.split (!decide ((((scanR text).1).getD (i_1').toNat default).1 = (((scanR (showL ((scanR text).1))).1).getD (i_1').toNat default).1)) (fun hb => ?_) (fun hb => ?_)
                · refine FL.set 62 (fun _ => rfl) (congrArg Value.bool hb) ?_
                  refine FL.skip rfl (fun _ => rfl) rfl rfl ?_
                  refine FL.skip rfl (fun _ => rfl) rfl rfl ?_
                  refine FL.skip rfl (fun _ => rfl) rfl rfl ?_
                  refine FL.skip rfl (fun _ => rfl) rfl rfl ?_
                  refine FL.skip rfl (fun _ => rfl) rfl rfl ?_
                  refine FL.skip rfl (fun _ => rfl) rfl rfl ?_
                  refine FL.skip rfl (fun _ => rfl) rfl rfl ?_
                  refine FL.skip rfl (fun _ => rfl) rfl rfl ?_
                  refine FL.skip rfl (fun _ => rfl) rfl rfl ?_
                  refine FL.skip rfl (fun _ => rfl) rfl rfl ?_
                  refine FL.skip rfl (fun _ => rfl) rfl rfl ?_
                  refine FL.val (fun _ => OV.pickT rfl rfl) rfl (fun _ => rfl) rfl rfl ?_
                  refine FL.set 74 (fun _ => rfl) (oT (v := !decide ((((scanR text).1).getD (i_1').toNat default).2.2 = (((scanR (showL ((scanR text).1))).1).getD (i_1').toNat default).2.2)) hb) ?_
                  exact FL.weak (L' := fun _ => [(3, w), (6, w_1'), (8, Value.int .i64 i_1'), (74, Value.bool ((!decide ((((scanR text).1).getD (i_1').toNat default).1 = (((scanR (showL ((scanR text).1))).1).getD (i_1').toNat default).1)) || (!decide ((((scanR text).1).getD (i_1').toNat default).2.2 = (((scanR (showL ((scanR text).1))).1).getD (i_1').toNat default).2.2))))]) (fun _ => ⟨rfl, rfl, rfl, rfl, trivial⟩) (FL.nil hK_36')
                · obtain ⟨o_17', o_18'⟩ := o_19' hb
                  refine FL.set 62 (fun _ => rfl) (congrArg Value.bool hb) ?_
                  refine FL.val (fun _ => OV.move rfl) rfl (fun _ => rfl) rfl rfl ?_
                  refine FL.val (fun _ => OV.move rfl) rfl (fun _ => rfl) rfl rfl ?_
                  refine FL.val (fun _ => OV.indexRow 1 rfl rfl rfl tf_sl_26 o_17') rfl (fun _ => rfl) rfl rfl ?_
                  refine FL.val (fun _ => OV.fieldAddr rfl tf_field_34_2) rfl (fun _ => rfl) rfl rfl ?_
                  refine FL.val (fun _ => OV.loadEF (f := tokC) (o := 2) 1 rfl rfl tokC_len (by omega) rfl tf_scal_9) rfl (fun _ => rfl) rfl rfl ?_
                  refine FL.val (fun _ => OV.move rfl) rfl (fun _ => rfl) rfl rfl ?_
                  refine FL.val (fun _ => OV.move rfl) rfl (fun _ => rfl) rfl rfl ?_
                  refine FL.val (fun _ => OV.indexRow 0 rfl rfl rfl tf_sl_26 o_18') rfl (fun _ => rfl) rfl rfl ?_
                  refine FL.val (fun _ => OV.fieldAddr rfl tf_field_34_2) rfl (fun _ => rfl) rfl rfl ?_
                  refine FL.val (fun _ => OV.loadEF (f := tokC) (o := 2) 0 rfl rfl tokC_len (by omega) rfl tf_scal_9) rfl (fun _ => rfl) rfl rfl ?_
                  refine FL.val (fun _ => OV.neqS rfl rfl) rfl (fun _ => rfl) rfl rfl ?_
                  refine FL.val (fun _ => OV.pickF rfl rfl) rfl (fun _ => rfl) rfl rfl ?_
                  refine FL.set 74 (fun _ => rfl) (oF (v := !decide ((((scanR text).1).getD (i_1').toNat default).2.2 = (((scanR (showL ((scanR text).1))).1).getD (i_1').toNat default).2.2)) hb) ?_
                  exact FL.weak (L' := fun _ => [(3, w), (6, w_1'), (8, Value.int .i64 i_1'), (74, Value.bool ((!decide ((((scanR text).1).getD (i_1').toNat default).1 = (((scanR (showL ((scanR text).1))).1).getD (i_1').toNat default).1)) || (!decide ((((scanR text).1).getD (i_1').toNat default).2.2 = (((scanR (showL ((scanR text).1))).1).getD (i_1').toNat default).2.2))))]) (fun _ => ⟨rfl, rfl, rfl, rfl, trivial⟩) (FL.nil hK_36')
              refine FL.weak (L' := fun _ => [(3, w), (6, w_1'), (8, Value.int .i64 i_1'), (74, Value.bool ((!decide ((((scanR text).1).getD (i_1').toNat default).1 = (((scanR (showL ((scanR text).1))).1).getD (i_1').toNat default).1)) || (!decide ((((scanR text).1).getD (i_1').toNat default).2.2 = (((scanR (showL ((scanR text).1))).1).getD (i_1').toNat default).2.2))))]) (fun _ => ⟨rfl, rfl, rfl, rfl, trivial⟩) (FL.nil (hT_2' (fun _ => [(3, w), (6, w_1'), (8, Value.int .i64 i_1'), (74, Value.bool ((!decide ((((scanR text).1).getD (i_1').toNat default).1 = (((scanR (showL ((scanR text).1))).1).getD (i_1').toNat default).1)) || (!decide ((((scanR text).1).getD (i_1').toNat default).2.2 = (((scanR (showL ((scanR text).1))).1).getD (i_1').toNat default).2.2))))]) (fun _ => ?_)))
              refine KX.go (hK_35' [(3, w), (6, w_1'), (8, Value.int .i64 i_1'), (74, Value.bool ((!decide ((((scanR text).1).getD (i_1').toNat default).1 = (((scanR (showL ((scanR text).1))).1).getD (i_1').toNat default).1)) || (!decide ((((scanR text).1).getD (i_1').toNat default).2.2 = (((scanR (showL ((scanR text).1))).1).getD (i_1').toNat default).2.2))))] _ ?_) ⟨rfl, rfl, rfl, rfl, trivial⟩
              refine wc_cond (b := (!decide ((((scanR text).1).getD (i_1').toNat default).1 = (((scanR (showL ((scanR text).1))).1).getD (i_1').toNat default).1)) || (!decide ((((scanR text).1).getD (i_1').toNat default).2.2 = (((scanR (showL ((scanR text).1))).1).getD (i_1').toNat default).2.2))) rfl (fun hb => ?_) (fun hb => ?_)
              · replace h := if_T h hb
                refine wc_seq (fun K0_37' hK_37' => ?_)
                refine wc_region ?_
                refine WL.val (OV.assign rfl) rfl rfl rfl ?_
                refine WL.nil ?_
                refine KX.go (hK_37' [(2, Value.bool false)] _ ?_) ⟨rfl, trivial⟩
                refine wc_ret ?_
                exact hE.ret [] rfl rfl (.inl ⟨_, h, rfl⟩) (ResV.of1 rfl (RV.tmp rfl))
              · replace h := if_F h hb
                refine wc_skip ?_
                refine KX.go (hK_34' [(3, w), (6, w_1'), (8, Value.int .i64 i_1')] _ ?_) ⟨rfl, rfl, rfl, trivial⟩
                refine wc_region ?_
                refine WL.val (OV.move rfl) rfl rfl rfl ?_
                obtain ⟨o_20', h⟩ := h
                refine WL.val (OV.add rfl rfl o_20') rfl rfl rfl ?_
                refine WL.val (OV.assign rfl) rfl rfl rfl ?_
                refine WL.nil ?_
                exact KX.goH (hK_31' (i_1' + 1) h.1 h.2) ⟨rfl, rfl, rfl, trivial⟩ [0, 1] rfl rfl
            · replace h := if_F h hb
              refine wc_exit ?_
              refine KX.go (hK_17' [] _ ?_) trivial
              refine wc_seq (fun K0_38' hK_38' => ?_)
              refine wc_region ?_
              refine WL.val (OV.assign rfl) rfl rfl rfl ?_
              refine WL.nil ?_
              refine KX.go (hK_38' [(2, Value.bool true)] _ ?_) ⟨rfl, trivial⟩
              refine wc_ret ?_
              exact hE.ret [] rfl rfl (.inl ⟨_, h, rfl⟩) (ResV.of1 rfl (RV.tmp rfl))
        · obtain ⟨w_1', ho⟩ := hS
          cases ho
  · obtain ⟨w, ho⟩ := hS
    cases ho

theorem tokenBack_does (t : List UInt8) : Does Try.prog 8 [st t] [] [] (Ret (.bool true) []) := by
  refine (lback_wp t (fun r => r = true) ?_).weak (by rintro o (⟨v, rfl, rfl⟩ | h) <;> first | rfl | exact h.elim)
  unfold lback_vc
  by_cases h1 : (scanR t).2.1 = 0 ∧ (scanR t).2.2 = 0
  · rw [if_neg (by simp [andAll, h1.1, h1.2])]
    refine ⟨scan_bd t, ?_⟩
    by_cases h2 : 4096 < (showL (scanR t).1).length
    · rw [if_pos (by simp; omega)]
    · rw [if_neg (by simp; omega)]
      have hl : t.length ≤ 4096 := by
        rcases Nat.lt_or_ge 4096 t.length with h4 | h4
        · have := h1.1
          unfold scanR at this
          rw [if_pos h4] at this; simp at this
        · exact h4
      obtain ⟨m, e1, e2⟩ := scan_back h1.1 hl (by omega)
      have hlen : m.length = (scanR t).1.length := by have := congrArg List.length e2; simpa using this
      have hbd := scan_bd (showL (scanR t).1)
      have hsh := showL_kt e2
      have hn := scanR_len t
      rw [e1] at hbd ⊢
      simp only at hbd ⊢
      refine ⟨fun _ => hbd, ?_⟩
      rw [if_neg (by simp [andAll, hlen, hsh])]
      refine ⟨fun i => 0 ≤ i, fun i => ((scanR t).1.length - i).toNat, Int.le_refl _, fun i h0 => ?_⟩
      by_cases hi : i < ((scanR t).1.length : Int)
      · rw [if_pos (by simpa using hi)]
        have he : kt ((scanR t).1.getD i.toNat default) = kt (m.getD i.toNat default) := by
          have h3 := congrArg (fun l => l[i.toNat]?) e2
          simp only [List.getElem?_map] at h3
          rw [List.getElem?_eq_getElem (by omega), List.getElem?_eq_getElem (by omega)] at h3
          rw [List.getD_eq_getElem?_getD, List.getD_eq_getElem?_getD, List.getElem?_eq_getElem (by omega), List.getElem?_eq_getElem (by omega)]
          simpa using h3.symm
        simp only [kt, Prod.mk.injEq] at he
        refine ⟨⟨h0, hi⟩, ⟨h0, by omega⟩, fun _ => ⟨⟨h0, hi⟩, ⟨h0, by omega⟩⟩, ?_⟩
        rw [if_neg (by rw [he.1, he.2]; simp)]
        exact ⟨⟨by omega, by omega⟩, by omega, by show ((scanR t).1.length - (i + 1)).toNat < ((scanR t).1.length - i).toNat; omega⟩
      · rw [if_neg (by simpa using hi)]; trivial
  · rw [if_pos (by
      simp only [andAll, Bool.not_eq_true', Bool.and_eq_false_iff, decide_eq_false_iff_not]
      by_cases c1 : (scanR t).2.1 = 0
      · exact .inr (.inl fun c2 => h1 ⟨c1, c2⟩)
      · exact .inl c1)]
theorem tokenThereAndBack_walk (s : ByteArray) : Pure Try.prog 8 #[.string s] (.bool true) := Does.pure (tokenBack_does s.data.toList)

end Go.Proofs.Ytiaafdjdppganaa
