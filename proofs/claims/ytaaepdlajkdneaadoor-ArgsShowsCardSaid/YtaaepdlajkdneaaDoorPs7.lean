/-
  Merged: ArK, ArLawShows.
-/
import Derived.Test.YtaaepdlajkdneaaDoorPs6
namespace Go.Proofs.YtaaepdlajkdneaaDoor
open Go Go.RowKit
theorem am7 : ∀ n : Nat, Lib.decDigits n = ado n := by
 intro n
 induction n using Nat.strongRecOn with
 | _ n ih =>
  rw [Lib.decDigits, ado]
  split
  ·rename_i h
   first | rfl | (rw [Nat.mod_eq_of_lt h]; rfl) | rw [Nat.mod_eq_of_lt h]
  ·rename_i h
   rw [ih (n / 10) (by omega)]
theorem abk {n : Int} (h0 : 0 ≤ n) (h1 : n < 1000000000) : l8 (Lib.itoa n) = true ∧ j4 (Lib.itoa n) = n ∧ (Lib.itoa n).length ≤ 9 := by
 have e : Lib.itoa n = ado n.toNat := by
  unfold Lib.itoa
  rw [if_neg (by omega), am7]
 rw [e]
 obtain ⟨a, b, c⟩ := al0 n.toNat
 have hl := ago 8 n.toNat (by omega)
 have hB : l8 (ado n.toNat) = true := by
  unfold l8
  rw [a]
  simp [c]; omega
 refine ⟨hB, ?_, hl⟩
 unfold j4
 rw [if_pos hB]
 unfold acz
 rw [b]; omega
theorem abq {av A B : List Bs} {x : Bs} {i : Int} (h : av = A ++ x :: B) (hi : i = A.length) : i7 av i = x ∧ i < av.length := by
 subst h hi
 refine ⟨?_, by simp; omega⟩
 unfold i7
 rw [Int.toNat_natCast, List.getD_eq_getElem?_getD, List.getElem?_append_right (Nat.le_refl _), Nat.sub_self]; rfl
section
variable {av A B : List Bs} {f : Nat} {q q2 : PS} {sl : List Int} {v : Bs} {l : UInt8}
theorem am4 (hA : av = A ++ [45, l] :: v :: B) (hq : q.at1 = A.length) (hl : l ∈ ([98, 110, 99, 111] : Bs)) (ho : ¬ ixB q.sopts ((l.toNat : Nat) : Int) < 0) (hs : sl.count ((l.toNat : Nat) : Int) = 0)
  (hset : w1 ((l.toNat : Nat) : Int) v { q with at1 := q.at1 + 1 } = (true, q2)) : goM av (f + 1) false q sl = goM av f false { q2 with at1 := q2.at1 + 1 } (((l.toNat : Nat) : Int) :: sl) := by
 obtain ⟨h1, h2⟩ := abq hA hq
 obtain ⟨h3, h4⟩ := abq (av := av) (A := A ++ [[45, l]]) (x := v) (B := B) (i := q.at1 + 1) (by rw [hA]; simp) (by rw [hq]; simp)
 have hne : ([45, l] : Bs) ≠ [45, 45] := by
  intro h
  have : l = 45 := (List.cons.inj (List.cons.inj h).2).1
  subst this
  revert hl; decide
 refine amy h2 (by rw [h1]; exact hne) (by rw [h1]; simp) (by rw [h1]; rfl) ?_
 rw [ah1 (x := l) (by rw [h1]; rfl) hl, if_neg ho, if_neg (by omega)]
 unfold acn
 rw [h1, if_pos (show ([45, l] : Bs).drop 2 = [] from rfl), if_neg (by omega)]
 simp only [h3]
 rw [hset]
 rfl
theorem ami (hA : av = A ++ [45, 45] :: B) (hq : q.at1 = A.length) : goM av (f + 1) false q sl = goM av f true { q with at1 := q.at1 + 1 } sl := by
 obtain ⟨h1, h2⟩ := abq hA hq
 exact afq h2 rfl h1
theorem ane (hA : av = A ++ v :: B) (hq : q.at1 = A.length) (hg : q.got ≠ q.sops.length) (hl : q.sops.getD q.got.toNat 0 = l) (hv : (l = 97 ∨ l = 100) → l8 v = true) :
  goM av (f + 1) true q sl = goM av f true { y5 ((l.toNat : Nat) : Int) v q with got := q.got + 1, at1 := q.at1 + 1 } sl := by
 obtain ⟨h1, h2⟩ := abq hA hq
 refine ams h2 (.inl rfl) ?_
 unfold abg
 rw [if_neg hg]
 simp only [hl, h1]
 rw [if_neg]
 rintro ⟨g1, g2⟩
 have : l = 97 ∨ l = 100 := g1.imp (aaf (n := 97)).1 (aaf (n := 100)).1
 rw [hv this] at g2; cases g2
end
structure Good (m : Nat) (nm : Bs) (q : PS) : Prop where
 name : q.name = nm
 sops : q.sops = (a8 nm).2.1
 sopts : q.sopts = (a8 nm).2.2
 out : q.out = [] ∨ 0 ≤ Lib.indexByte (a8 nm).2.2 111
 bud : 1 ≤ q.budget ∧ q.budget ≤ 4096
 cnt : 0 ≤ q.count ∧ q.count ≤ 100
 cnt0 : q.count = 0 ∨ 0 ≤ Lib.indexByte (a8 nm).2.2 110
 chk : 0 ≤ q.chunk ∧ q.chunk ≤ 16384
 chk0 : q.chunk = 0 ∨ 0 ≤ Lib.indexByte (a8 nm).2.2 99
 chk1 : 0 ≤ Lib.indexByte (a8 nm).2.2 99 → 1 ≤ q.chunk
 at0 : 0 ≤ q.at0 ∧ q.at0 < 1000000000
 del : 0 ≤ q.del ∧ q.del < 1000000000
 lens : q.lens = [] ∨ 108 ∈ (a8 nm).2.1
 view : q.view = [] ∨ 118 ∈ (a8 nm).2.1
 src : q.src = [] ∨ 115 ∈ (a8 nm).2.1
 text : q.text = [] ∨ 116 ∈ (a8 nm).2.1
 at9 : q.at0 = 0 ∨ 97 ∈ (a8 nm).2.1
 del9 : q.del = 0 ∨ 100 ∈ (a8 nm).2.1
 size : q.name.length ≤ m ∧ q.lens.length ≤ m ∧ q.view.length ≤ m ∧ q.src.length ≤ m ∧ q.out.length ≤ m ∧ q.text.length ≤ m
theorem Good.at {m : Nat} {nm : Bs} {q : PS} (h : Good m nm q) (i k : Int) : Good m nm { q with at1 := i, got := k } := ⟨h.name, h.sops, h.sopts, h.out, h.bud, h.cnt, h.cnt0, h.chk, h.chk0, h.chk1, h.at0, h.del, h.lens, h.view, h.src, h.text, h.at9, h.del9, h.size⟩
theorem akm (l : UInt8) : ((l.toNat : Nat) : Int).toNat.toUInt8 = l := by rw [Int.toNat_natCast]; exact UInt8.ofNat_toNat
theorem akx {m : Nat} {nm : Bs} {q q2 : PS} {l : UInt8} {v : Bs} (h : Good m nm q) (hl : l ∈ ([98, 110, 99, 111] : Bs)) (ho : ¬ ixB q.sopts ((l.toNat : Nat) : Int) < 0) (hv : v.length ≤ m) (hs : w1 ((l.toNat : Nat) : Int) v q = (true, q2)) : Good m nm q2 := by
 have ho' : 0 ≤ Lib.indexByte (a8 nm).2.2 l := by
  unfold ixB at ho
  rw [h.sopts, akm] at ho
  omega
 obtain ⟨z1, z2, z3, z4, z5, z6⟩ := h.size
 simp only [List.mem_cons, List.mem_nil_iff, or_false] at hl
 rcases hl with rfl | rfl | rfl | rfl
 ·obtain ⟨e1, rfl⟩ := Prod.mk.inj (show (((l8 v) && (decide (1 ≤ j4 v))) && (decide (j4 v ≤ 4096)), { q with budget := j4 v }) = (true, q2) from hs)
  simp only [Bool.and_eq_true, decide_eq_true_eq] at e1
  exact ⟨h.name, h.sops, h.sopts, h.out, ⟨e1.1.2, e1.2⟩, h.cnt, h.cnt0, h.chk, h.chk0, h.chk1, h.at0, h.del, h.lens, h.view, h.src, h.text, h.at9, h.del9, h.size⟩
 ·obtain ⟨e1, rfl⟩ := Prod.mk.inj (show (((l8 v) && (decide (0 ≤ j4 v))) && (decide (j4 v ≤ 100)), { q with count := j4 v }) = (true, q2) from hs)
  simp only [Bool.and_eq_true, decide_eq_true_eq] at e1
  exact ⟨h.name, h.sops, h.sopts, h.out, h.bud, ⟨e1.1.2, e1.2⟩, .inr ho', h.chk, h.chk0, h.chk1, h.at0, h.del, h.lens, h.view, h.src, h.text, h.at9, h.del9, h.size⟩
 ·obtain ⟨e1, rfl⟩ := Prod.mk.inj (show (((l8 v) && (decide (1 ≤ j4 v))) && (decide (j4 v ≤ 16384)), { q with chunk := j4 v }) = (true, q2) from hs)
  simp only [Bool.and_eq_true, decide_eq_true_eq] at e1
  have e2 := e1.1.2
  exact ⟨h.name, h.sops, h.sopts, h.out, h.bud, h.cnt, h.cnt0, ⟨by show 0 ≤ j4 v; omega, e1.2⟩, .inr ho', fun _ => e2, h.at0, h.del, h.lens, h.view, h.src, h.text, h.at9, h.del9, h.size⟩
 ·obtain ⟨e1, rfl⟩ := Prod.mk.inj (show (!decide (v = []), { q with out := v }) = (true, q2) from hs)
  exact ⟨h.name, h.sops, h.sopts, .inr ho', h.bud, h.cnt, h.cnt0, h.chk, h.chk0, h.chk1, h.at0, h.del, h.lens, h.view, h.src, h.text, h.at9, h.del9, ⟨z1, z2, z3, z4, hv, z6⟩⟩
theorem aj6 {m : Nat} {nm : Bs} {q : PS} {l : UInt8} {v : Bs} (h : Good m nm q) (hl : l ∈ (a8 nm).2.1) (hv : v.length ≤ m) : Good m nm (y5 ((l.toNat : Nat) : Int) v q) := by
 obtain ⟨z1, z2, z3, z4, z5, z6⟩ := h.size
 have hb := alq v
 have e1 : ((l.toNat : Nat) : Int) = 108 ↔ l = 108 := aaf (n := 108)
 have e2 : ((l.toNat : Nat) : Int) = 118 ↔ l = 118 := aaf (n := 118)
 have e3 : ((l.toNat : Nat) : Int) = 115 ↔ l = 115 := aaf (n := 115)
 have e4 : ((l.toNat : Nat) : Int) = 116 ↔ l = 116 := aaf (n := 116)
 have e5 : ((l.toNat : Nat) : Int) = 97 ↔ l = 97 := aaf (n := 97)
 have e6 : ((l.toNat : Nat) : Int) = 100 ↔ l = 100 := aaf (n := 100)
 unfold y5
 simp only [e1, e2, e3, e4, e5, e6]
 by_cases g1 : l = 108
 ·rw [if_pos g1]; subst g1
  exact ⟨h.name, h.sops, h.sopts, h.out, h.bud, h.cnt, h.cnt0, h.chk, h.chk0, h.chk1, h.at0, h.del, .inr hl, h.view, h.src, h.text, h.at9, h.del9, ⟨z1, hv, z3, z4, z5, z6⟩⟩
 rw [if_neg g1]
 by_cases g2 : l = 118
 ·rw [if_pos g2]; subst g2
  exact ⟨h.name, h.sops, h.sopts, h.out, h.bud, h.cnt, h.cnt0, h.chk, h.chk0, h.chk1, h.at0, h.del, h.lens, .inr hl, h.src, h.text, h.at9, h.del9, ⟨z1, z2, hv, z4, z5, z6⟩⟩
 rw [if_neg g2]
 by_cases g3 : l = 115
 ·rw [if_pos g3]; subst g3
  exact ⟨h.name, h.sops, h.sopts, h.out, h.bud, h.cnt, h.cnt0, h.chk, h.chk0, h.chk1, h.at0, h.del, h.lens, h.view, .inr hl, h.text, h.at9, h.del9, ⟨z1, z2, z3, hv, z5, z6⟩⟩
 rw [if_neg g3]
 by_cases g4 : l = 116
 ·rw [if_pos g4]; subst g4
  exact ⟨h.name, h.sops, h.sopts, h.out, h.bud, h.cnt, h.cnt0, h.chk, h.chk0, h.chk1, h.at0, h.del, h.lens, h.view, h.src, .inr hl, h.at9, h.del9, ⟨z1, z2, z3, z4, z5, hv⟩⟩
 rw [if_neg g4]
 by_cases g5 : l = 97
 ·rw [if_pos g5]; subst g5
  exact ⟨h.name, h.sops, h.sopts, h.out, h.bud, h.cnt, h.cnt0, h.chk, h.chk0, h.chk1, hb, h.del, h.lens, h.view, h.src, h.text, .inr hl, h.del9, h.size⟩
 rw [if_neg g5]
 by_cases g6 : l = 100
 ·rw [if_pos g6]; subst g6
  exact ⟨h.name, h.sops, h.sopts, h.out, h.bud, h.cnt, h.cnt0, h.chk, h.chk0, h.chk1, h.at0, hb, h.lens, h.view, h.src, h.text, h.at9, .inr hl, h.size⟩
 rw [if_neg g6]
 exact h
theorem ads {m : Nat} {av : List Bs} (h : ∀ s ∈ av, s.length ≤ m) (i : Int) : (i7 av i).length ≤ m := by
 unfold i7
 rw [List.getD_eq_getElem?_getD]
 cases hq : av[i.toNat]? with
 | none => exact Nat.zero_le _
 | some s => exact h s (List.mem_of_getElem? hq)
theorem adv {m : Nat} {nm : Bs} {av : List Bs} (hm : ∀ s ∈ av, s.length ≤ m) : ∀ (f : Nat) (plain : Bool) (q : PS) (sl : List Int) (q2 : PS), Good m nm q → (0 ≤ q.got ∧ q.got ≤ q.sops.length) → goM av f plain q sl = .ok q2 → Good m nm q2 ∧ q2.got = q2.sops.length
 | 0, plain, q, sl, q2, h, hg, he => by
  rw [goM] at he
  by_cases hl : q.got < q.sops.length
  ·rw [if_pos hl] at he; cases he
  ·rw [if_neg hl] at he; cases he; exact ⟨h, by omega⟩
 | f + 1, plain, q, sl, q2, h, hg, he => by
  by_cases h1 : q.at1 < av.length
  ·by_cases h2 : plain = false ∧ i7 av q.at1 = [45, 45]
   ·rw [afq h1 h2.1 h2.2] at he
    exact adv hm f true _ sl q2 (h.at (q.at1 + 1) q.got) hg he
   ·by_cases h3 : plain = false ∧ 1 < (i7 av q.at1).length ∧ ((i7 av q.at1).getD 0 0).toNat = 45
    ·rw [ajy h1 h2 h3] at he
     by_cases h4 : (i7 av q.at1).getD 1 0 ∈ ([98, 110, 99, 111] : Bs)
     ·rw [ah1 rfl h4] at he
      by_cases h5 : ixB q.sopts ((((i7 av q.at1).getD 1 0).toNat : Nat) : Int) < 0
      ·rw [if_pos h5] at he; cases he
      rw [if_neg h5] at he
      by_cases h6 : 0 < sl.count ((((i7 av q.at1).getD 1 0).toNat : Nat) : Int)
      ·rw [if_pos h6] at he; cases he
      rw [if_neg h6] at he
      cases hv : acn av q with
      | error e => rw [hv] at he; cases he
      | ok vp =>
       obtain ⟨v, p⟩ := vp
       rw [hv] at he
       simp only at he
       have hvp : v.length ≤ m ∧ Good m nm p ∧ p.got = q.got ∧ p.sops = q.sops ∧ p.sopts = q.sopts := by
        unfold acn at hv
        split at hv
        ·split at hv
         ·cases hv
         ·cases hv
          exact ⟨ads hm _, h.at _ q.got, rfl, rfl, rfl⟩
        ·cases hv
         refine ⟨?_, h, rfl, rfl, rfl⟩
         have := ads hm q.at1
         rw [List.length_drop]; omega
       obtain ⟨v1, v2, v3, v4, v5⟩ := hvp
       cases hs : w1 ((((i7 av q.at1).getD 1 0).toNat : Nat) : Int) v p with
       | mk ok p2 =>
        rw [hs] at he
        cases ok with
        | false => rw [if_neg (by simp)] at he; cases he
        | true =>
         rw [if_pos rfl] at he
         have g := akx v2 h4 (by rw [v5]; exact h5) v1 hs
         have hsame : p2.got = p.got ∧ p2.sops = p.sops := by
          have hp : p2 = (w1 ((((i7 av q.at1).getD 1 0).toNat : Nat) : Int) v p).2 := by rw [hs]
          rw [hp]
          unfold w1
          (repeat' split) <;> exact ⟨rfl, rfl⟩
         exact adv hm f plain _ _ q2 (g.at _ p2.got) (by show 0 ≤ p2.got ∧ p2.got ≤ p2.sops.length; rw [hsame.1, hsame.2, v3, v4]; exact hg) he
     ·rw [ahb rfl h4] at he; cases he
    ·rw [ajx h1 h2 h3] at he
     unfold abg at he
     by_cases h4 : q.got = q.sops.length
     ·rw [if_pos h4] at he; cases he
     rw [if_neg h4] at he
     simp only at he
     split at he
     ·rename_i e hx; split at hx <;> cases he
     ·rename_i q3 hx
      split at hx
      ·cases hx
      ·cases hx
       have hmem : q.sops.getD q.got.toNat 0 ∈ (a8 nm).2.1 := by
        rw [← h.sops, List.getD_eq_getElem?_getD, List.getElem?_eq_getElem (by omega)]
        exact List.getElem_mem _
       have g := aj6 h hmem (ads hm q.at1)
       obtain ⟨s1, s2, s3⟩ := abs ((((q.sops.getD q.got.toNat 0).toNat : Nat) : Int)) (i7 av q.at1) q
       refine adv hm f plain _ _ q2 (g.at _ _) ?_ he
       show 0 ≤ q.got + 1 ∧ q.got + 1 ≤ (y5 _ _ q).sops.length
       rw [s3]; omega
  ·rw [ahy h1] at he
   by_cases hl : q.got < q.sops.length
   ·rw [if_pos hl] at he; cases he
   ·rw [if_neg hl] at he; cases he; exact ⟨h, by omega⟩
theorem ahe {m : Nat} {av : List Bs} (hm : ∀ s ∈ av, s.length ≤ m) {q : PS} (h : w9 av ps0 = .ok q) : u2 q.name = true ∧ Good m q.name q := by
 unfold w9 at h
 by_cases h0 : av.length = 0
 ·rw [if_pos h0] at h; cases h
 rw [if_neg h0] at h
 by_cases hc : u2 (i7 av 0) = false
 ·rw [if_pos hc] at h; cases h
 rw [if_neg hc] at h
 have hc : u2 (i7 av 0) = true := by simpa using hc
 obtain ⟨n1, n2⟩ := ac6 hc
 have hst := aem av
 have e1 := abm av
 have e2 := abp av
 have hz : ([] : Bs).length ≤ m := Nat.zero_le _
 have g : Good m (i7 av 0) (q9 av ps0) := by
  rw [hst, e1, e2]
  refine ⟨rfl, rfl, rfl, .inl rfl, ⟨by show (1 : Int) ≤ 1024; decide, by show (1024 : Int) ≤ 4096; decide⟩, ?_, ?_, ?_, ?_, ?_, ⟨Int.le_refl _, by show (0 : Int) < 1000000000; decide⟩, ⟨Int.le_refl _, by show (0 : Int) < 1000000000; decide⟩, .inl rfl, .inl rfl, .inl rfl, .inl rfl, .inl rfl, .inl rfl, ⟨ads hm 0, hz, hz, hz, hz, hz⟩⟩
  ·show 0 ≤ (if _ then (10 : Int) else 0) ∧ (if _ then (10 : Int) else 0) ≤ 100
   split <;> decide
  ·show (if _ then (10 : Int) else 0) = 0 ∨ _
   split
   ·rename_i hw; exact .inr (n1.2 hw)
   ·exact .inl rfl
  ·show 0 ≤ (if _ then (16 : Int) else 0) ∧ (if _ then (16 : Int) else 0) ≤ 16384
   split <;> decide
  ·show (if _ then (16 : Int) else 0) = 0 ∨ _
   split
   ·rename_i hw; exact .inr (n2.2 hw)
   ·exact .inl rfl
  ·intro hw
   show 1 ≤ (if _ then (16 : Int) else 0)
   rw [if_pos (n2.1 hw)]; decide
 have hg := (adv hm _ _ _ _ q g (by rw [hst]; exact ⟨Int.le_refl _, Int.natCast_nonneg _⟩) h).1
 rw [hg.name]
 exact ⟨hc, hg⟩
def aa6 (av : List Bs) (plain : Bool) (q : PS) (sl : List Int) (r : Except (Int × Bs) PS) : Prop := ∀ f : Nat, (av.length : Int) ≤ q.at1 + f → goM av f plain q sl = r
section
variable {av A B : List Bs} {q q2 : PS} {sl : List Int} {v : Bs} {l : UInt8} {r : Except (Int × Bs) PS} {plain : Bool}
theorem aic (hA : av = A ++ [45, l] :: v :: B) (hq : q.at1 = A.length) (hl : l ∈ ([98, 110, 99, 111] : Bs)) (ho : 0 ≤ Lib.indexByte q.sopts l) (hs : sl.count ((l.toNat : Nat) : Int) = 0)
  (hset : w1 ((l.toNat : Nat) : Int) v { q with at1 := q.at1 + 1 } = (true, { q2 with at1 := q.at1 + 1 })) (h : aa6 av false { q2 with at1 := q.at1 + 2 } (((l.toNat : Nat) : Int) :: sl) r) : aa6 av false q sl r := by
 intro f hf
 have h2 := (abq hA hq).2
 cases f with
 | zero => omega
 | succ f =>
  rw [am4 hA hq hl (by unfold ixB; rw [akm]; omega) hs hset]
  have := h f (by show (av.length : Int) ≤ q.at1 + 2 + f; push_cast at hf; omega)
  rw [show q.at1 + 2 = q.at1 + 1 + 1 by omega] at this
  exact this
theorem am0 (hA : av = A ++ [45, 45] :: B) (hq : q.at1 = A.length) (h : aa6 av true { q with at1 := q.at1 + 1 } sl r) : aa6 av false q sl r := by
 intro f hf
 have h2 := (abq hA hq).2
 cases f with
 | zero => omega
 | succ f =>
  rw [ami hA hq]
  exact h f (by show (av.length : Int) ≤ q.at1 + 1 + f; push_cast at hf; omega)
theorem anb (hA : av = A ++ v :: B) (hq : q.at1 = A.length) (hg : q.got ≠ q.sops.length) (hl : q.sops.getD q.got.toNat 0 = l) (hv : (l = 97 ∨ l = 100) → l8 v = true)
  (h : aa6 av true { y5 ((l.toNat : Nat) : Int) v q with got := q.got + 1, at1 := q.at1 + 1 } sl r) : aa6 av true q sl r := by
 intro f hf
 have h2 := (abq hA hq).2
 cases f with
 | zero => omega
 | succ f =>
  rw [ane hA hq hg hl hv]
  exact h f (by show (av.length : Int) ≤ q.at1 + 1 + f; push_cast at hf; omega)
theorem am2 (h1 : ¬ q.at1 < av.length) (h2 : ¬ q.got < q.sops.length) : aa6 av plain q sl (.ok q) := fun f _ => by rw [ahy h1, if_neg h2]
end
def ace : CmT → UInt8 → Bs
 | (_, le, vi, so, _, _, _, _, a, d, te), l => if l = 108 then le else if l = 118 then vi else if l = 115 then so else if l = 116 then te else if l = 97 then Lib.itoa a else Lib.itoa d
theorem aki (c : CmT) {l : UInt8} (h : l ∈ ([108, 118, 115, 97, 100, 116] : Bs)) : acr c l = [ace c l] := by
 obtain ⟨nm, le, vi, so, ou, bu, co, ch, a, d, te⟩ := c
 simp only [List.mem_cons, List.mem_nil_iff, or_false] at h
 rcases h with rfl | rfl | rfl | rfl | rfl | rfl <;> rfl
def ab7 (c : CmT) (q : PS) (l : UInt8) : PS := { y5 ((l.toNat : Nat) : Int) (ace c l) q with got := q.got + 1, at1 := q.at1 + 1 }
def al6 (c : CmT) (q : PS) (r : Bs) : PS := r.foldl (ab7 c) q
theorem aj0 {av : List Bs} {c : CmT} {sl : List Int} (hn : l8 (ace c 97) = true ∧ l8 (ace c 100) = true) : ∀ (r pre : Bs) (A : List Bs) (q : PS), q.sops = pre ++ r → q.got = pre.length → (∀ l ∈ r, l ∈ ([108, 118, 115, 97, 100, 116] : Bs)) → av = A ++ r.flatMap (acr c) → q.at1 = A.length → aa6 av true q sl (.ok (al6 c q r))
 | [], pre, A, q, hs, hg, _, hA, hq => by
  have hl : av.length = A.length := by rw [hA]; simp
  exact am2 (by omega) (by rw [hs, hg]; simp)
 | l :: r, pre, A, q, hs, hg, hr, hA, hq => by
  have hl := hr l (List.mem_cons_self ..)
  rw [List.flatMap_cons, aki c hl] at hA
  have hget : q.sops.getD q.got.toNat 0 = l := by
   rw [hs, hg, Int.toNat_natCast, List.getD_eq_getElem?_getD, List.getElem?_append_right (Nat.le_refl _), Nat.sub_self]; rfl
  refine anb (A := A) (v := ace c l) (B := r.flatMap (acr c)) (l := l) (by rw [hA]; rfl) hq (by rw [hs, hg]; simp; omega) hget ?_ ?_
  ·rintro (rfl | rfl)
   ·exact hn.1
   ·exact hn.2
  ·have hsame := abs ((l.toNat : Nat) : Int) (ace c l) q
   exact aj0 hn r (pre ++ [l]) (A ++ [ace c l]) (ab7 c q l) (by show (y5 _ _ q).sops = _; rw [hsame.2.2, hs]; simp) (by show q.got + 1 = _; rw [hg]; simp) (fun x hx => hr x (List.mem_cons_of_mem _ hx)) (by rw [hA]; simp) (by show q.at1 + 1 = _; rw [hq]; simp)
theorem adm {nm le vi so ou te : Bs} {bu co ch a d : Int} (ha : j4 (Lib.itoa a) = a) (hd : j4 (Lib.itoa d) = d) : ∀ (r : Bs) (q : PS), (∀ l ∈ r, l ∈ ([108, 118, 115, 97, 100, 116] : Bs)) →
  cmT (al6 (nm, le, vi, so, ou, bu, co, ch, a, d, te) q r) = (q.name, if 108 ∈ r then le else q.lens, if 118 ∈ r then vi else q.view, if 115 ∈ r then so else q.src, q.out, q.budget, q.count, q.chunk, if 97 ∈ r then a else q.at0, if 100 ∈ r then d else q.del, if 116 ∈ r then te else q.text)
 | [], q, _ => rfl
 | l :: r, q, hr => by
  have ih := adm (nm := nm) (le := le) (vi := vi) (so := so) (ou := ou) (te := te) (bu := bu) (co := co) (ch := ch) ha hd r (ab7 (nm, le, vi, so, ou, bu, co, ch, a, d, te) q l) (fun x hx => hr x (List.mem_cons_of_mem _ hx))
  show cmT (al6 (nm, le, vi, so, ou, bu, co, ch, a, d, te) (ab7 (nm, le, vi, so, ou, bu, co, ch, a, d, te) q l) r) = _
  rw [ih]
  have hl := hr l (List.mem_cons_self ..)
  simp only [List.mem_cons, List.mem_nil_iff, or_false] at hl
  rcases hl with rfl | rfl | rfl | rfl | rfl | rfl
  ·simp [ab7, y5, ace]
  ·simp [ab7, y5, ace]
  ·simp [ab7, y5, ace]
  ·simp [ab7, y5, ace, ha]
  ·simp [ab7, y5, ace, hd]
  ·simp [ab7, y5, ace]
section
variable {av A B : List Bs} {sl : List Int} {nm ou : Bs} {bu c0 h0 co ch : Int} {r : Except (Int × Bs) PS}
theorem abl {sl : List Int} {y x : Int} (h : x ≠ y) : (y :: sl).count x = sl.count x := List.count_cons_of_ne (Ne.symm h)
theorem ame (hA : av = A ++ [45, 98] :: Lib.itoa bu :: B) (hb : 1 ≤ bu ∧ bu ≤ 4096) (ho : 0 ≤ Lib.indexByte (a8 nm).2.2 98) (hs : sl.count 98 = 0)
  (h : ∀ A' sl', av = A' ++ B → (∀ x, x ≠ 98 → sl'.count x = sl.count x) → aa6 av false (mkP nm (nm, [], [], [], [], bu, c0, h0, 0, 0, []) A'.length 0) sl' r) :
  aa6 av false (mkP nm (nm, [], [], [], [], 1024, c0, h0, 0, 0, []) A.length 0) sl r := by
 obtain ⟨n1, n2, _⟩ := abk (n := bu) (by omega) (by omega)
 refine aic (A := A) (v := Lib.itoa bu) (B := B) (l := 98) (q2 := mkP nm (nm, [], [], [], [], bu, c0, h0, 0, 0, []) 0 0) hA rfl (by simp) ho hs ?_ ?_
 ·rw [show (((98 : UInt8).toNat : Nat) : Int) = 98 from rfl, ang ⟨n1, by omega, by omega⟩, n2]; rfl
 ·have := h (A ++ [[45, 98], Lib.itoa bu]) (98 :: sl) (by rw [hA]; simp) (fun x hx => abl hx)
  rw [show (((A ++ [[45, 98], Lib.itoa bu]).length : Nat) : Int) = (A.length : Int) + 2 by simp] at this
  exact this
theorem amh (hA : av = A ++ ((if ou = [] then [] else [[45, 111], ou]) ++ B)) (ho : ou = [] ∨ 0 ≤ Lib.indexByte (a8 nm).2.2 111) (hs : sl.count 111 = 0)
  (h : ∀ A' sl', av = A' ++ B → (∀ x, x ≠ 111 → sl'.count x = sl.count x) → aa6 av false (mkP nm (nm, [], [], [], ou, bu, c0, h0, 0, 0, []) A'.length 0) sl' r) :
  aa6 av false (mkP nm (nm, [], [], [], [], bu, c0, h0, 0, 0, []) A.length 0) sl r := by
 by_cases hou : ou = []
 ·rw [if_pos hou, List.nil_append] at hA
  have := h A sl hA (fun _ _ => rfl)
  rw [hou] at this; exact this
 ·rw [if_neg hou] at hA
  have ho := ho.resolve_left hou
  refine aic (A := A) (v := ou) (B := B) (l := 111) (q2 := mkP nm (nm, [], [], [], ou, bu, c0, h0, 0, 0, []) 0 0) (by rw [hA]; rfl) rfl (by simp) ho hs ?_ ?_
  ·rw [show (((111 : UInt8).toNat : Nat) : Int) = 111 from rfl, am9 hou]; rfl
  ·have := h (A ++ [[45, 111], ou]) (111 :: sl) (by rw [hA]; simp) (fun x hx => abl hx)
   rw [show (((A ++ [[45, 111], ou]).length : Nat) : Int) = (A.length : Int) + 2 by simp] at this
   exact this
theorem am1 (hA : av = A ++ ((if 0 ≤ Lib.indexByte (a8 nm).2.2 110 then [[45, 110], Lib.itoa co] else []) ++ B)) (hb : 0 ≤ co ∧ co ≤ 100) (hn : ¬ 0 ≤ Lib.indexByte (a8 nm).2.2 110 → c0 = co) (hs : sl.count 110 = 0)
  (h : ∀ A' sl', av = A' ++ B → (∀ x, x ≠ 110 → sl'.count x = sl.count x) → aa6 av false (mkP nm (nm, [], [], [], ou, bu, co, h0, 0, 0, []) A'.length 0) sl' r) :
  aa6 av false (mkP nm (nm, [], [], [], ou, bu, c0, h0, 0, 0, []) A.length 0) sl r := by
 by_cases hi : 0 ≤ Lib.indexByte (a8 nm).2.2 110
 ·rw [if_pos hi] at hA
  obtain ⟨n1, n2, _⟩ := abk (n := co) (by omega) (by omega)
  refine aic (A := A) (v := Lib.itoa co) (B := B) (l := 110) (q2 := mkP nm (nm, [], [], [], ou, bu, co, h0, 0, 0, []) 0 0) (by rw [hA]; rfl) rfl (by simp) hi hs ?_ ?_
  ·rw [show (((110 : UInt8).toNat : Nat) : Int) = 110 from rfl]
   unfold w1
   rw [if_neg (by decide), if_pos rfl, n1, n2, decide_eq_true hb.1, decide_eq_true hb.2]; rfl
  ·have := h (A ++ [[45, 110], Lib.itoa co]) (110 :: sl) (by rw [hA]; simp) (fun x hx => abl hx)
   rw [show (((A ++ [[45, 110], Lib.itoa co]).length : Nat) : Int) = (A.length : Int) + 2 by simp] at this
   exact this
 ·rw [if_neg hi, List.nil_append] at hA
  have := h A sl hA (fun _ _ => rfl)
  rw [hn hi]; exact this
theorem amq (hA : av = A ++ ((if 0 ≤ Lib.indexByte (a8 nm).2.2 99 then [[45, 99], Lib.itoa ch] else []) ++ B)) (hb : 0 ≤ Lib.indexByte (a8 nm).2.2 99 → 1 ≤ ch) (hb2 : ch ≤ 16384) (hn : ¬ 0 ≤ Lib.indexByte (a8 nm).2.2 99 → h0 = ch) (hs : sl.count 99 = 0)
  (h : ∀ A' sl', av = A' ++ B → aa6 av false (mkP nm (nm, [], [], [], ou, bu, co, ch, 0, 0, []) A'.length 0) sl' r) :
  aa6 av false (mkP nm (nm, [], [], [], ou, bu, co, h0, 0, 0, []) A.length 0) sl r := by
 by_cases hi : 0 ≤ Lib.indexByte (a8 nm).2.2 99
 ·rw [if_pos hi] at hA
  have hb := hb hi
  obtain ⟨n1, n2, _⟩ := abk (n := ch) (by omega) (by omega)
  refine aic (A := A) (v := Lib.itoa ch) (B := B) (l := 99) (q2 := mkP nm (nm, [], [], [], ou, bu, co, ch, 0, 0, []) 0 0) (by rw [hA]; rfl) rfl (by simp) hi hs ?_ ?_
  ·rw [show (((99 : UInt8).toNat : Nat) : Int) = 99 from rfl]
   unfold w1
   rw [if_neg (by decide), if_neg (by decide), if_pos rfl, n1, n2, decide_eq_true hb, decide_eq_true hb2]; rfl
  ·have := h (A ++ [[45, 99], Lib.itoa ch]) (99 :: sl) (by rw [hA]; simp)
   rw [show (((A ++ [[45, 99], Lib.itoa ch]).length : Nat) : Int) = (A.length : Int) + 2 by simp] at this
   exact this
 ·rw [if_neg hi, List.nil_append] at hA
  have := h A sl hA
  rw [hn hi]; exact this
end
theorem am6 {nm : Bs} (h : u2 nm = true) : 0 ≤ Lib.indexByte (a8 nm).2.2 98 := by
 obtain ⟨h1, _⟩ := adw h
 exact (by decide : ∀ s ∈ shapes, 0 ≤ Lib.indexByte s.2.2 98) _ h1
theorem ahv {m : Nat} {av : List Bs} (hm : ∀ s ∈ av, s.length ≤ m) {q : PS} (hq : w9 av ps0 = .ok q) : ∃ q2, w9 (b7 (cmT q)) ps0 = .ok q2 ∧ cmT q2 = cmT q := by
 obtain ⟨hc, g⟩ := ahe hm hq
 obtain ⟨nm, le, vi, so, ou, bu, co, ch, a, d, te, sn, sops, sopts, at1, got⟩ := q
 have hc : u2 nm = true := hc
 obtain ⟨_, _, _, gou, gbu, gco, gco0, gch, gch0, gch1, ga, gd, gle, gvi, gso, gte, ga9, gd9, _⟩ := g
 dsimp only at gou gbu gco gco0 gch gch0 gch1 ga gd gle gvi gso gte ga9 gd9
 show ∃ q2, w9 (b7 (nm, le, vi, so, ou, bu, co, ch, a, d, te)) ps0 = .ok q2 ∧ cmT q2 = (nm, le, vi, so, ou, bu, co, ch, a, d, te)
 generalize hC : (nm, le, vi, so, ou, bu, co, ch, a, d, te) = c
 have hsplit : b7 c = [nm] ++ [45, 98] :: Lib.itoa bu :: ((if ou = [] then [] else [[45, 111], ou]) ++ ((if 0 ≤ Lib.indexByte (a8 nm).2.2 110 then [[45, 110], Lib.itoa co] else []) ++ ((if 0 ≤ Lib.indexByte (a8 nm).2.2 99 then [[45, 99], Lib.itoa ch] else []) ++ [45, 45] :: (a8 nm).2.1.flatMap (acr c)))) := by
  unfold b7
  rw [← hC, aac, aab, y8]
  simp only [List.append_assoc, List.cons_append, List.nil_append]
 generalize hav : b7 c = av' at hsplit
 have h0 : i7 av' 0 = nm := (abq (av := av') (A := []) (x := nm) (i := 0) (by rw [hsplit]; rfl) rfl).1
 have hl0 : ¬ av'.length = 0 := by rw [hsplit]; simp
 obtain ⟨n1, n2⟩ := ac6 hc
 obtain ⟨_, hops, _⟩ := afz hc
 obtain ⟨va1, va2, _⟩ := abk ga.1 ga.2
 obtain ⟨vd1, vd2, _⟩ := abk gd.1 gd.2
 have hst := aem av'
 have e1 := abm av'
 have e2 := abp av'
 rw [h0] at hst e1 e2
 have key : ∃ q2, cmT q2 = c ∧ aa6 av' false (q9 av' ps0) [] (.ok q2) := by
  have hcm : ∀ i : Int, cmT (al6 c (mkP nm (nm, [], [], [], ou, bu, co, ch, 0, 0, []) i 0) (a8 nm).2.1) = c := by
   intro i
   have := adm (nm := nm) (le := le) (vi := vi) (so := so) (ou := ou) (te := te) (bu := bu) (co := co) (ch := ch) va2 vd2 (a8 nm).2.1 (mkP nm (nm, [], [], [], ou, bu, co, ch, 0, 0, []) i 0) hops
   rw [hC] at this
   rw [this, ← hC]
   have f1 : (if 108 ∈ (a8 nm).2.1 then le else []) = le := by split; rfl; exact (gle.resolve_right (by assumption)).symm
   have f2 : (if 118 ∈ (a8 nm).2.1 then vi else []) = vi := by split; rfl; exact (gvi.resolve_right (by assumption)).symm
   have f3 : (if 115 ∈ (a8 nm).2.1 then so else []) = so := by split; rfl; exact (gso.resolve_right (by assumption)).symm
   have f4 : (if 116 ∈ (a8 nm).2.1 then te else []) = te := by split; rfl; exact (gte.resolve_right (by assumption)).symm
   have f5 : (if 97 ∈ (a8 nm).2.1 then a else 0) = a := by split; rfl; exact (ga9.resolve_right (by assumption)).symm
   have f6 : (if 100 ∈ (a8 nm).2.1 then d else 0) = d := by split; rfl; exact (gd9.resolve_right (by assumption)).symm
   simp only [mkP, f1, f2, f3, f4, f5, f6]
  have go : ∀ (r : Except (Int × Bs) PS), (∀ A' sl', av' = A' ++ (a8 nm).2.1.flatMap (acr c) → aa6 av' true (mkP nm (nm, [], [], [], ou, bu, co, ch, 0, 0, []) A'.length 0) sl' r) → aa6 av' false (q9 av' ps0) [] r := by
   intro r hr
   rw [hst, e1, e2]
   refine ame (A := [nm]) hsplit gbu (am6 hc) rfl fun A1 s1 h1 k1 => ?_
   refine amh h1 gou ((k1 111 (by decide)).trans rfl) fun A2 s2 h2 k2 => ?_
   refine am1 h2 gco (fun hi => ?_) ((k2 110 (by decide)).trans ((k1 110 (by decide)).trans rfl)) fun A3 s3 h3 k3 => ?_
   ·rw [if_neg (fun hw => hi (n1.2 hw))]; exact (gco0.resolve_right hi).symm
   refine amq h3 gch1 gch.2 (fun hi => ?_) ((k3 99 (by decide)).trans ((k2 99 (by decide)).trans ((k1 99 (by decide)).trans rfl))) fun A4 s4 h4 => ?_
   ·rw [if_neg (fun hw => hi (n2.2 hw))]; exact (gch0.resolve_right hi).symm
   refine am0 (A := A4) (B := (a8 nm).2.1.flatMap (acr c)) h4 rfl ?_
   have := hr (A4 ++ [([45, 45] : Bs)]) s4 (by rw [h4]; simp)
   have e3 : ((A4 ++ [([45, 45] : Bs)]).length : Int) = (A4.length : Int) + 1 := by simp
   rw [e3] at this
   exact this
  have hlen : ∀ A' : List Bs, av' = A' ++ (a8 nm).2.1.flatMap (acr c) → (A'.length : Int) = (av'.length : Int) - (((a8 nm).2.1.flatMap (acr c)).length : Int) := by
   intro A' h
   have := congrArg List.length h
   rw [List.length_append] at this
   omega
  refine ⟨_, hcm ((av'.length : Int) - (((a8 nm).2.1.flatMap (acr c)).length : Int)), go _ fun A' sl' h => ?_⟩
  have hw : l8 (ace c 97) = true ∧ l8 (ace c 100) = true := by rw [← hC]; exact ⟨va1, vd1⟩
  rw [← hlen A' h]
  exact aj0 hw (a8 nm).2.1 [] A' _ rfl rfl hops h rfl
 obtain ⟨q2, hq2, hgo⟩ := key
 refine ⟨q2, ?_, hq2⟩
 unfold w9
 rw [if_neg hl0, h0, if_neg (by rw [hc]; decide)]
 exact hgo av'.length (by rw [hst]; show (av'.length : Int) ≤ 1 + av'.length; omega)
theorem ag0 {m : Nat} {q : PS} (hc : u2 q.name = true) (g : Good m q.name q) : agx (cmT q) := by
 obtain ⟨_, _, _, _, gbu, gco, _, gch, _, _, ga, gd, _⟩ := g
 refine ⟨hc, ?_, ?_, ?_, ?_, ?_⟩ <;> unfold I64 <;> simp only [cmT] <;> omega
theorem aju {m : Nat} (hm : 21 ≤ m) {q : PS} (hc : u2 q.name = true) (g : Good m q.name q) : ∀ s ∈ b7 (cmT q), s.length ≤ m := by
 have hb := ag0 hc g
 obtain ⟨z1, z2, z3, z4, z5, z6⟩ := g.size
 obtain ⟨nm, le, vi, so, ou, bu, co, ch, a, d, te, sn, sops, sopts, at1, got⟩ := q
 obtain ⟨_, b1, b2, b3, b4, b5⟩ := hb
 dsimp only at z1 z2 z3 z4 z5 z6
 have l1 : (Lib.itoa bu).length ≤ 21 := aav b1
 have l2 : (Lib.itoa co).length ≤ 21 := aav b2
 have l3 : (Lib.itoa ch).length ≤ 21 := aav b3
 have l4 : (Lib.itoa a).length ≤ 21 := aav b4
 have l5 : (Lib.itoa d).length ≤ 21 := aav b5
 intro s hs
 have hs : s ∈ b7 (nm, le, vi, so, ou, bu, co, ch, a, d, te) := hs
 unfold b7 at hs
 rw [aac, aab, y8] at hs
 simp only [List.mem_append, List.mem_flatMap, List.mem_cons, List.mem_nil_iff, or_false] at hs
 rcases hs with ((((((rfl | rfl | rfl) | h) | h) | h) | rfl) | ⟨x, _, h⟩)
 ·omega
 ·simp; omega
 ·omega
 ·split at h
  ·cases h
  ·simp only [List.mem_cons, List.mem_nil_iff, or_false] at h
   rcases h with rfl | rfl
   ·simp; omega
   ·omega
 ·split at h
  ·simp only [List.mem_cons, List.mem_nil_iff, or_false] at h
   rcases h with rfl | rfl
   ·simp; omega
   ·omega
  ·cases h
 ·split at h
  ·simp only [List.mem_cons, List.mem_nil_iff, or_false] at h
   rcases h with rfl | rfl
   ·simp; omega
   ·omega
  ·cases h
 ·simp; omega
 ·rw [adt] at h
  by_cases g1 : x = 108
  ·rw [if_pos g1] at h; obtain rfl := List.mem_singleton.1 h; omega
  rw [if_neg g1] at h
  by_cases g2 : x = 118
  ·rw [if_pos g2] at h; obtain rfl := List.mem_singleton.1 h; omega
  rw [if_neg g2] at h
  by_cases g3 : x = 115
  ·rw [if_pos g3] at h; obtain rfl := List.mem_singleton.1 h; omega
  rw [if_neg g3] at h
  by_cases g4 : x = 116
  ·rw [if_pos g4] at h; obtain rfl := List.mem_singleton.1 h; omega
  rw [if_neg g4] at h
  by_cases g5 : x = 97
  ·rw [if_pos g5] at h; obtain rfl := List.mem_singleton.1 h; omega
  rw [if_neg g5] at h
  by_cases g6 : x = 100
  ·rw [if_pos g6] at h; obtain rfl := List.mem_singleton.1 h; omega
  rw [if_neg g6] at h; cases h
theorem agq (c : CmT) : (b7 c).length ≤ 15 := by
 have := (abt c).2.2
 have := aeg c (a8 c.1).2.1
 have := (aag c.1).1
 unfold b7
 rw [List.length_append, List.length_append]
 simp only [List.length_cons, List.length_nil]
 omega
theorem ajj {av : List Bs} (hb : ∀ s ∈ av, s.length ≤ 140737488351232) (h : ¬ aat av = true) : agx (b6 av) ∧ AvB (b7 (b6 av)) ∧ b6 (b7 (b6 av)) = b6 av ∧ m4 (b7 (b6 av)) = (0, 0, []) := by
 unfold aat at h
 cases hq : w9 av ps0 with
 | error e => rw [hq] at h; exact absurd rfl h
 | ok q =>
  obtain ⟨hc, g⟩ := ahe hb hq
  have e : b6 av = cmT q := by unfold b6; rw [hq]
  obtain ⟨q2, h1, h2⟩ := ahv hb hq
  rw [e]
  refine ⟨ag0 hc g, ⟨?_, fun s hs => ?_⟩, ?_, ?_⟩
  ·have := agq (cmT q); omega
  ·have := aju (by omega) hc g s hs; omega
  ·unfold b6; rw [h1]; exact h2
  ·unfold m4; rw [h1]
theorem agb (te : TypeId) (fre : Nat × Nat) (te2 : TypeId) (fre2 : Nat × Nat) (v : Value) (l : List Bs) (hb : l.length ≤ 8796093022207 ∧ ∀ s ∈ l, s.length ≤ 140737488351232) (R : List (Nat × Obj)) (hR : w8 v R l.length (l.flatMap j3)) :
  j8 Tryd.prog 5 [v] (R ++ (adg te fre ++ [(2, .cells aau.toArray te2 fre2)])) [] (Ret (.bool true) []) := by
 obtain ⟨h1, h2⟩ := hb
 have hA : AvB l := ⟨by omega, fun s hs => by have := h2 s hs; omega⟩
 refine j8.one (e := fun v => .bool v) (ai9 v te fre te2 fre2 l R hR (fun v => v = true) ?_)
 unfold ac3
 refine ⟨⟨by simp only [List.length_nil]; omega, by simp only [List.length_nil]; omega⟩, hA, hA, ?_⟩
 by_cases hn : aat l = true
 ·obtain ⟨e1, e2⟩ := aka hn
  rw [if_neg (by simp [o8, hn, e2]), if_pos hn]
 ·obtain ⟨c1, c2, c3, c4⟩ := ajj h2 hn
  rw [if_neg (by simp [o8, aj2 hn]; simpa using hn), if_neg hn]
  refine ⟨c1, c1, c1, ⟨c2, c2⟩, fun _ => ⟨c2, c2⟩, ?_⟩
  rw [if_neg (by simp)]
  have hlen := agq (b6 l)
  refine ⟨fun i x => 0 ≤ i ∧ i ≤ x.length ∧ x.length ≤ 15, fun i x => (x.length - i).toNat, ⟨by omega, by omega, hlen⟩, fun i x ⟨i0, i1, i2⟩ => ?_⟩
  by_cases hi : i < (x.length : Int)
  ·rw [if_pos (decide_eq_true hi)]
   refine ⟨⟨i0, hi⟩, by unfold I64; omega, ⟨by omega, by rw [List.length_set]; omega, by rw [List.length_set]; exact i2⟩, ?_⟩
   dsimp only
   rw [List.length_set]; omega
  ·rw [if_neg (by rw [decide_eq_true_eq]; exact hi)]
   refine ⟨c1, c2, ⟨c2, c2⟩, fun _ => ⟨c2, c2⟩, ?_⟩
   simp [o8, c3, c4]
end Go.Proofs.YtaaepdlajkdneaaDoor
namespace Go.Proofs.YtaaepdlajkdneaaDoor
open Go Go.ChangeShapes Go.WideShapes Go.ChangeAt Go.RowKit
theorem ak3 : (Tryd.prog.globals[2]?).map (·.type) = some 90 := by kernel_rfl
theorem ajo : Tryd.prog.cellsOf 90 = 20 := by kernel_rfl
theorem aja : Tryd.prog.cellsOf 57 = 1 := by kernel_rfl
set_option maxRecDepth 100000 in
theorem ags {W : World} (h : laidMetH Tryd.prog ag1 W) : ∃ te fre, W.heap[2]? = some (.cells aau.toArray te fre) := by
 rw [adc] at h
 have h2 : Lib.TabIs Tryd.prog W "internal/strconv.uint64pow10" .u64 Lib.pow10Tab :=
  Lib.tabIs_of_head acm ak3 Tryd.underlying90 Tryd.underlying57 aja ajo (r6 (r6 h))
 unfold Lib.TabIs World.var? at h2
 rw [acm, aie] at h2
 simp only [Option.bind_some] at h2
 split at h2
 ·rename_i cs t fr hg
  obtain rfl := Option.some.inj h2
  exact ⟨t, fr, hg⟩
 ·cases h2
set_option maxRecDepth 100000 in
theorem ag5 {f : FuncId} {vs : List Value} {v : Value} {W : World} {R : List (Nat × Obj)} (hL : laidMetH Tryd.prog ag1 W) (hR : ∀ q ∈ R, W.heap[q.1]? = some q.2)
  (h : ∀ te fre te2 fre2, j8 Tryd.prog f vs (R ++ (adg te fre ++ [(2, .cells aau.toArray te2 fre2)])) [] (Ret v [])) :
  Calls Tryd.prog f vs.toArray W fun e W' => e = .returned v ∧ Below W.heap.size W W' := by
 obtain ⟨te, fre, he⟩ := ah2 hL
 obtain ⟨te2, fre2, he2⟩ := ags hL
 refine (h te fre te2 fre2 W [] rfl List.nodup_nil (fun k hk => by cases hk) (fun p hp => ?_)).mono ?_
 ·rcases List.mem_append.1 hp with hp | hp
  ·exact ⟨hR p hp, fun hx => by cases hx⟩
  ·rcases List.mem_append.1 hp with hp | hp
   ·obtain rfl := List.mem_singleton.1 hp; exact ⟨he, fun hx => by cases hx⟩
   ·obtain rfl := List.mem_singleton.1 hp; exact ⟨he2, fun hx => by cases hx⟩
 ·rintro en w' ⟨H', hS, hh⟩
  rcases hS with ⟨r, rfl, hS⟩ | ⟨c, rfl, hS⟩
  ·cases hS; exact ⟨rfl, hh.toBelow⟩
  ·cases hS
theorem aez (os : Os) : laidMet Tryd.prog Rows.argsShowsRow.laid ((ac0 os).forCall (fun _ _ => 0) ⟨#[], #[.slice none 0 0], []⟩).memory :=
 laidMet_of_run' 8 (by kernel_rfl) (by kernel_rfl)
theorem adn (os : Os) {H : Type} (enc : TypeId × Value → H) : ∃ places, DataW.whole enc Tryd.prog ((ac0 os).forCall (fun _ _ => 0) ⟨#[], #[.slice none 0 0], []⟩).memory Tryd.f5.params.toList Rows.argsShowsSpec.vars false (#[.slice none 0 0] : Array Value).toList 8 = some ([.nil], [], places) :=
 ⟨[], by kernel_rfl⟩
set_option maxRecDepth 100000 in
theorem ac8 (os : Os) (started : os.Started) (H : Type) (enc : TypeId × Value → H) (F : Stop.Interp) :
  ReturnsInHanded {} Tryd.checked os 5 .any ((OpenSpec.ofChange Rows.argsShowsSpec).preRow enc Tryd.prog Tryd.f5 Rows.argsShowsRow.domain false Rows.argsShowsRow.laid) (((OpenSpec.ofChange Rows.argsShowsSpec).at F).post enc Tryd.prog Tryd.f5 false true false false) := by
 obtain ⟨places, hx⟩ := adn os enc
 refine returnsInHanded_of_row (C := Tryd.checked) (s := OpenSpec.ofChange Rows.argsShowsSpec) akp started (by kernel_rfl) Tryd.func5
  (witness_row_atRef (enc := enc) (C := Tryd.checked) false (ac0 os) #[.slice none 0 0] rfl (by kernel_rfl) (by kernel_rfl) (by kernel_rfl)
   (OpenSpec.preRow_of_cond 8 hx (by kernel_rfl) (fun k hk => by cases hk) (by kernel_rfl) (aez os))) ?_
 intro W base args ds gs before hval0 hW _ hcond hwt0 hL _ _
 have hval : ∀ (j : Nat) t v, Tryd.f5.params[j]? = some t → args[j]? = some v → Value.okWide Tryd.prog W .any base t v := hval0
 have hW' : DataW.Whole enc Tryd.prog Tryd.f5.params.toList Rows.argsShowsSpec.vars false W args.toList ds gs before := hW
 obtain ⟨p, q, hA0, hV, rfl, _, _⟩ := hW'
 have hA : DataW.TrodAll enc Tryd.prog W 0 (fun _ => true) true Tryd.f5.params.toList args.toList ds p := hA0
 have hwt : (DataW.weightsEach Tryd.prog (Tryd.f5.params.toList ++ Rows.argsShowsSpec.plain.varTypes Tryd.prog) (ds ++ gs)).all (· ≤ reachBytes) = true := hwt0
 rw [Tryd.params5] at hA hval hwt
 obtain ⟨v0, d0, rfl, rfl, h0⟩ := trodAll_one hA
 obtain ⟨rfl, rfl⟩ := trodVars_none hV
 obtain ⟨R0, l0, hR0, hRW0, e0⟩ := ai8 (hval 0 _ v0 rfl rfl) h0
 have r0 := ahq hwt (j := 0) rfl rfl e0
 refine (ag5 hL hRW0 (fun te fre te2 fre2 => agb te fre te2 fre2 v0 l0 r0 R0 hR0)).mono fun e W' ⟨he, hb⟩ => ?_
 subst he
 exact ⟨_, rfl, akd aj5 rfl Tryd.underlying4 (by kernel_rfl) rfl hW rfl hb⟩
theorem ad4 : Rows.ArgsShowsSaid :=
 OpenClaim.holds_of_cond 5 Tryd.f5 rfl rfl rfl rfl rfl rfl rfl ⟨rfl, rfl, rfl, rfl, rfl⟩ rfl rfl rfl rfl rfl (by kernel_rfl) Tryd.func5 (by kernel_rfl)
  (of_decide_eq_true (by kernel_rfl)) (by unfold Func.isWrapper; rw [if_neg (of_decide_eq_false (by kernel_rfl))]; exact ⟨rfl, rfl⟩)
  (fun os started H enc _ F => by rw [OpenClaim.pre_eq_preRow]; exact ac8 os started H enc F)
theorem argsShows_card_holds : Rows.ArgsShowsCardSaid :=
 Claim7.holds_tied_plain_at .later [] _ _ _ _ ad4 (fun _ h => by cases h) (by kernel_rfl) (fun _ h => by cases h) argsShows_row_tie rfl ⟨rfl, rfl⟩ (by kernel_rfl) rfl
  (fun f fn hf hfn => by
   obtain rfl : f = 5 := Option.some.inj ((show Tryd.prog.funcNamed "loupe/loupelaw26.ArgsShows" = some 5 by kernel_rfl).symm.trans hf) |>.symm
   obtain rfl : fn = Tryd.f5 := (Option.some.inj (Tryd.func5.symm.trans hfn)).symm
   refine ⟨by kernel_rfl, fun j t ht => ?_⟩
   rw [Tryd.params5] at ht
   have h3 : t = 22 := by simpa using Array.mem_of_getElem? ht
   rcases h3 with rfl
   ·exact (show Tryd.prog.wantsStandIn 22 = false by kernel_rfl))
  (by kernel_rfl)
end Go.Proofs.YtaaepdlajkdneaaDoor
