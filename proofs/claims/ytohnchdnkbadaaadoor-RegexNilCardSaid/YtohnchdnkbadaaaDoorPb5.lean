/-
  Merged: TiedR, RxT, RfD, RfV, RfR, RfA, RfB, RfC, RfE, RxC, RxP.
-/
import Derived.Test.YtohnchdnkbadaaaDoorRows
import Derived.Test.YtohnchdnkbadaaaDoorCards
import Derived.Test.YtohnchdnkbadaaaDoorTie
import Derived.Test.YtohnchdnkbadaaaDoorPb4
namespace Go.Proofs.YtohnchdnkbadaaaDoor
open Go Go.ChangeShapes Go.WideShapes Go.ChangeAt Go.RowKit

set_option maxRecDepth 100000 in
theorem laidWorld_met (os : Os) (args : Array Value) : laidMetH Tryd.prog escLaid ((laidWorld os).forCall (fun _ _ => 0) ⟨#[], args, []⟩).memory := by
 rw [laid_plain]
 exact ⟨_, ⟨1, 214, escCells, 8, [], [], by kernel_rfl, by kernel_rfl, by kernel_rfl, by kernel_rfl, rfl, rfl⟩, by decide, fun b off h => by
    have h' : MemPlace.cell b off ∈ [MemPlace.cell 1 0, .cell 1 1, .cell 1 2, .cell 1 3, .cell 1 4, .cell 1 5] := h
    have hb : b = 1 := by
     simp at h'
     omega
    subst hb
    refine ⟨⟨_, _, laidWorld_row os _⟩, fun u v hc => ?_⟩
    simp only [World.cell?, laidWorld_row os] at hc
    simp at h'
    rcases h' with rfl | rfl | rfl | rfl | rfl | rfl <;> simp [escCells] at hc⟩


/-- A contract of the calculus of walks under the table is one of the elder form. -/
theorem Does.pureE {f : FuncId} {vs : List Value} {v : Value} (h : ∀ te fre, Does Tryd.prog f vs (escTab te fre) [] (Ret v [])) : PureE f vs.toArray v := fun w ⟨te, fre, he⟩ => by
 refine (h te fre w [] rfl List.nodup_nil (fun k hk => by cases hk) (fun p hp => by obtain rfl := List.mem_singleton.1 hp; exact ⟨he, fun hx => by cases hx⟩)).mono ?_
 rintro en w' ⟨H', hS, hh⟩
 rcases hS with ⟨r, rfl, hS⟩ | ⟨c, rfl, hS⟩
 ·cases hS; exact ⟨rfl, hh.toBelow⟩
 ·cases hS
end Go.Proofs.YtohnchdnkbadaaaDoor
namespace Go.Proofs.YtohnchdnkbadaaaDoor
open Go Go.RowKit

def intC (n : Int) : List Value := [.int .i64 n]
theorem intC_len (n : Int) : (intC n).length = 1 := rfl
theorem nx_bd (t : List UInt8) (j : Int) : 0 ≤ nx t j ∧ nx t j < 256 := by
 unfold nx
 have := (t.getD j.toNat 0).toNat_lt
 omega
theorem nx_out {t : List UInt8} {j : Int} (h : (t.length : Int) ≤ j) : nx t j = 0 := by
 unfold nx
 rw [List.getD_eq_getElem?_getD, List.getElem?_eq_none (by omega)]; rfl
theorem RP.total (t : List UInt8) : ∀ (n : Nat) (x : Tr) (j : Int), 0 ≤ j → (t.length : Int) - j < n → ∃ r, RP t x j r
 | 0, x, j, h0, h => ⟨_, .zero (by omega)⟩
 | n + 1, x, j, h0, h => by
  by_cases hl : j < t.length
  ·by_cases h1 : nx t j = 42 ∨ nx t j = 43 ∨ nx t j = 63
   ·obtain ⟨r, hr⟩ := RP.total t n (postT (nx t j) x) (j + 1) (by omega) (by omega)
    exact ⟨r, .one hl h1 hr⟩
   ·by_cases h2 : nx t j = 123
    ·cases hb : bracesM t x j with
     | error e => exact ⟨_, .braceE hl h2 hb⟩
     | ok p =>
      obtain ⟨y, k⟩ := p
      have := bracesM_ok hb h0 hl
      obtain ⟨r, hr⟩ := RP.total t n y k (by omega) (by omega)
      exact ⟨r, .brace hl h2 hb hr⟩
    ·exact ⟨_, .zero (by omega)⟩
  ·exact ⟨_, .zero (by omega)⟩
theorem RP.tot (t : List UInt8) (x : Tr) {j : Int} (h0 : 0 ≤ j) : ∃ r, RP t x j r := RP.total t ((t.length : Int) - j + 1).toNat x j h0 (by omega)
abbrev Tot (t : List UInt8) (m : Md) (i : Int) : Prop := ∀ d, ∃ r, PR t m d i r
theorem row_total {t : List UInt8} {i : Int} (hA : ∀ j, i < j → Tot t .alt j) : ∀ (n : Nat) (acc : Option Tr) (j : Int), i ≤ j → 0 ≤ j → (t.length : Int) - j < n → Tot t (.row acc) j
 | 0, acc, j, _, h0, h, d => ⟨_, .rowZ (by omega)⟩
 | n + 1, acc, j, hi, h0, h, d => by
  by_cases hl : j < t.length
  ·by_cases h1 : nx t j = 124 ∨ nx t j = 38 ∨ nx t j = 45 ∨ nx t j = 41
   ·exact ⟨_, .rowZ (by omega)⟩
   by_cases h2 : nx t j = 42 ∨ nx t j = 43 ∨ nx t j = 63 ∨ nx t j = 123
   ·exact ⟨_, .rowB hl h2⟩
   by_cases h3 : nx t j = 40
   ·by_cases hd : d < 1000
    ·obtain ⟨q, hq⟩ := hA (j + 1) (by omega) (d + 1)
     cases q with
     | error e => exact ⟨_, .rowPE hl h3 hd hq⟩
     | ok p =>
      obtain ⟨x, k⟩ := p
      have hk := hq.ends (by omega) (by omega) _ _ rfl
      by_cases hkl : k < t.length
      ·obtain ⟨q2, hq2⟩ := RP.tot t x (j := k + 1) (by omega)
       cases q2 with
       | error e => exact ⟨_, .rowPR hl h3 hd hq hkl hq2⟩
       | ok p2 =>
        obtain ⟨y, l⟩ := p2
        have hl2 := hq2.ends (by omega) (by omega) _ _ rfl
        obtain ⟨r, hr⟩ := row_total hA n (accT acc y) l (by omega) (by omega) (by omega) d
        exact ⟨r, .rowP hl h3 hd hq hkl hq2 hr⟩
      ·exact ⟨_, .rowO hl h3 hd hq hkl⟩
    ·exact ⟨_, .rowN hl h3 (by omega)⟩
   ·have hc : nx t j ∉ [124, 38, 45, 41, 42, 43, 63, 123, 40] := by simp; omega
    rcases hm : readM t j with ⟨s, k, e, p⟩
    by_cases hz : e = 0 ∧ p = 0
    ·obtain ⟨rfl, rfl⟩ := hz
     have hk := readM_ok hm h0
     obtain ⟨q2, hq2⟩ := RP.tot t (.cls s) (j := k) (by omega)
     cases q2 with
     | error e => exact ⟨_, .rowCR hl hc hm hq2⟩
     | ok p2 =>
      obtain ⟨y, l⟩ := p2
      have hl2 := hq2.ends (by omega) (by omega) _ _ rfl
      obtain ⟨r, hr⟩ := row_total hA n (accT acc y) l (by omega) (by omega) (by omega) d
      exact ⟨r, .rowC hl hc hm hq2 hr⟩
    ·exact ⟨_, .rowCE hl hc hm hz⟩
  ·exact ⟨_, .rowZ (by omega)⟩
theorem meetL_total {t : List UInt8} {i : Int} (hR : ∀ j, i ≤ j → 0 ≤ j → Tot t (.row none) j) : ∀ (n : Nat) (x : Tr) (j : Int), i ≤ j → 0 ≤ j → (t.length : Int) - j < n → Tot t (.meetL x) j
 | 0, x, j, _, h0, h, d => ⟨_, .meetZ (by omega)⟩
 | n + 1, x, j, hi, h0, h, d => by
  by_cases hc : j < t.length ∧ (nx t j = 38 ∨ nx t j = 45)
  ·obtain ⟨q, hq⟩ := hR (j + 1) (by omega) (by omega) d
   cases q with
   | error e => exact ⟨_, .meetLE hc.1 hc.2 hq⟩
   | ok p =>
    obtain ⟨y, k⟩ := p
    have hk := hq.ends (by omega) (by omega) _ _ rfl
    obtain ⟨r, hr⟩ := meetL_total hR n (andT (nx t j) x y) k (by omega) (by omega) (by omega) d
    exact ⟨r, .meetL hc.1 hc.2 hq hr⟩
  ·exact ⟨_, .meetZ hc⟩
theorem altL_total {t : List UInt8} {i : Int} (hM : ∀ j, i ≤ j → 0 ≤ j → Tot t .meet j) : ∀ (n : Nat) (x : Tr) (j : Int), i ≤ j → 0 ≤ j → (t.length : Int) - j < n → Tot t (.altL x) j
 | 0, x, j, _, h0, h, d => ⟨_, .altZ (by omega)⟩
 | n + 1, x, j, hi, h0, h, d => by
  by_cases hc : j < t.length ∧ nx t j = 124
  ·obtain ⟨q, hq⟩ := hM (j + 1) (by omega) (by omega) d
   cases q with
   | error e => exact ⟨_, .altLE hc.1 hc.2 hq⟩
   | ok p =>
    obtain ⟨y, k⟩ := p
    have hk := hq.ends (by omega) (by omega) _ _ rfl
    obtain ⟨r, hr⟩ := altL_total hM n (.alt x y) k (by omega) (by omega) (by omega) d
    exact ⟨r, .altL hc.1 hc.2 hq hr⟩
  ·exact ⟨_, .altZ hc⟩
theorem alt_total (t : List UInt8) : ∀ (n : Nat) (i : Int), 0 ≤ i → (t.length : Int) - i < n → Tot t .alt i
 | 0, i, h0, h, d => ⟨_, .alt (.meet (.rowZ (by omega)) (.meetZ (by omega))) (.altZ (by omega))⟩
 | n + 1, i, h0, h, d => by
  have hA : ∀ j, i < j → Tot t .alt j := fun j hj => alt_total t n j (by omega) (by omega)
  have hR : ∀ j, i ≤ j → 0 ≤ j → Tot t (.row none) j := fun j hj h0 => row_total hA ((t.length : Int) - j + 1).toNat none j hj h0 (by omega)
  have hM : ∀ j, i ≤ j → 0 ≤ j → Tot t .meet j := fun j hj h0 d => by
   obtain ⟨q, hq⟩ := hR j hj h0 d
   cases q with
   | error e => exact ⟨_, .meetE hq⟩
   | ok p =>
    obtain ⟨x, k⟩ := p
    by_cases hjl : j ≤ t.length
    ·have hk := hq.ends (by omega) (by omega) _ _ rfl
     obtain ⟨r, hr⟩ := meetL_total hR ((t.length : Int) - k + 1).toNat x k (by omega) (by omega) (by omega) d
     exact ⟨r, .meet hq hr⟩
    ·have : k = j := by cases hq with
      | rowZ => rfl
      | _ => omega
     exact ⟨_, .meet hq (.meetZ (by omega))⟩
  obtain ⟨q, hq⟩ := hM i (by omega) h0 d
  cases q with
  | error e => exact ⟨_, .altE hq⟩
  | ok p =>
   obtain ⟨x, k⟩ := p
   by_cases hil : i ≤ t.length
   ·have hk := hq.ends (by omega) (by omega) _ _ rfl
    obtain ⟨r, hr⟩ := altL_total hM ((t.length : Int) - k + 1).toNat x k (by omega) (by omega) (by omega) d
    exact ⟨r, .alt hq hr⟩
   ·exact ⟨_, .alt (.meet (.rowZ (by omega)) (.meetZ (by omega))) (.altZ (by omega))⟩

/-! ### trees without nil -/
def Tr.solid : Tr → Prop
 | .none => False
 | .eps | .cls _ => True
 | .cat a b => a.solid ∧ b.solid
 | .alt a b => a.solid ∧ b.solid
 | .star a => a.solid
 | .and a b => a.solid ∧ b.solid
 | .minus a b => a.solid ∧ b.solid
theorem catN_solid {y : Tr} (hy : y.solid) : ∀ (k : Nat) {x : Tr}, x.solid → (catN x y k).solid
 | 0, _, hx => hx
 | k + 1, _, hx => catN_solid hy k ⟨hx, hy⟩
theorem timesT_solid {x : Tr} (h : x.solid) (m n : Int) : (timesT x m n).solid := by
 unfold timesT
 split
 ·exact h
 ·split
  ·exact trivial
  ·have h1 : (if m = 0 then Tr.alt x .eps else x).solid := by split <;> first | exact ⟨h, trivial⟩ | exact h
   have h2 := catN_solid h (m - 1).toNat h1
   simp only
   split
   ·exact ⟨h2, h⟩
   ·exact catN_solid (y := .alt x .eps) ⟨h, trivial⟩ _ h2
theorem bracesM_solid {t : List UInt8} {x y : Tr} {j k : Int} (h : bracesM t x j = .ok (y, k)) (hx : x.solid) : y.solid := by
 unfold bracesM at h
 split at h
 ·cases h
 ·split at h
  ·cases h
  ·split at h
   ·split at h
    ·cases h
    ·simp only [Except.ok.injEq, Prod.mk.injEq] at h
     rw [← h.1]; exact timesT_solid hx _ _
   ·cases h
theorem RP.solid {t : List UInt8} {x : Tr} {j : Int} {r : PRes} (h : RP t x j r) : x.solid → ∀ y k, r = .ok (y, k) → y.solid := by
 induction h with
 | zero => intro hx y k e; cases e; exact hx
 | one h1 h2 _ ih =>
  intro hx y k e
  refine ih ?_ y k e
  unfold postT
  split
  ·exact hx
  ·split
   ·exact ⟨hx, hx⟩
   ·exact ⟨hx, trivial⟩
 | brace h1 h2 h3 _ ih => intro hx y k e; exact ih (bracesM_solid h3 hx) y k e
 | braceE => intro hx y k e; cases e
def Md.solid : Md → Prop
 | .altL x => x.solid
 | .meetL x => x.solid
 | .row (some x) => x.solid
 | _ => True
theorem accT_solid {acc : Option Tr} {y : Tr} (h : (Md.row acc).solid) (hy : y.solid) : (Md.row (accT acc y)).solid := by
 cases acc with
 | none => exact hy
 | some x => exact ⟨h, hy⟩
theorem PR.solid {t : List UInt8} {m : Md} {d : Nat} {i : Int} {r : PRes} (h : PR t m d i r) : m.solid → ∀ y k, r = .ok (y, k) → y.solid := by
 induction h with
 | alt _ _ ih1 ih2 => intro _ y k e; exact ih2 (ih1 trivial _ _ rfl) y k e
 | altL _ _ _ _ ih1 ih2 => intro h y k e; exact ih2 ⟨h, ih1 trivial _ _ rfl⟩ y k e
 | «meet» _ _ ih1 ih2 => intro _ y k e; exact ih2 (ih1 trivial _ _ rfl) y k e
 | meetL h1 h2 _ _ ih1 ih2 =>
  intro h y k e
  refine ih2 ?_ y k e
  have := ih1 trivial _ _ rfl
  unfold andT
  show Tr.solid _
  split <;> exact ⟨h, this⟩
 | altZ _ => intro h y k e; cases e; exact h
 | meetZ _ => intro h y k e; cases e; exact h
 | @rowZ d acc j _ => intro h y k e; cases e; cases acc <;> first | exact trivial | exact h
 | rowC h1 h2 h3 h4 _ ih => intro h y k e; exact ih (accT_solid h (h4.solid trivial _ _ rfl)) y k e
 | rowP h1 h2 h3 _ h5 h6 _ ih1 ih2 => intro h y k e; exact ih2 (accT_solid h (h6.solid (ih1 trivial _ _ rfl) _ _ rfl)) y k e
 | _ => intro _ y k e; cases e
theorem Tr.solid_some {x : Tr} (h : x.solid) : x.isNone = false := by cases x <;> first | rfl | exact h.elim

/-! ### errors have numbers -/
theorem readM_err {t : List UInt8} {j : Int} {s : CS} {k e p : Int} (h : readM t j = (s, k, e, p)) (hz : ¬ (e = 0 ∧ p = 0)) : 0 < e := by
 unfold readM at h
 split at h
 ·simp only [Prod.mk.injEq] at h; omega
 ·split at h
  ·simp only [Prod.mk.injEq] at h; omega
  ·simp only [Prod.mk.injEq] at h; omega
theorem numM_err {t : List UInt8} {j : Int} {e : Int × Int} (h : numM t j = .error e) : 0 < e.1 := by
 unfold numM at h
 split at h
 ·cases h; (simp only []; omega)
 ·cases h
theorem bracesM_err {t : List UInt8} {x : Tr} {j : Int} {e : Int × Int} (h : bracesM t x j = .error e) : 0 < e.1 := by
 unfold bracesM at h
 split at h
 ·rename_i hm; cases h; exact numM_err hm
 ·split at h
  ·rename_i hc
   cases h
   unfold comB at hc
   split at hc
   ·split at hc
    ·cases hc
    ·exact numM_err hc
   ·cases hc
  ·split at h
   ·split at h
    ·cases h; (simp only []; omega)
    ·cases h
   ·cases h; (simp only []; omega)
theorem RP.err {t : List UInt8} {x : Tr} {j : Int} {r : PRes} (h : RP t x j r) : ∀ e, r = .error e → 0 < e.1 := by
 induction h with
 | zero => intro e he; cases he
 | one _ _ _ ih => exact ih
 | brace _ _ _ _ ih => exact ih
 | braceE _ _ h3 => intro e he; cases he; exact bracesM_err h3
theorem PR.err {t : List UInt8} {m : Md} {d : Nat} {i : Int} {r : PRes} (h : PR t m d i r) : ∀ e, r = .error e → 0 < e.1 := by
 induction h with
 | alt _ _ _ ih => exact ih
 | altE _ ih => intro e he; cases he; exact ih _ rfl
 | altL _ _ _ _ _ ih => exact ih
 | altLE _ _ _ ih => intro e he; cases he; exact ih _ rfl
 | altZ => intro e he; cases he
 | «meet» _ _ _ ih => exact ih
 | meetE _ ih => intro e he; cases he; exact ih _ rfl
 | meetL _ _ _ _ _ ih => exact ih
 | meetLE _ _ _ ih => intro e he; cases he; exact ih _ rfl
 | meetZ => intro e he; cases he
 | rowZ => intro e he; cases he
 | rowB => intro e he; cases he; show (0 : Int) < 20; decide
 | rowC _ _ _ _ _ ih => exact ih
 | rowCR _ _ _ h4 => intro e he; cases he; exact h4.err _ rfl
 | rowCE _ _ h3 hz => intro e he; cases he; exact readM_err h3 hz
 | rowN => intro e he; cases he; show (0 : Int) < 23; decide
 | rowP _ _ _ _ _ _ _ _ ih => exact ih
 | rowPR _ _ _ _ _ h6 => intro e he; cases he; exact h6.err _ rfl
 | rowPE _ _ _ _ ih => intro e he; cases he; exact ih _ rfl
 | rowO => intro e he; cases he; show (0 : Int) < 21; decide

/-! ### what a text of an expression is -/
/-- What the whole text comes to, its length and its tree's size apart. -/
def TopR (t : List UInt8) (R : Except (Int × Int) Tr) : Prop := ∃ q, PR t .alt 0 0 q ∧ match q with
 | .error e => R = .error e
 | .ok (x, k) => if k < t.length then R = .error (20, k) else R = .ok x
theorem TopR.total (t : List UInt8) : ∃ R, TopR t R := by
 obtain ⟨q, hq⟩ := alt_total t (t.length + 1) 0 (by omega) (by omega) 0
 cases q with
 | error e => exact ⟨_, _, hq, rfl⟩
 | ok p =>
  obtain ⟨x, k⟩ := p
  by_cases hk : k < t.length
  ·exact ⟨.error (20, k), _, hq, by simp only [if_pos hk]⟩
  ·exact ⟨.ok x, _, hq, by simp only [if_neg hk]⟩
theorem TopR.det {t : List UInt8} {R R' : Except (Int × Int) Tr} (h : TopR t R) (h' : TopR t R') : R = R' := by
 obtain ⟨q, h1, h2⟩ := h
 obtain ⟨q', g1, g2⟩ := h'
 obtain rfl := h1.det g1
 cases q with
 | error e => rw [h2, g2]
 | ok p =>
  obtain ⟨x, k⟩ := p
  simp only at h2 g2
  split at h2
  ·rename_i hk; rw [if_pos hk] at g2; rw [h2, g2]
  ·rename_i hk; rw [if_neg hk] at g2; rw [h2, g2]
noncomputable def topT (t : List UInt8) : Except (Int × Int) Tr := Classical.choose (TopR.total t)
theorem topT_spec (t : List UInt8) : TopR t (topT t) := Classical.choose_spec (TopR.total t)
theorem topT_eq {t : List UInt8} {R : Except (Int × Int) Tr} (h : TopR t R) : topT t = R := (topT_spec t).det h
/-- The tree of a text, or the error's number and place. -/
noncomputable def parseT (t : List UInt8) : Except (Int × Int) Tr :=
 if 1048576 < t.length then .error (1, 0) else match topT t with
  | .error e => .error e
  | .ok x => if 2000 < x.size then .error (24, 0) else .ok x
noncomputable def treeT (t : List UInt8) : Tr := match parseT t with
 | .ok x => x
 | .error _ => .none
noncomputable def errT (t : List UInt8) : Int × Int := match parseT t with
 | .ok _ => (0, 0)
 | .error e => e
theorem parseT_ok {t : List UInt8} {x : Tr} (h : parseT t = .ok x) : t.length ≤ 1048576 ∧ x.size ≤ 2000 ∧ x.solid ∧ PR t .alt 0 0 (.ok (x, t.length)) := by
 unfold parseT at h
 split at h
 ·cases h
 ·rename_i hl
  split at h
  ·cases h
  ·rename_i y hy
   split at h
   ·cases h
   ·rename_i hz
    obtain rfl : y = x := by injection h
    obtain ⟨q, q1, q2⟩ := hy ▸ topT_spec t
    cases q with
    | error e => cases q2
    | ok p =>
     obtain ⟨z, k⟩ := p
     simp only at q2
     have hk := q1.ends (by omega) (by omega) _ _ rfl
     split at q2
     ·cases q2
     ·obtain rfl : y = z := by injection q2
      refine ⟨by omega, by omega, q1.solid trivial _ _ rfl, ?_⟩
      rw [show (t.length : Int) = k by omega]; exact q1
theorem parseT_err {t : List UInt8} {e : Int × Int} (h : parseT t = .error e) : 0 < e.1 := by
 unfold parseT at h
 split at h
 ·cases h; (simp only []; omega)
 ·split at h
  ·rename_i e' hy
   cases h
   obtain ⟨q, q1, q2⟩ := hy ▸ topT_spec t
   cases q with
   | error e2 => cases q2; exact q1.err _ rfl
   | ok p =>
    obtain ⟨z, k⟩ := p
    simp only at q2
    split at q2
    ·cases q2; (simp only []; omega)
    ·cases q2
  ·split at h
   ·cases h; (simp only []; omega)
   ·cases h
theorem errT_zero {t : List UInt8} (h : (errT t).1 = 0) : ∃ x, parseT t = .ok x ∧ treeT t = x := by
 unfold errT at h
 unfold treeT
 cases hp : parseT t with
 | ok x => exact ⟨x, rfl, rfl⟩
 | error e => rw [hp] at h; have := parseT_err hp; simp only at h; omega
theorem errT_ok {t : List UInt8} {x : Tr} (h : parseT t = .ok x) : errT t = (0, 0) ∧ treeT t = x := by
 unfold errT treeT; rw [h]; exact ⟨rfl, rfl⟩
end Go.Proofs.YtohnchdnkbadaaaDoor
namespace Go.Proofs.YtohnchdnkbadaaaDoor
open Go Go.RowKit

/-! ### the document's nodes and frames -/
abbrev ND := Int × (Nat → Bool) × Int × Int × Int × Int
abbrev FR := Int × Int × Int × Int × Int × Int
def nd (n : List ND) (i : Int) : ND := n.getD i.toNat default
def binT (op : Int) (x y : Tr) : Tr := if op = 2 then .cat x y else if op = 3 then .alt x y else if op = 5 then .and x y else .minus x y
def repT (x : Tr) (m k : Int) : Tr := if m = -2 then timesT x 1 (-1) else timesT x m k
def RepB (m k : Int) : Prop := (m = -2 ∧ k = -1) ∨ (0 ≤ m ∧ m ≤ 255 ∧ -1 ≤ k ∧ k ≤ 255 ∧ (k < 0 ∨ m ≤ k))
/-- The node at a place stands for a tree. -/
inductive Den (n : List ND) : Int → Tr → Prop
 | eps {i : Int} : 0 ≤ i → i < n.length → (nd n i).1 = 0 → (∀ j, j < 256 → (nd n i).2.1 j = false) → Den n i .eps
 | cls {i : Int} {s : CS} : 0 ≤ i → i < n.length → (nd n i).1 = 1 → (∀ j, j < 256 → (nd n i).2.1 j = s.getLsbD j) → Den n i (.cls s)
 | bin {i op : Int} {x y : Tr} : 0 ≤ i → i < n.length → (nd n i).1 = op → op = 2 ∨ op = 3 ∨ op = 5 ∨ op = 6 → (nd n i).2.2.1 < i → (nd n i).2.2.2.1 < i → Den n (nd n i).2.2.1 x → Den n (nd n i).2.2.2.1 y → Den n i (binT op x y)
 | star {i : Int} {x : Tr} : 0 ≤ i → i < n.length → (nd n i).1 = 4 → (nd n i).2.2.1 < i → Den n (nd n i).2.2.1 x → Den n i (.star x)
 | rep {i : Int} {x : Tr} : 0 ≤ i → i < n.length → (nd n i).1 = 7 → (nd n i).2.2.1 < i → RepB (nd n i).2.2.2.2.1 (nd n i).2.2.2.2.2 → Den n (nd n i).2.2.1 x → Den n i (repT x (nd n i).2.2.2.2.1 (nd n i).2.2.2.2.2)
def NOK (n : List ND) : Prop := ∀ i : Int, 0 ≤ i → i < n.length → (nd n i).1 ≠ 4 ∧ ∃ x, Den n i x
def IxR (n : List ND) (i : Int) : Option Tr → Prop
 | none => i = -1
 | some x => Den n i x
def FrR (n : List ND) (f : FR) (a : AF) : Prop := f.1 = a.place ∧ IxR n f.2.1 a.alt ∧ IxR n f.2.2.1 a.meet ∧ f.2.2.2.1 = a.sign ∧ IxR n f.2.2.2.2.1 a.row ∧ IxR n f.2.2.2.2.2 a.fac
def FRel (n : List ND) : List FR → List AF → Prop
 | [], [] => True
 | f :: fs, a :: cs => FrR n f a ∧ FRel n fs cs
 | _, _ => False
/-- The frames, the last one first. -/
def SRel (n : List ND) (s : List FR) (cs : List AF) : Prop := FRel n s.reverse cs
end Go.Proofs.YtohnchdnkbadaaaDoor
namespace Go.Proofs.YtohnchdnkbadaaaDoor
open Go Go.RowKit

theorem tf_info_3 : infoB Tryd.prog 3 = some ([zI 0], 1, 8) := by kernel_rfl
theorem tf_sl_74 : slB Tryd.prog 74 3 1 = true := by kernel_rfl
theorem getD_set_self {α : Type} [Inhabited α] {l : List α} {i : Nat} (h : i < l.length) (v : α) : (l.set i v).getD i default = v := by simp [List.getD_eq_getElem?_getD, h]
/-- The parts of a repeat, one behind the other. -/
def partT (x : Tr) (m : Int) (k : Nat) : Tr := if (k : Int) < m then x else .alt x .eps
def rowN (x : Tr) (m : Int) : Nat → Tr
 | 0 => partT x m 0
 | k + 1 => .cat (rowN x m k) (partT x m (k + 1))
end Go.Proofs.YtohnchdnkbadaaaDoor
namespace Go.Proofs.YtohnchdnkbadaaaDoor
open Go Go.RowKit

noncomputable def rootT (t : List UInt8) : Int := match parseT t with
 | .ok x => (x.size : Int) - 1
 | .error _ => 0
structure InvP (t : List UInt8) (i : Int) (st : List FR) (n : List ND) : Prop where
 i0 : 0 ≤ i
 i1 : i ≤ t.length
 s0 : 0 < st.length
 s1 : st.length ≤ 1001
 n1 : (n.length : Int) ≤ 5 * i
 ok : NOK n
 ow : ∃ cs, SRel n st cs ∧ Owes t cs i (topT t)
end Go.Proofs.YtohnchdnkbadaaaDoor
namespace Go.Proofs.YtohnchdnkbadaaaDoor
open Go Go.RowKit

theorem tf_field_79_1 : fieldOff Tryd.prog 79 1 = some 1 := by kernel_rfl
theorem tf_scal_77 : scalB Tryd.prog 77 = true := by kernel_rfl
theorem tf_scal_162 : scalB Tryd.prog 162 = true := by kernel_rfl
theorem tf_zero_79 : zeroB Tryd.prog 79 = some [zI 0, Value.nilFunc] := by kernel_rfl
theorem tf_size_79 : sizeB Tryd.prog 79 2 = true := by kernel_rfl
theorem tf_row_79 : RowT Tryd.prog 79 2 := ⟨by kernel_rfl, by kernel_rfl⟩
theorem tf_field_79_0 : fieldOff Tryd.prog 79 0 = some 0 := by kernel_rfl
theorem tf_ent_116 : entB Tryd.prog 116 = true := by kernel_rfl
theorem tf_conc_49 : Program.concrete Tryd.prog 49 = true := by kernel_rfl
theorem tf_ent_144 : entB Tryd.prog 144 = true := by kernel_rfl
theorem tf_ent_78 : entB Tryd.prog 78 = true := by kernel_rfl
theorem tf_ent_157 : entB Tryd.prog 157 = true := by kernel_rfl
theorem tf_ent_158 : entB Tryd.prog 158 = true := by kernel_rfl

/-- The function value grows the tree, out of the blocks of the pool. -/
def Grows (B : List (Nat × Obj)) (u : Value) (x : Tr) : Prop := DoesV Tryd.prog B u [] x.val
/-- A part of a text as it was read: its size, cut off, and its tree. -/
def Is (B : List (Nat × Obj)) (n : Int) (u : Value) (x : Tr) : Prop := Grows B u x ∧ n = min (x.size : Int) 2001
def SizeB (n : Int) : Prop := 0 ≤ n ∧ n ≤ 1152921504606846976
def Sups (B B' : List (Nat × Obj)) : Prop := ∀ p ∈ B, p ∈ B'
theorem Sups.refl (B : List (Nat × Obj)) : Sups B B := fun _ h => h
theorem Sups.trans {B B' B2 : List (Nat × Obj)} (h : Sups B B') (h' : Sups B' B2) : Sups B B2 := fun p hp => h' p (h p hp)
variable {B B' B2 : List (Nat × Obj)} {n sa sb : Int} {u a b : Value} {x y : Tr}
theorem Grows.more (h : Grows B u x) (hs : Sups B B') : Grows B' u x := DoesV.more h hs
theorem Is.more (h : Is B n u x) (hs : Sups B B') : Is B' n u x := ⟨h.1.more hs, h.2⟩
def RuleB (n : Int) (u : Value) : Prop := SizeB n ∧ u.oneCell' = true
def LeafR (B B' : List (Nat × Obj)) (x : Tr) (n : Int) (u : Value) : Prop := Sups B B' ∧ RuleB n u ∧ (x.size = 1 → Is B' n u x)
def StarR (B B' : List (Nat × Obj)) (sa : Int) (a : Value) (n : Int) (u : Value) : Prop := Sups B B' ∧ RuleB n u ∧ ∀ x, Is B sa a x → Is B' n u (.star x)
def MaybeR (B B' : List (Nat × Obj)) (sa : Int) (a : Value) (n : Int) (u : Value) : Prop := Sups B B' ∧ RuleB n u ∧ ∀ x, Is B sa a x → Is B' n u (.alt x .eps)
def JoinR (op : Tr → Tr → Tr) (B B' : List (Nat × Obj)) (sa : Int) (a : Value) (sb : Int) (b : Value) (n : Int) (u : Value) : Prop := Sups B B' ∧ RuleB n u ∧ ∀ x y, Is B sa a x → Is B sb b y → Is B' n u (op x y)
def TimesR (B B' : List (Nat × Obj)) (sa : Int) (a : Value) (m k : Int) (n : Int) (u : Value) : Prop := Sups B B' ∧ RuleB n u ∧ ∀ x, Is B sa a x → Is B' n u (timesT x m k)

def capped_vc (n : Int) (K : Int → Prop) : Prop :=
 K (min n 2001)
set_option maxRecDepth 100000 in
theorem capped_wp  (n : Int) (K : Int → Prop) (h : capped_vc n K) :
  Does Tryd.prog 116 [zI n] [] [] (fun o => (∃ (v : Int), K v ∧ o = .ret (zI v) []) ∨ (False)) := by
 unfold capped_vc at h
 refine does_of_wc (n := 5) (L0 := [(0, zI n)]) Tryd.func116 rfl rfl rfl rfl (fun w0 M Q hE => ?_)
 refine wc_seq (fun K0 hK => ?_)
 refine wc_region ?_
 refine wv (OV.assign rfl) ?_
 refine WL.nil ?_
 refine KX.go (hK [(0, zI n)] _ ?_) ⟨rfl, trivial⟩
 refine wc_seq (fun K0_1' hK_1' => ?_)
 refine wc_region ?_
 refine wv (OV.move rfl) ?_
 refine wv (OV.minI rfl rfl) ?_
 refine wv (OV.assign rfl) ?_
 refine WL.nil ?_
 refine KX.go (hK_1' [(2, zI (min n 2001))] _ ?_) ⟨rfl, trivial⟩
 refine wc_ret ?_
 exact hE.ret [] rfl rfl (.inl ⟨_, h, rfl⟩) (ResV.of1 rfl (RV.tmp rfl))

theorem capped_does (n : Int) : Does Tryd.prog 116 [.int .i64 n] [] [] (Ret (.int .i64 (min n 2001)) []) := Does.one (capped_wp n (fun v => v = min n 2001) rfl)

def leafG_vc (c : Tr) (_ : List (Nat × Obj)) (K : Tr → Prop) : Prop :=
 K c
set_option maxRecDepth 100000 in
theorem leafG_wp (b : Nat) (c : Tr) (B : List (Nat × Obj)) (hb : (b, .cells [Tr.val c].toArray 23 (0, 0)) ∈ B) (K : Tr → Prop) (h : leafG_vc c B K) :
  Does Tryd.prog 156 [zP b] B [] (fun o => (∃ (v : Tr), K v ∧ o = .ret (Tr.val v) []) ∨ (False)) := by
 unfold leafG_vc at h
 refine does_of_wc (n := 3) (L0 := [(0, zP b)]) Tryd.func156 rfl rfl rfl rfl (fun w0 M Q hE => ?_)
 refine wc_seq (fun K0 hK => ?_)
 refine wc_region ?_
 refine wv (OV.assign rfl) ?_
 refine WL.nil ?_
 refine KX.go (hK [(0, zP b)] _ ?_) ⟨rfl, trivial⟩
 refine wc_seq (fun K0_1' hK_1' => ?_)
 refine wc_region ?_
 refine wv (OV.load rfl (At.old hb) rfl tf_scal_23) ?_
 refine wv (OV.assign rfl) ?_
 refine WL.nil ?_
 refine KX.go (hK_1' [(1, Tr.val c)] _ ?_) ⟨rfl, trivial⟩
 refine wc_ret ?_
 exact hE.ret [] rfl rfl (.inl ⟨_, h, rfl⟩) (ResV.of1 rfl (RV.tmp rfl))

def starG_vc (_ : Int) (c_1 : Value) (B : List (Nat × Obj)) (K : Tr → Prop) : Prop :=
 ∃ (y : Tr), (Grows B c_1 y) ∧ (
 K (.star y))
set_option maxRecDepth 100000 in
theorem starG_wp (b : Nat) (c_0 : Int) (c_1 : Value) (B : List (Nat × Obj)) (hb : (b, .cells [zI c_0, c_1].toArray 79 (0, 0)) ∈ B) (K : Tr → Prop) (h : starG_vc c_0 c_1 B K) :
  Does Tryd.prog 166 [zP b] B [] (fun o => (∃ (v : Tr), K v ∧ o = .ret (Tr.val v) []) ∨ (False)) := by
 unfold starG_vc at h
 refine does_of_wc (n := 7) (L0 := [(0, zP b)]) Tryd.func166 rfl rfl rfl rfl (fun w0 M Q hE => ?_)
 refine wc_seq (fun K0 hK => ?_)
 refine wc_region ?_
 refine wv (OV.assign rfl) ?_
 refine WL.nil ?_
 refine KX.go (hK [(0, zP b)] _ ?_) ⟨rfl, trivial⟩
 refine wc_seq (fun K0_1' hK_1' => ?_)
 refine wc_region ?_
 refine wv (OV.fieldAddr0 rfl tf_field_79_1) ?_
 refine wv (OV.load rfl (At.old hb) rfl tf_scal_77) ?_
 obtain ⟨y, o, h⟩ := h
 refine WL.cv (CV.value rfl o rfl Rd.old) rfl rfl rfl ?_
 refine wv (OV.buildC (qs := [(0, [Tr.val y])]) (cs := [Tr.val y]) rfl ⟨rfl, Tr.val_cells _, trivial⟩ rfl) ?_
 refine wv (OV.cast (OV.iface rfl tf_conc_167) (v' := Tr.val (.star y)) rfl) ?_
 refine wv (OV.assign rfl) ?_
 refine WL.nil ?_
 refine KX.go (hK_1' [(1, Tr.val (.star y))] _ ?_) ⟨rfl, trivial⟩
 refine wc_ret ?_
 exact hE.ret [] rfl rfl (.inl ⟨_, h, rfl⟩) (ResV.of1 rfl (RV.tmp rfl))

def joinG_vc (c : Value) (_ : Int) (c_1'_1 : Value) (_ : Int) (c_2'_1 : Value) (B : List (Nat × Obj)) (K : Tr → Prop) : Prop :=
 ∃ (y : Tr), (Grows B c_1'_1 y) ∧ (
 ∃ (y_1' : Tr), (Grows B c_2'_1 y_1') ∧ (
 ∃ (y_2' : Tr), (DoesV Tryd.prog [] c [Tr.val y, Tr.val y_1'] (Tr.val y_2')) ∧ (
 K y_2')))
set_option maxRecDepth 100000 in
theorem joinG_wp (b : Nat) (b_1' : Nat) (b_2' : Nat) (c : Value) (c_1'_0 : Int) (c_1'_1 : Value) (c_2'_0 : Int) (c_2'_1 : Value) (B : List (Nat × Obj)) (hb : (b, .cells [c].toArray 162 (0, 0)) ∈ B) (hb_1' : (b_1', .cells [zI c_1'_0, c_1'_1].toArray 79 (0, 0)) ∈ B) (hb_2' : (b_2', .cells [zI c_2'_0, c_2'_1].toArray 79 (0, 0)) ∈ B) (K : Tr → Prop) (h : joinG_vc c c_1'_0 c_1'_1 c_2'_0 c_2'_1 B K) :
  Does Tryd.prog 117 [zP b, zP b_1', zP b_2'] B [] (fun o => (∃ (v : Tr), K v ∧ o = .ret (Tr.val v) []) ∨ (False)) := by
 unfold joinG_vc at h
 refine does_of_wc (n := 12) (L0 := [(0, zP b), (1, zP b_1'), (2, zP b_2')]) Tryd.func117 rfl rfl rfl rfl (fun w0 M Q hE => ?_)
 refine wc_seq (fun K0 hK => ?_)
 refine wc_region ?_
 refine wv (OV.assign rfl) ?_
 refine WL.nil ?_
 refine KX.go (hK [(0, zP b), (1, zP b_1'), (2, zP b_2')] _ ?_) ⟨rfl, rfl, rfl, trivial⟩
 refine wc_seq (fun K0_1' hK_1' => ?_)
 refine wc_draw 7 [] tf_mixed (by kernel_rfl) rfl (fun T hT => ?_)
 refine FL.val (fun _ => OV.load rfl (At.old hb) rfl tf_scal_162) rfl (fun _ => rfl) rfl rfl ?_
 refine FL.val (fun _ => OV.fieldAddr0 rfl tf_field_79_1) rfl (fun _ => rfl) rfl rfl ?_
 refine FL.val (fun _ => OV.load rfl (At.old hb_1') rfl tf_scal_77) rfl (fun _ => rfl) rfl rfl ?_
 obtain ⟨y, o, h⟩ := h
 refine FL.cv (fun _ => CV.value rfl o rfl Rd.old) rfl rfl (fun _ => rfl) rfl ?_
 refine FL.val (fun _ => OV.fieldAddr0 rfl tf_field_79_1) rfl (fun _ => rfl) rfl rfl ?_
 refine FL.val (fun _ => OV.load rfl (At.old hb_2') rfl tf_scal_77) rfl (fun _ => rfl) rfl rfl ?_
 obtain ⟨y_1', o_1', h⟩ := h
 refine FL.cv (fun _ => CV.value rfl o_1' rfl Rd.old) rfl rfl (fun _ => rfl) rfl ?_
 refine FL.weak (L' := fun γ => [(4, c), (7, Tr.val y), (10, Tr.val y_1')]) (fun γ => ⟨rfl, rfl, rfl, trivial⟩) (FL.nil (hT (fun γ => [(4, c), (7, Tr.val y), (10, Tr.val y_1')]) (fun γ => ?_)))
 obtain ⟨y_2', o_2', h⟩ := h
 refine WL.cv (CV.value rfl o_2' rfl (Rd.nil)) rfl rfl rfl ?_
 refine wv (OV.assign rfl) ?_
 refine WL.nil ?_
 refine KX.go (hK_1' [(3, Tr.val y_2')] _ ?_) ⟨rfl, trivial⟩
 refine wc_ret ?_
 exact hE.ret [] rfl rfl (.inl ⟨_, h, rfl⟩) (ResV.of1 rfl (RV.tmp rfl))

def opcat_vc (a : Tr) (b : Tr) (K : Tr → Prop) : Prop :=
 K (.cat a b)
set_option maxRecDepth 100000 in
theorem opcat_wp  (a : Tr) (b : Tr) (K : Tr → Prop) (h : opcat_vc a b K) :
  Does Tryd.prog 147 [Tr.val a, Tr.val b] [] [] (fun o => (∃ (v : Tr), K v ∧ o = .ret (Tr.val v) []) ∨ (False)) := by
 unfold opcat_vc at h
 refine does_of_wc (n := 9) (L0 := [(0, Tr.val a), (1, Tr.val b)]) Tryd.func147 rfl rfl rfl rfl (fun w0 M Q hE => ?_)
 refine wc_seq (fun K0 hK => ?_)
 refine wc_region ?_
 refine wv (OV.assign rfl) ?_
 refine WL.nil ?_
 refine KX.go (hK [(0, Tr.val a), (1, Tr.val b)] _ ?_) ⟨rfl, rfl, trivial⟩
 refine wc_seq (fun K0_1' hK_1' => ?_)
 refine wc_region ?_
 refine wv (OV.move rfl) ?_
 refine wv (OV.move rfl) ?_
 refine wv (OV.buildC (qs := [(0, [Tr.val a]), (1, [Tr.val b])]) (cs := [Tr.val a, Tr.val b]) rfl ⟨rfl, Tr.val_cells _, ⟨rfl, Tr.val_cells _, trivial⟩⟩ rfl) ?_
 refine wv (OV.cast (OV.iface rfl tf_conc_51) (v' := Tr.val (.cat a b)) rfl) ?_
 refine wv (OV.assign rfl) ?_
 refine WL.nil ?_
 refine KX.go (hK_1' [(4, Tr.val (.cat a b))] _ ?_) ⟨rfl, trivial⟩
 refine wc_ret ?_
 exact hE.ret [] rfl rfl (.inl ⟨_, h, rfl⟩) (ResV.of1 rfl (RV.tmp rfl))

def opalt_vc (a : Tr) (b : Tr) (K : Tr → Prop) : Prop :=
 K (.alt a b)
set_option maxRecDepth 100000 in
theorem opalt_wp  (a : Tr) (b : Tr) (K : Tr → Prop) (h : opalt_vc a b K) :
  Does Tryd.prog 79 [Tr.val a, Tr.val b] [] [] (fun o => (∃ (v : Tr), K v ∧ o = .ret (Tr.val v) []) ∨ (False)) := by
 unfold opalt_vc at h
 refine does_of_wc (n := 9) (L0 := [(0, Tr.val a), (1, Tr.val b)]) Tryd.func79 rfl rfl rfl rfl (fun w0 M Q hE => ?_)
 refine wc_seq (fun K0 hK => ?_)
 refine wc_region ?_
 refine wv (OV.assign rfl) ?_
 refine WL.nil ?_
 refine KX.go (hK [(0, Tr.val a), (1, Tr.val b)] _ ?_) ⟨rfl, rfl, trivial⟩
 refine wc_seq (fun K0_1' hK_1' => ?_)
 refine wc_region ?_
 refine wv (OV.move rfl) ?_
 refine wv (OV.move rfl) ?_
 refine wv (OV.buildC (qs := [(0, [Tr.val a]), (1, [Tr.val b])]) (cs := [Tr.val a, Tr.val b]) rfl ⟨rfl, Tr.val_cells _, ⟨rfl, Tr.val_cells _, trivial⟩⟩ rfl) ?_
 refine wv (OV.cast (OV.iface rfl tf_conc_165) (v' := Tr.val (.alt a b)) rfl) ?_
 refine wv (OV.assign rfl) ?_
 refine WL.nil ?_
 refine KX.go (hK_1' [(4, Tr.val (.alt a b))] _ ?_) ⟨rfl, trivial⟩
 refine wc_ret ?_
 exact hE.ret [] rfl rfl (.inl ⟨_, h, rfl⟩) (ResV.of1 rfl (RV.tmp rfl))

def opand_vc (a : Tr) (b : Tr) (K : Tr → Prop) : Prop :=
 K (.and a b)
set_option maxRecDepth 100000 in
theorem opand_wp  (a : Tr) (b : Tr) (K : Tr → Prop) (h : opand_vc a b K) :
  Does Tryd.prog 114 [Tr.val a, Tr.val b] [] [] (fun o => (∃ (v : Tr), K v ∧ o = .ret (Tr.val v) []) ∨ (False)) := by
 unfold opand_vc at h
 refine does_of_wc (n := 9) (L0 := [(0, Tr.val a), (1, Tr.val b)]) Tryd.func114 rfl rfl rfl rfl (fun w0 M Q hE => ?_)
 refine wc_seq (fun K0 hK => ?_)
 refine wc_region ?_
 refine wv (OV.assign rfl) ?_
 refine WL.nil ?_
 refine KX.go (hK [(0, Tr.val a), (1, Tr.val b)] _ ?_) ⟨rfl, rfl, trivial⟩
 refine wc_seq (fun K0_1' hK_1' => ?_)
 refine wc_region ?_
 refine wv (OV.move rfl) ?_
 refine wv (OV.move rfl) ?_
 refine wv (OV.buildC (qs := [(0, [Tr.val a]), (1, [Tr.val b])]) (cs := [Tr.val a, Tr.val b]) rfl ⟨rfl, Tr.val_cells _, ⟨rfl, Tr.val_cells _, trivial⟩⟩ rfl) ?_
 refine wv (OV.cast (OV.iface rfl tf_conc_163) (v' := Tr.val (.and a b)) rfl) ?_
 refine wv (OV.assign rfl) ?_
 refine WL.nil ?_
 refine KX.go (hK_1' [(4, Tr.val (.and a b))] _ ?_) ⟨rfl, trivial⟩
 refine wc_ret ?_
 exact hE.ret [] rfl rfl (.inl ⟨_, h, rfl⟩) (ResV.of1 rfl (RV.tmp rfl))

def opminus_vc (a : Tr) (b : Tr) (K : Tr → Prop) : Prop :=
 K (.minus a b)
set_option maxRecDepth 100000 in
theorem opminus_wp  (a : Tr) (b : Tr) (K : Tr → Prop) (h : opminus_vc a b K) :
  Does Tryd.prog 115 [Tr.val a, Tr.val b] [] [] (fun o => (∃ (v : Tr), K v ∧ o = .ret (Tr.val v) []) ∨ (False)) := by
 unfold opminus_vc at h
 refine does_of_wc (n := 9) (L0 := [(0, Tr.val a), (1, Tr.val b)]) Tryd.func115 rfl rfl rfl rfl (fun w0 M Q hE => ?_)
 refine wc_seq (fun K0 hK => ?_)
 refine wc_region ?_
 refine wv (OV.assign rfl) ?_
 refine WL.nil ?_
 refine KX.go (hK [(0, Tr.val a), (1, Tr.val b)] _ ?_) ⟨rfl, rfl, trivial⟩
 refine wc_seq (fun K0_1' hK_1' => ?_)
 refine wc_region ?_
 refine wv (OV.move rfl) ?_
 refine wv (OV.move rfl) ?_
 refine wv (OV.buildC (qs := [(0, [Tr.val a]), (1, [Tr.val b])]) (cs := [Tr.val a, Tr.val b]) rfl ⟨rfl, Tr.val_cells _, ⟨rfl, Tr.val_cells _, trivial⟩⟩ rfl) ?_
 refine wv (OV.cast (OV.iface rfl tf_conc_164) (v' := Tr.val (.minus a b)) rfl) ?_
 refine wv (OV.assign rfl) ?_
 refine WL.nil ?_
 refine KX.go (hK_1' [(4, Tr.val (.minus a b))] _ ?_) ⟨rfl, trivial⟩
 refine wc_ret ?_
 exact hE.ret [] rfl rfl (.inl ⟨_, h, rfl⟩) (ResV.of1 rfl (RV.tmp rfl))

def OpOk (f : FuncId) (op : Tr → Tr → Tr) : Prop := (∀ x y, DoesV Tryd.prog [] (.func (.func f) #[] ([] : List Value).toArray) [Tr.val x, Tr.val y] (Tr.val (op x y))) ∧ ∀ x y, (op x y).size = 1 + x.size + y.size
theorem Tr.cat_op : OpOk 147 Tr.cat := ⟨fun x y => DoesV.func (by kernel_rfl) (Does.one (opcat_wp x y (fun v => v = .cat x y) rfl)), fun _ _ => rfl⟩
theorem Tr.alt_op : OpOk 79 Tr.alt := ⟨fun x y => DoesV.func (by kernel_rfl) (Does.one (opalt_wp x y (fun v => v = .alt x y) rfl)), fun _ _ => rfl⟩
theorem Tr.and_op : OpOk 114 Tr.and := ⟨fun x y => DoesV.func (by kernel_rfl) (Does.one (opand_wp x y (fun v => v = .and x y) rfl)), fun _ _ => rfl⟩
theorem Tr.minus_op : OpOk 115 Tr.minus := ⟨fun x y => DoesV.func (by kernel_rfl) (Does.one (opminus_wp x y (fun v => v = .minus x y) rfl)), fun _ _ => rfl⟩

def leaf_vc (n : Tr) (B : List (Nat × Obj)) (K : Int → Value → (List (Nat × Obj)) → Prop) : Prop :=
 ∀ (b : Nat), K 1 (Value.func (.func 156) #[] [zP b].toArray) ((b, .cells [Tr.val n].toArray 23 (0, 0)) :: B)
set_option maxRecDepth 100000 in
theorem leaf_wp  (n : Tr) (B : List (Nat × Obj)) (K : Int → Value → (List (Nat × Obj)) → Prop) (h : leaf_vc n B K) :
  Does Tryd.prog 144 [Tr.val n] [] [pool B] (fun o => (∃ (v_0 : Int) (v_1 : Value) (D : List (Nat × Obj)), K v_0 v_1 D ∧ o = .ret (Value.agg [zI v_0, v_1].toArray) [pool D]) ∨ (False)) := by
 unfold leaf_vc at h
 refine does_of_wc (n := 5) (L0 := [(0, Tr.val n)]) Tryd.func144 rfl rfl rfl rfl (fun w0 M Q hE => ?_)
 refine wc_seq (fun K0 hK => ?_)
 refine wc_region ?_
 refine WL.make (MV.box (cs := [Tr.val n]) rfl (Tr.val_cells _)) rfl rfl rfl (fun b => ?_)
 refine WL.make (MV.alloc tf_zero_79) rfl rfl rfl (fun b_1' => ?_)
 refine WL.nil ?_
 refine KX.go (hK [(1, zP b), (2, zP b_1')] _ ?_) ⟨rfl, rfl, trivial⟩
 refine wc_seq (fun K0_1' hK_1' => ?_)
 refine wc_region ?_
 refine wv (OV.makeFunc rfl) ?_
 refine wv (OV.build rfl (cs := [zI 1, Value.func (.func 156) #[] [zP b].toArray]) rfl) ?_
 refine WL.storeW (vs := [zI 1, Value.func (.func 156) #[] [zP b].toArray]) 0 rfl rfl rfl rfl rfl tf_size_79 rfl rfl rfl ?_
 refine WL.nil ?_
 refine KX.go (hK_1' [(2, zP b_1')] _ ?_) ⟨rfl, trivial⟩
 refine wc_ret ?_
 refine QX.pick (H' := [HA.blk b (.cells [Tr.val n].toArray 23 (0, 0)), pool B, HA.blk b_1' (.cells [zI 1, Value.func (.func 156) #[] [zP b].toArray].toArray 79 (0, 0))]) [1, 2, 0] rfl rfl ?_
 refine QX.absorb ?_
 exact hE.ret [0] rfl rfl (.inl ⟨_, _, _, (h b), rfl⟩) (ResV.of1 rfl (RV.row rfl (At.own 1 rfl) tf_row_79))

def star_vc (a_0 : Int) (a_1 : Value) (B : List (Nat × Obj)) (K : Int → Value → (List (Nat × Obj)) → Prop) : Prop :=
 (I64 (1 + a_0)) ∧
 ∀ (b : Nat), K (min (1 + a_0) 2001) (Value.func (.func 166) #[] [zP b].toArray) ((b, .cells [zI a_0, a_1].toArray 79 (0, 0)) :: B)
set_option maxRecDepth 100000 in
theorem star_wp  (a_0 : Int) (a_1 : Value) (B : List (Nat × Obj)) (K : Int → Value → (List (Nat × Obj)) → Prop) (h : star_vc a_0 a_1 B K) :
  Does Tryd.prog 157 [Value.agg [zI a_0, a_1].toArray] [] [pool B] (fun o => (∃ (v_0 : Int) (v_1 : Value) (D : List (Nat × Obj)), K v_0 v_1 D ∧ o = .ret (Value.agg [zI v_0, v_1].toArray) [pool D]) ∨ (False)) := by
 unfold star_vc at h
 refine does_of_wc (n := 9) (L0 := [(0, Value.agg [zI a_0, a_1].toArray)]) Tryd.func157 rfl rfl rfl rfl (fun w0 M Q hE => ?_)
 refine wc_seq (fun K0 hK => ?_)
 refine wc_region ?_
 refine WL.make (MV.box (cs := [zI a_0, a_1]) rfl rfl) rfl rfl rfl (fun b => ?_)
 refine WL.make (MV.alloc tf_zero_79) rfl rfl rfl (fun b_1' => ?_)
 refine WL.nil ?_
 refine KX.go (hK [(1, zP b), (2, zP b_1')] _ ?_) ⟨rfl, rfl, trivial⟩
 refine wc_seq (fun K0_1' hK_1' => ?_)
 refine wc_region ?_
 refine wv (OV.fieldAddr0 rfl tf_field_79_0) ?_
 refine wv (OV.load rfl (At.own 1 rfl) rfl tf_scal_3) ?_
 obtain ⟨o, h⟩ := h
 refine wv (OV.add rfl rfl o) ?_
 refine WL.call (A := []) tf_ent_116 rfl (capped_does (1 + a_0)) rfl trivial rfl rfl ?_
 refine wv (OV.makeFunc rfl) ?_
 refine wv (OV.build rfl (cs := [zI (min (1 + a_0) 2001), Value.func (.func 166) #[] [zP b].toArray]) rfl) ?_
 refine WL.storeW (vs := [zI (min (1 + a_0) 2001), Value.func (.func 166) #[] [zP b].toArray]) 0 rfl rfl rfl rfl rfl tf_size_79 rfl rfl rfl ?_
 refine WL.nil ?_
 refine KX.go (hK_1' [(2, zP b_1')] _ ?_) ⟨rfl, trivial⟩
 refine wc_ret ?_
 refine QX.pick (H' := [HA.blk b (.cells [zI a_0, a_1].toArray 79 (0, 0)), pool B, HA.blk b_1' (.cells [zI (min (1 + a_0) 2001), Value.func (.func 166) #[] [zP b].toArray].toArray 79 (0, 0))]) [1, 2, 0] rfl rfl ?_
 refine QX.absorb ?_
 exact hE.ret [0] rfl rfl (.inl ⟨_, _, _, (h b), rfl⟩) (ResV.of1 rfl (RV.row rfl (At.own 1 rfl) tf_row_79))

def join_vc (a_0 : Int) (a_1 : Value) (b_0 : Int) (b_1 : Value) (make2 : Value) (B : List (Nat × Obj)) (K : Int → Value → (List (Nat × Obj)) → Prop) : Prop :=
 (make2.oneCell' = true) ∧
 (I64 (1 + a_0)) ∧
 (I64 ((1 + a_0) + b_0)) ∧
 ∀ (b_3' b_1' b_2' : Nat), K (min ((1 + a_0) + b_0) 2001) (Value.func (.func 117) #[] [zP b_3', zP b_1', zP b_2'].toArray) ((b_3', .cells [make2].toArray 162 (0, 0)) :: ((b_1', .cells [zI a_0, a_1].toArray 79 (0, 0)) :: ((b_2', .cells [zI b_0, b_1].toArray 79 (0, 0)) :: B)))
set_option maxRecDepth 100000 in
theorem join_wp  (a_0 : Int) (a_1 : Value) (b_0 : Int) (b_1 : Value) (make2 : Value) (B : List (Nat × Obj)) (K : Int → Value → (List (Nat × Obj)) → Prop) (h : join_vc a_0 a_1 b_0 b_1 make2 B K) :
  Does Tryd.prog 78 [Value.agg [zI a_0, a_1].toArray, Value.agg [zI b_0, b_1].toArray, make2] [] [pool B] (fun o => (∃ (v_0 : Int) (v_1 : Value) (D : List (Nat × Obj)), K v_0 v_1 D ∧ o = .ret (Value.agg [zI v_0, v_1].toArray) [pool D]) ∨ (False)) := by
 unfold join_vc at h
 refine does_of_wc (n := 16) (L0 := [(0, Value.agg [zI a_0, a_1].toArray), (1, Value.agg [zI b_0, b_1].toArray), (2, make2)]) Tryd.func78 rfl rfl rfl rfl (fun w0 M Q hE => ?_)
 refine wc_seq (fun K0 hK => ?_)
 refine wc_region ?_
 refine WL.make (MV.box (cs := [zI a_0, a_1]) rfl rfl) rfl rfl rfl (fun b_1' => ?_)
 refine WL.make (MV.box (cs := [zI b_0, b_1]) rfl rfl) rfl rfl rfl (fun b_2' => ?_)
 obtain ⟨o, h⟩ := h
 refine WL.make (MV.box (cs := [make2]) rfl (cells_one o)) rfl rfl rfl (fun b_3' => ?_)
 refine WL.make (MV.alloc tf_zero_79) rfl rfl rfl (fun b_4' => ?_)
 refine WL.nil ?_
 refine KX.go (hK [(3, zP b_1'), (4, zP b_2'), (5, zP b_3'), (6, zP b_4')] _ ?_) ⟨rfl, rfl, rfl, rfl, trivial⟩
 refine wc_seq (fun K0_1' hK_1' => ?_)
 refine wc_region ?_
 refine wv (OV.fieldAddr0 rfl tf_field_79_0) ?_
 refine wv (OV.load rfl (At.own 3 rfl) rfl tf_scal_3) ?_
 obtain ⟨o_1', h⟩ := h
 refine wv (OV.add rfl rfl o_1') ?_
 refine wv (OV.fieldAddr0 rfl tf_field_79_0) ?_
 refine wv (OV.load rfl (At.own 2 rfl) rfl tf_scal_3) ?_
 obtain ⟨o_2', h⟩ := h
 refine wv (OV.add rfl rfl o_2') ?_
 refine WL.call (A := []) tf_ent_116 rfl (capped_does ((1 + a_0) + b_0)) rfl trivial rfl rfl ?_
 refine wv (OV.makeFunc rfl) ?_
 refine wv (OV.build rfl (cs := [zI (min ((1 + a_0) + b_0) 2001), Value.func (.func 117) #[] [zP b_3', zP b_1', zP b_2'].toArray]) rfl) ?_
 refine WL.storeW (vs := [zI (min ((1 + a_0) + b_0) 2001), Value.func (.func 117) #[] [zP b_3', zP b_1', zP b_2'].toArray]) 0 rfl rfl rfl rfl rfl tf_size_79 rfl rfl rfl ?_
 refine WL.nil ?_
 refine KX.go (hK_1' [(6, zP b_4')] _ ?_) ⟨rfl, trivial⟩
 refine wc_ret ?_
 refine QX.pick (H' := [HA.blk b_2' (.cells [zI b_0, b_1].toArray 79 (0, 0)), pool B, HA.blk b_4' (.cells [zI (min ((1 + a_0) + b_0) 2001), Value.func (.func 117) #[] [zP b_3', zP b_1', zP b_2'].toArray].toArray 79 (0, 0)), HA.blk b_3' (.cells [make2].toArray 162 (0, 0)), HA.blk b_1' (.cells [zI a_0, a_1].toArray 79 (0, 0))]) [2, 4, 0, 1, 3] rfl rfl ?_
 refine QX.absorb ?_
 refine QX.pick (H' := [HA.blk b_1' (.cells [zI a_0, a_1].toArray 79 (0, 0)), pool ((b_2', .cells [zI b_0, b_1].toArray 79 (0, 0)) :: B), HA.blk b_4' (.cells [zI (min ((1 + a_0) + b_0) 2001), Value.func (.func 117) #[] [zP b_3', zP b_1', zP b_2'].toArray].toArray 79 (0, 0)), HA.blk b_3' (.cells [make2].toArray 162 (0, 0))]) [3, 0, 1, 2] rfl rfl ?_
 refine QX.absorb ?_
 refine QX.pick (H' := [HA.blk b_3' (.cells [make2].toArray 162 (0, 0)), pool ((b_1', .cells [zI a_0, a_1].toArray 79 (0, 0)) :: ((b_2', .cells [zI b_0, b_1].toArray 79 (0, 0)) :: B)), HA.blk b_4' (.cells [zI (min ((1 + a_0) + b_0) 2001), Value.func (.func 117) #[] [zP b_3', zP b_1', zP b_2'].toArray].toArray 79 (0, 0))]) [2, 0, 1] rfl rfl ?_
 refine QX.absorb ?_
 exact hE.ret [0] rfl rfl (.inl ⟨_, _, _, (h b_3' b_1' b_2'), rfl⟩) (ResV.of1 rfl (RV.row rfl (At.own 1 rfl) tf_row_79))

theorem leaf_does (x : Tr) (B : List (Nat × Obj)) : Does Tryd.prog 144 [x.val] [] [pool B] (fun o => ∃ n u B', LeafR B B' x n u ∧ o = .ret (.agg [.int .i64 n, u].toArray) [pool B']) := by
 refine (leaf_wp x B (fun n u D => LeafR B D x n u) ?_).weak ?_
 ·intro b
  refine ⟨fun p hp => List.mem_cons_of_mem _ hp, ⟨by unfold SizeB; omega, rfl⟩, fun h => ⟨DoesV.func (by kernel_rfl) (Does.one (leafG_wp b x _ (List.mem_cons_self ..) (fun v => v = x) rfl)), by rw [h]; rfl⟩⟩
 ·rintro o (⟨n, u, D, hK, rfl⟩ | h)
  ·exact ⟨n, u, D, hK, rfl⟩
  ·exact h.elim
theorem star_does (sa : Int) (a : Value) (B : List (Nat × Obj)) (h : SizeB sa) : Does Tryd.prog 157 [.agg [.int .i64 sa, a].toArray] [] [pool B] (fun o => ∃ n u B', StarR B B' sa a n u ∧ o = .ret (.agg [.int .i64 n, u].toArray) [pool B']) := by
 refine (star_wp sa a B (fun n u D => StarR B D sa a n u) ?_).weak ?_
 ·unfold SizeB at h
  refine ⟨by unfold I64; omega, fun b => ⟨fun p hp => List.mem_cons_of_mem _ hp, ⟨by unfold SizeB; omega, rfl⟩, fun x hx => ⟨DoesV.func (by kernel_rfl) (Does.one (starG_wp b sa a _ (List.mem_cons_self ..) (fun v => v = .star x) ⟨x, hx.1.more fun p hp => List.mem_cons_of_mem _ hp, rfl⟩)), ?_⟩⟩⟩
  have := hx.2
  simp only [Tr.size]; omega
 ·rintro o (⟨n, u, D, hK, rfl⟩ | h)
  ·exact ⟨n, u, D, hK, rfl⟩
  ·exact h.elim
theorem join_does {f : FuncId} {op : Tr → Tr → Tr} (hop : OpOk f op) (sa : Int) (a : Value) (sb : Int) (b : Value) (B : List (Nat × Obj)) (h : SizeB sa ∧ SizeB sb) :
  Does Tryd.prog 78 [.agg [.int .i64 sa, a].toArray, .agg [.int .i64 sb, b].toArray, .func (.func f) #[] ([] : List Value).toArray] [] [pool B] (fun o => ∃ n u B', JoinR op B B' sa a sb b n u ∧ o = .ret (.agg [.int .i64 n, u].toArray) [pool B']) := by
 refine (join_wp sa a sb b _ B (fun n u D => JoinR op B D sa a sb b n u) ?_).weak ?_
 ·unfold SizeB at h
  refine ⟨rfl, by unfold I64; omega, by unfold I64; omega, fun b3 b1 b2 => ⟨fun p hp => by simp [hp], ⟨by unfold SizeB; omega, rfl⟩, fun x y hx hy => ⟨DoesV.func (by kernel_rfl) (Does.one (joinG_wp b3 b1 b2 _ sa a sb b _ (by simp) (by simp) (by simp) (fun v => v = op x y) ⟨x, hx.1.more fun p hp => by simp [hp], y, hy.1.more fun p hp => by simp [hp], op x y, hop.1 x y, rfl⟩)), ?_⟩⟩⟩
  have h1 := hx.2; have h2 := hy.2
  rw [hop.2]; omega
 ·rintro o (⟨n, u, D, hK, rfl⟩ | h)
  ·exact ⟨n, u, D, hK, rfl⟩
  ·exact h.elim

def maybe_vc (a_0 : Int) (a_1 : Value) (B : List (Nat × Obj)) (K : Int → Value → (List (Nat × Obj)) → Prop) : Prop :=
 (∀ (sz : Int) (u : Value) (B_1' : List (Nat × Obj)), LeafR B B_1' .eps sz u →
  (SizeB a_0 ∧ SizeB sz) ∧
  (∀ (sz_1' : Int) (u_1' : Value) (B_2' : List (Nat × Obj)), JoinR Tr.alt B_1' B_2' a_0 a_1 sz u sz_1' u_1' →
   (u_1'.oneCell' = true) ∧
   K sz_1' u_1' B_2'))
set_option maxRecDepth 100000 in
theorem maybe_wp  (a_0 : Int) (a_1 : Value) (B : List (Nat × Obj)) (K : Int → Value → (List (Nat × Obj)) → Prop) (h : maybe_vc a_0 a_1 B K) :
  Does Tryd.prog 158 [Value.agg [zI a_0, a_1].toArray] [] [pool B] (fun o => (∃ (v_0 : Int) (v_1 : Value) (D : List (Nat × Obj)), K v_0 v_1 D ∧ o = .ret (Value.agg [zI v_0, v_1].toArray) [pool D]) ∨ (False)) := by
 unfold maybe_vc at h
 refine does_of_wc (n := 8) (L0 := [(0, Value.agg [zI a_0, a_1].toArray)]) Tryd.func158 rfl rfl rfl rfl (fun w0 M Q hE => ?_)
 refine wc_seq (fun K0 hK => ?_)
 refine wc_region ?_
 refine WL.make (MV.box (cs := [zI a_0, a_1]) rfl rfl) rfl rfl rfl (fun b => ?_)
 refine WL.make (MV.alloc tf_zero_79) rfl rfl rfl (fun b_1' => ?_)
 refine WL.nil ?_
 refine KX.go (hK [(1, zP b), (2, zP b_1')] _ ?_) ⟨rfl, rfl, trivial⟩
 refine wc_seq (fun K0_1' hK_1' => ?_)
 refine wc_drawC 3 [0, 1] [HA.blk b_1' (.cells [zI 0, Value.nilFunc].toArray 79 (0, 0)), HA.blk b (.cells [zI a_0, a_1].toArray 79 (0, 0))] rfl rfl tf_mixed (by kernel_rfl) (fun T hT => ?_)
 refine TW.val (OV.loadR rfl (At.own 1 rfl) tf_row_79) rfl rfl rfl ?_
 refine TW.val (OV.build rfl (cs := []) rfl) rfl rfl rfl ?_
 refine TW.val (OV.cast (OV.iface rfl tf_conc_49) (v' := Tr.val .eps) rfl) rfl rfl rfl ?_
 refine TW.nil (hT _ ?_)
 refine WLX.pick (H' := [pool B, HA.blk b_1' (.cells [zI 0, Value.nilFunc].toArray 79 (0, 0)), HA.blk b (.cells [zI a_0, a_1].toArray 79 (0, 0))]) [2, 0, 1] rfl rfl ?_
 refine WLX.callS [0, 1] rfl (EN.fn tf_ent_144 rfl) rfl (leaf_does .eps B) rfl rfl trivial rfl rfl (fun r H' hS => ?_) (fun c H' hS => ?_)
 ·obtain ⟨sz, u, B_1', hc, ho⟩ := hS
  cases ho
  replace h := h sz u B_1' hc
  obtain ⟨o, h⟩ := h
  refine WLX.callS [0, 1] rfl (EN.fn tf_ent_78 rfl) rfl (join_does Tr.alt_op a_0 a_1 sz u B_1' o) rfl rfl trivial rfl rfl (fun r H' hS => ?_) (fun c H' hS => ?_)
  ·obtain ⟨sz_1', u_1', B_2', hc, ho⟩ := hS
   cases ho
   replace h := h sz_1' u_1' B_2' hc
   obtain ⟨o_1', h⟩ := h
   refine WLX.opZ (OpK.storeW (vs := [zI sz_1', u_1']) 1 rfl rfl rfl rfl rfl tf_size_79 rfl (one_cons rfl (one_cons o_1' one_nil))) rfl ?_
   refine WLX.nil ?_
   refine KX.go (hK_1' [(2, zP b_1')] _ ?_) ⟨rfl, trivial⟩
   refine wc_ret ?_
   exact hE.ret [0] rfl rfl (.inl ⟨_, _, _, h, rfl⟩) (ResV.of1 rfl (RV.row rfl (At.own 1 rfl) tf_row_79))
  ·obtain ⟨sz_1', u_1', B_2', hc, ho⟩ := hS
   cases ho
 ·obtain ⟨sz, u, B_1', hc, ho⟩ := hS
  cases ho

theorem maybe_does (sa : Int) (a : Value) (B : List (Nat × Obj)) (h : SizeB sa) : Does Tryd.prog 158 [.agg [.int .i64 sa, a].toArray] [] [pool B] (fun o => ∃ n u B', MaybeR B B' sa a n u ∧ o = .ret (.agg [.int .i64 n, u].toArray) [pool B']) := by
 refine (maybe_wp sa a B (fun n u D => MaybeR B D sa a n u) ?_).weak ?_
 ·rintro n u B1 ⟨h1, h2, h3⟩
  refine ⟨⟨h, h2.1⟩, ?_⟩
  rintro m v B2 ⟨g1, g2, g3⟩
  exact ⟨g2.2, h1.trans g1, g2, fun x hx => g3 x .eps (hx.more h1) (h3 rfl)⟩
 ·rintro o (⟨n, u, D, hK, rfl⟩ | h)
  ·exact ⟨n, u, D, hK, rfl⟩
  ·exact h.elim

def times_vc (a_0 : Int) (a_1 : Value) (m : Int) (n : Int) (B : List (Nat × Obj)) (K : Int → Value → (List (Nat × Obj)) → Prop) : Prop :=
 (if ((decide (m = 0)) && (decide (n < 0))) = true then
  (SizeB a_0) ∧
  (∀ (sz : Int) (u : Value) (B_1' : List (Nat × Obj)), StarR B B_1' a_0 a_1 sz u →
   (u.oneCell' = true) ∧
   K sz u B_1')
 else
  (if ((decide (m = 0)) && (decide (n = 0))) = true then
   (∀ (sz_1' : Int) (u_1' : Value) (B_2' : List (Nat × Obj)), LeafR B B_2' .eps sz_1' u_1' →
    (u_1'.oneCell' = true) ∧
    K sz_1' u_1' B_2')
  else
   (a_1.oneCell' = true) ∧
   ∃ (J0 : (List (Nat × Obj)) → Int → Value → Prop),
    (∀ (c : List (Nat × Obj)) (out_0 : Int) (out_1 : Value), J0 c out_0 out_1 →
     ∃ (Inv : Int → (List (Nat × Obj)) → Int → Value → Prop) (mu : Int → (List (Nat × Obj)) → Int → Value → Nat),
      Inv 1 c out_0 out_1 ∧ ∀ (k_1' : Int) (c_2' : List (Nat × Obj)) (out_0_2' : Int) (out_1_2' : Value), Inv k_1' c_2' out_0_2' out_1_2' →
       (if (decide (k_1' < m)) = true then
        (SizeB out_0_2' ∧ SizeB a_0) ∧
        (∀ (sz_5' : Int) (u_5' : Value) (B_6' : List (Nat × Obj)), JoinR Tr.cat c_2' B_6' out_0_2' out_1_2' a_0 a_1 sz_5' u_5' →
         (u_5'.oneCell' = true) ∧
         (I64 (k_1' + 1)) ∧
         Inv (k_1' + 1) B_6' sz_5' u_5' ∧ mu (k_1' + 1) B_6' sz_5' u_5' < mu k_1' c_2' out_0_2' out_1_2')
       else
        (if (decide (n < 0)) = true then
         (SizeB a_0) ∧
         (∀ (sz_6' : Int) (u_6' : Value) (B_7' : List (Nat × Obj)), StarR c_2' B_7' a_0 a_1 sz_6' u_6' →
          (SizeB out_0_2' ∧ SizeB sz_6') ∧
          (∀ (sz_7' : Int) (u_7' : Value) (B_8' : List (Nat × Obj)), JoinR Tr.cat B_7' B_8' out_0_2' out_1_2' sz_6' u_6' sz_7' u_7' →
           (u_7'.oneCell' = true) ∧
           K sz_7' u_7' B_8'))
        else
         ∃ (Inv_1' : Int → (List (Nat × Obj)) → Int → Value → Prop) (mu_1' : Int → (List (Nat × Obj)) → Int → Value → Nat),
          Inv_1' k_1' c_2' out_0_2' out_1_2' ∧ ∀ (k_3' : Int) (c_4' : List (Nat × Obj)) (out_0_4' : Int) (out_1_4' : Value), Inv_1' k_3' c_4' out_0_4' out_1_4' →
           (if (decide (k_3' < n)) = true then
            (SizeB a_0) ∧
            (∀ (sz_12' : Int) (u_12' : Value) (B_13' : List (Nat × Obj)), MaybeR c_4' B_13' a_0 a_1 sz_12' u_12' →
             (SizeB out_0_4' ∧ SizeB sz_12') ∧
             (∀ (sz_13' : Int) (u_13' : Value) (B_14' : List (Nat × Obj)), JoinR Tr.cat B_13' B_14' out_0_4' out_1_4' sz_12' u_12' sz_13' u_13' →
              (u_13'.oneCell' = true) ∧
              (I64 (k_3' + 1)) ∧
              Inv_1' (k_3' + 1) B_14' sz_13' u_13' ∧ mu_1' (k_3' + 1) B_14' sz_13' u_13' < mu_1' k_3' c_4' out_0_4' out_1_4'))
           else
            (out_1_4'.oneCell' = true) ∧
            K out_0_4' out_1_4' c_4')))) ∧
    (if (decide (m = 0)) = true then
     (SizeB a_0) ∧
     (∀ (sz_14' : Int) (u_14' : Value) (B_15' : List (Nat × Obj)), MaybeR B B_15' a_0 a_1 sz_14' u_14' →
      (u_14'.oneCell' = true) ∧
      J0 B_15' sz_14' u_14')
    else
     J0 B a_0 a_1)))
set_option maxRecDepth 100000 in
theorem times_wp  (a_0 : Int) (a_1 : Value) (m : Int) (n : Int) (B : List (Nat × Obj)) (K : Int → Value → (List (Nat × Obj)) → Prop) (h : times_vc a_0 a_1 m n B K) :
  Does Tryd.prog 168 [Value.agg [zI a_0, a_1].toArray, zI m, zI n] [] [pool B] (fun o => (∃ (v_0 : Int) (v_1 : Value) (D : List (Nat × Obj)), K v_0 v_1 D ∧ o = .ret (Value.agg [zI v_0, v_1].toArray) [pool D]) ∨ (False)) := by
 unfold times_vc at h
 refine does_of_wc (n := 55) (L0 := [(0, Value.agg [zI a_0, a_1].toArray), (1, zI m), (2, zI n)]) Tryd.func168 rfl rfl rfl rfl (fun w0 M Q hE => ?_)
 refine wc_seq (fun K0 hK => ?_)
 refine wc_region ?_
 refine WL.make (MV.box (cs := [zI a_0, a_1]) rfl rfl) rfl rfl rfl (fun b => ?_)
 refine WL.make (MV.alloc tf_zero_79) rfl rfl rfl (fun b_1' => ?_)
 refine WL.nil ?_
 refine KX.go (hK [(1, zI m), (2, zI n), (3, zP b), (6, zP b_1')] _ ?_) ⟨rfl, rfl, rfl, rfl, trivial⟩
 refine wc_seq (fun K0_1' hK_1' => ?_)
 refine wc_seq (fun K0_2' hK_2' => ?_)
 refine wc_region ?_
 refine wv (OV.move rfl) ?_
 refine wv (OV.eql rfl rfl) ?_
 refine wv (OV.move rfl) ?_
 refine WL.cut 3 [(1, zI m), (2, zI n), (3, zP b), (6, zP b_1'), (14, zB ((decide (m = 0)) && (decide (n < 0))))] ?_ (fun K0_3' hK_3' => ?_)
 rotate_left
 ·refine WL.split (decide (m = 0)) (fun hb => ?_) (fun hb => ?_)
  ·refine WL.set 11 rfl (congrArg zB hb) ?_
   refine wv (OV.move rfl) ?_
   refine wv (OV.lss rfl rfl) ?_
   refine wv (OV.pickT rfl rfl) ?_
   refine WL.set 14 rfl (bT (v := decide (n < 0)) hb) ?_
   exact WL.end_ (KX.go hK_3' ⟨rfl, rfl, rfl, rfl, rfl, trivial⟩)
  ·refine WL.set 11 rfl (congrArg zB hb) ?_
   refine WL.skip rfl rfl rfl ?_
   refine WL.skip rfl rfl rfl ?_
   refine wv (OV.pickF rfl rfl) ?_
   refine WL.set 14 rfl (bF (v := decide (n < 0)) hb) ?_
   exact WL.end_ (KX.go hK_3' ⟨rfl, rfl, rfl, rfl, rfl, trivial⟩)
 refine WL.nil ?_
 refine KX.go (hK_2' [(1, zI m), (2, zI n), (3, zP b), (6, zP b_1'), (14, zB ((decide (m = 0)) && (decide (n < 0))))] _ ?_) ⟨rfl, rfl, rfl, rfl, rfl, trivial⟩
 refine wc_cond (b := (decide (m = 0)) && (decide (n < 0))) rfl (fun hb => ?_) (fun hb => ?_)
 ·replace h := if_T h hb
  refine wc_seq (fun K0_4' hK_4' => ?_)
  refine wc_region ?_
  refine wv (OV.loadR rfl (At.own 1 rfl) tf_row_79) ?_
  obtain ⟨o_1', h⟩ := h
  refine WL.pick (H' := [pool B, HA.blk b_1' (.cells [zI 0, Value.nilFunc].toArray 79 (0, 0)), HA.blk b (.cells [zI a_0, a_1].toArray 79 (0, 0))]) [2, 0, 1] rfl rfl ?_
  refine WL.callS tf_ent_157 rfl (star_does a_0 a_1 B o_1') rfl trivial rfl rfl (fun r H' hS => ?_) (fun c H' hS => ?_)
  ·obtain ⟨sz, u, B_1', hc, ho⟩ := hS
   cases ho
   replace h := h sz u B_1' hc
   obtain ⟨o_2', h⟩ := h
   refine WL.storeW (vs := [zI sz, u]) 1 rfl rfl rfl rfl rfl tf_size_79 rfl (one_cons rfl (one_cons o_2' one_nil)) rfl ?_
   refine WL.nil ?_
   refine KX.go (hK_4' [(6, zP b_1')] _ ?_) ⟨rfl, trivial⟩
   refine wc_ret ?_
   exact hE.ret [0] rfl rfl (.inl ⟨_, _, _, h, rfl⟩) (ResV.of1 rfl (RV.row rfl (At.own 1 rfl) tf_row_79))
  ·obtain ⟨sz, u, B_1', hc, ho⟩ := hS
   cases ho
 ·replace h := if_F h hb
  refine wc_skip ?_
  refine KX.go (hK_1' [(1, zI m), (2, zI n), (3, zP b), (6, zP b_1')] _ ?_) ⟨rfl, rfl, rfl, rfl, trivial⟩
  refine wc_seq (fun K0_5' hK_5' => ?_)
  refine wc_seq (fun K0_6' hK_6' => ?_)
  refine wc_region ?_
  refine wv (OV.move rfl) ?_
  refine wv (OV.eql rfl rfl) ?_
  refine wv (OV.move rfl) ?_
  refine WL.cut 3 [(1, zI m), (2, zI n), (3, zP b), (6, zP b_1'), (22, zB ((decide (m = 0)) && (decide (n = 0))))] ?_ (fun K0_7' hK_7' => ?_)
  rotate_left
  ·refine WL.split (decide (m = 0)) (fun hb => ?_) (fun hb => ?_)
   ·refine WL.set 19 rfl (congrArg zB hb) ?_
    refine wv (OV.move rfl) ?_
    refine wv (OV.eql rfl rfl) ?_
    refine wv (OV.pickT rfl rfl) ?_
    refine WL.set 22 rfl (bT (v := decide (n = 0)) hb) ?_
    exact WL.end_ (KX.go hK_7' ⟨rfl, rfl, rfl, rfl, rfl, trivial⟩)
   ·refine WL.set 19 rfl (congrArg zB hb) ?_
    refine WL.skip rfl rfl rfl ?_
    refine WL.skip rfl rfl rfl ?_
    refine wv (OV.pickF rfl rfl) ?_
    refine WL.set 22 rfl (bF (v := decide (n = 0)) hb) ?_
    exact WL.end_ (KX.go hK_7' ⟨rfl, rfl, rfl, rfl, rfl, trivial⟩)
  refine WL.nil ?_
  refine KX.go (hK_6' [(1, zI m), (2, zI n), (3, zP b), (6, zP b_1'), (22, zB ((decide (m = 0)) && (decide (n = 0))))] _ ?_) ⟨rfl, rfl, rfl, rfl, rfl, trivial⟩
  refine wc_cond (b := (decide (m = 0)) && (decide (n = 0))) rfl (fun hb => ?_) (fun hb => ?_)
  ·replace h := if_T h hb
   refine wc_seq (fun K0_8' hK_8' => ?_)
   refine wc_region ?_
   refine wv (OV.build rfl (cs := []) rfl) ?_
   refine wv (OV.cast (OV.iface rfl tf_conc_49) (v' := Tr.val .eps) rfl) ?_
   refine WL.pick (H' := [pool B, HA.blk b_1' (.cells [zI 0, Value.nilFunc].toArray 79 (0, 0)), HA.blk b (.cells [zI a_0, a_1].toArray 79 (0, 0))]) [2, 0, 1] rfl rfl ?_
   refine WL.callS tf_ent_144 rfl (leaf_does .eps B) rfl trivial rfl rfl (fun r H' hS => ?_) (fun c H' hS => ?_)
   ·obtain ⟨sz_1', u_1', B_2', hc, ho⟩ := hS
    cases ho
    replace h := h sz_1' u_1' B_2' hc
    obtain ⟨o_4', h⟩ := h
    refine WL.storeW (vs := [zI sz_1', u_1']) 1 rfl rfl rfl rfl rfl tf_size_79 rfl (one_cons rfl (one_cons o_4' one_nil)) rfl ?_
    refine WL.nil ?_
    refine KX.go (hK_8' [(6, zP b_1')] _ ?_) ⟨rfl, trivial⟩
    refine wc_ret ?_
    exact hE.ret [0] rfl rfl (.inl ⟨_, _, _, h, rfl⟩) (ResV.of1 rfl (RV.row rfl (At.own 1 rfl) tf_row_79))
   ·obtain ⟨sz_1', u_1', B_2', hc, ho⟩ := hS
    cases ho
  ·replace h := if_F h hb
   refine wc_skip ?_
   refine KX.go (hK_5' [(1, zI m), (2, zI n), (3, zP b), (6, zP b_1')] _ ?_) ⟨rfl, rfl, rfl, rfl, trivial⟩
   refine wc_seq (fun K0_9' hK_9' => ?_)
   refine wc_region ?_
   refine wv (OV.loadR rfl (At.own 1 rfl) tf_row_79) ?_
   refine WL.make (MV.alloc tf_zero_79) rfl rfl rfl (fun b_2' => ?_)
   obtain ⟨o_5', h⟩ := h
   refine WL.storeW (vs := [zI a_0, a_1]) 0 rfl rfl rfl rfl rfl tf_size_79 rfl (one_cons rfl (one_cons o_5' one_nil)) rfl ?_
   refine WL.nil ?_
   refine KX.go (hK_9' [(1, zI m), (2, zI n), (3, zP b), (6, zP b_1'), (7, zP b_2')] _ ?_) ⟨rfl, rfl, rfl, rfl, rfl, trivial⟩
   refine wc_seq (fun K0_10' hK_10' => ?_)
   refine wc_region ?_
   refine wv (OV.assign rfl) ?_
   refine WL.nil ?_
   refine KX.go (hK_10' [(1, zI m), (2, zI n), (3, zP b), (6, zP b_1'), (7, zP b_2'), (8, zI 1)] _ ?_) ⟨rfl, rfl, rfl, rfl, rfl, rfl, trivial⟩
   obtain ⟨J0, hJ, h⟩ := h
   refine wc_seqJ (X := (List (Nat × Obj)) × Int × Value) (fun σ => J0 σ.1 σ.2.1 σ.2.2) (fun σ => [(1, zI m), (2, zI n), (3, zP b), (6, zP b_1'), (7, zP b_2'), (8, zI 1)]) (fun σ => [pool σ.1, HA.blk b_2' (.cells [zI σ.2.1, σ.2.2].toArray 79 (0, 0)), HA.blk b_1' (.cells [zI 0, Value.nilFunc].toArray 79 (0, 0)), HA.blk b (.cells [zI a_0, a_1].toArray 79 (0, 0))]) ?_ (fun K0_12' hK_12' => ?_)
   ·rintro ⟨c, out_0, out_1⟩ hj
    replace h := hJ c out_0 out_1 hj
    show WC _ _ _ _ [(1, zI m), (2, zI n), (3, zP b), (6, zP b_1'), (7, zP b_2'), (8, zI 1)] [pool c, HA.blk b_2' (.cells [zI out_0, out_1].toArray 79 (0, 0)), HA.blk b_1' (.cells [zI 0, Value.nilFunc].toArray 79 (0, 0)), HA.blk b (.cells [zI a_0, a_1].toArray 79 (0, 0))]
    refine wc_seq (fun K0_13' hK_13' => ?_)
    refine wc_block ?_
    obtain ⟨Inv, mu, h0, hr⟩ := h
    refine wc_loop (S := Int × (List (Nat × Obj)) × Int × Value) (fun σ => Inv σ.1 σ.2.1 σ.2.2.1 σ.2.2.2) (fun σ => mu σ.1 σ.2.1 σ.2.2.1 σ.2.2.2) (fun σ => [(1, zI m), (2, zI n), (3, zP b), (6, zP b_1'), (7, zP b_2'), (8, zI σ.1)]) (fun σ => [pool σ.2.1, HA.blk b_2' (.cells [zI σ.2.2.1, σ.2.2.2].toArray 79 (0, 0)), HA.blk b_1' (.cells [zI 0, Value.nilFunc].toArray 79 (0, 0)), HA.blk b (.cells [zI a_0, a_1].toArray 79 (0, 0))]) (1, c, out_0, out_1) h0 ⟨rfl, rfl, rfl, rfl, rfl, rfl, trivial⟩ rfl ?_
    rintro ⟨k_1', c_2', out_0_2', out_1_2'⟩ hi K0_20' hK_20'
    have h := hr k_1' c_2' out_0_2' out_1_2' hi
    show WC _ _ _ _ [(1, zI m), (2, zI n), (3, zP b), (6, zP b_1'), (7, zP b_2'), (8, zI k_1')] [pool c_2', HA.blk b_2' (.cells [zI out_0_2', out_1_2'].toArray 79 (0, 0)), HA.blk b_1' (.cells [zI 0, Value.nilFunc].toArray 79 (0, 0)), HA.blk b (.cells [zI a_0, a_1].toArray 79 (0, 0))]
    refine wc_seq (fun K0_21' hK_21' => ?_)
    refine wc_seq (fun K0_22' hK_22' => ?_)
    refine wc_region ?_
    refine wv (OV.move rfl) ?_
    refine wv (OV.move rfl) ?_
    refine wv (OV.lss rfl rfl) ?_
    refine WL.nil ?_
    refine KX.go (hK_22' [(1, zI m), (2, zI n), (3, zP b), (6, zP b_1'), (7, zP b_2'), (8, zI k_1'), (33, zB (decide (k_1' < m)))] _ ?_) ⟨rfl, rfl, rfl, rfl, rfl, rfl, rfl, trivial⟩
    refine wc_cond (b := decide (k_1' < m)) rfl (fun hb => ?_) (fun hb => ?_)
    ·replace h := if_T h hb
     refine wc_skip ?_
     refine KX.go (hK_21' [(1, zI m), (2, zI n), (3, zP b), (6, zP b_1'), (7, zP b_2'), (8, zI k_1')] _ ?_) ⟨rfl, rfl, rfl, rfl, rfl, rfl, trivial⟩
     refine wc_seq (fun K0_23' hK_23' => ?_)
     refine wc_block ?_
     refine wc_region ?_
     refine wv (OV.loadR rfl (At.own 1 rfl) tf_row_79) ?_
     refine wv (OV.loadR rfl (At.own 3 rfl) tf_row_79) ?_
     obtain ⟨o_13', h⟩ := h
     refine WL.callS tf_ent_78 rfl (join_does Tr.cat_op out_0_2' out_1_2' a_0 a_1 c_2' o_13') rfl trivial rfl rfl (fun r H' hS => ?_) (fun c H' hS => ?_)
     ·obtain ⟨sz_5', u_5', B_6', hc, ho⟩ := hS
      cases ho
      replace h := h sz_5' u_5' B_6' hc
      obtain ⟨o_14', h⟩ := h
      refine WL.storeW (vs := [zI sz_5', u_5']) 1 rfl rfl rfl rfl rfl tf_size_79 rfl (one_cons rfl (one_cons o_14' one_nil)) rfl ?_
      refine WL.nil ?_
      refine KX.go (hK_23' [(1, zI m), (2, zI n), (3, zP b), (6, zP b_1'), (7, zP b_2'), (8, zI k_1')] _ ?_) ⟨rfl, rfl, rfl, rfl, rfl, rfl, trivial⟩
      refine wc_region ?_
      refine wv (OV.move rfl) ?_
      obtain ⟨o_15', h⟩ := h
      refine wv (OV.add rfl rfl o_15') ?_
      refine wv (OV.assign rfl) ?_
      refine WL.nil ?_
      exact KX.goH (hK_20' (k_1' + 1, B_6', sz_5', u_5') h.1 h.2) ⟨rfl, rfl, rfl, rfl, rfl, rfl, trivial⟩ [0, 1, 2, 3] rfl rfl
     ·obtain ⟨sz_5', u_5', B_6', hc, ho⟩ := hS
      cases ho
    ·replace h := if_F h hb
     refine wc_exit ?_
     refine KX.go (hK_13' [(2, zI n), (3, zP b), (6, zP b_1'), (7, zP b_2'), (8, zI k_1')] _ ?_) ⟨rfl, rfl, rfl, rfl, rfl, trivial⟩
     refine wc_seq (fun K0_24' hK_24' => ?_)
     refine wc_seq (fun K0_25' hK_25' => ?_)
     refine wc_region ?_
     refine wv (OV.move rfl) ?_
     refine wv (OV.lss rfl rfl) ?_
     refine WL.nil ?_
     refine KX.go (hK_25' [(2, zI n), (3, zP b), (6, zP b_1'), (7, zP b_2'), (8, zI k_1'), (40, zB (decide (n < 0)))] _ ?_) ⟨rfl, rfl, rfl, rfl, rfl, rfl, trivial⟩
     refine wc_cond (b := decide (n < 0)) rfl (fun hb => ?_) (fun hb => ?_)
     ·replace h := if_T h hb
      refine wc_seq (fun K0_26' hK_26' => ?_)
      refine wc_drawC 2 [1, 2, 3] [HA.blk b_2' (.cells [zI out_0_2', out_1_2'].toArray 79 (0, 0)), HA.blk b_1' (.cells [zI 0, Value.nilFunc].toArray 79 (0, 0)), HA.blk b (.cells [zI a_0, a_1].toArray 79 (0, 0))] rfl rfl tf_mixed (by kernel_rfl) (fun T hT => ?_)
      refine TW.val (OV.loadR rfl (At.own 0 rfl) tf_row_79) rfl rfl rfl ?_
      refine TW.val (OV.loadR rfl (At.own 2 rfl) tf_row_79) rfl rfl rfl ?_
      refine TW.nil (hT _ ?_)
      obtain ⟨o_16', h⟩ := h
      refine WLX.callS [0, 1, 2] rfl (EN.fn tf_ent_157 rfl) rfl (star_does a_0 a_1 c_2' o_16') rfl rfl trivial rfl rfl (fun r H' hS => ?_) (fun c H' hS => ?_)
      ·obtain ⟨sz_6', u_6', B_7', hc, ho⟩ := hS
       cases ho
       replace h := h sz_6' u_6' B_7' hc
       obtain ⟨o_17', h⟩ := h
       refine WLX.callS [0, 1, 2] rfl (EN.fn tf_ent_78 rfl) rfl (join_does Tr.cat_op out_0_2' out_1_2' sz_6' u_6' B_7' o_17') rfl rfl trivial rfl rfl (fun r H' hS => ?_) (fun c H' hS => ?_)
       ·obtain ⟨sz_7', u_7', B_8', hc, ho⟩ := hS
        cases ho
        replace h := h sz_7' u_7' B_8' hc
        obtain ⟨o_18', h⟩ := h
        refine WLX.opZ (OpK.storeW (vs := [zI sz_7', u_7']) 2 rfl rfl rfl rfl rfl tf_size_79 rfl (one_cons rfl (one_cons o_18' one_nil))) rfl ?_
        refine WLX.nil ?_
        refine KX.go (hK_26' [(6, zP b_1')] _ ?_) ⟨rfl, trivial⟩
        refine wc_ret ?_
        exact hE.ret [0] rfl rfl (.inl ⟨_, _, _, h, rfl⟩) (ResV.of1 rfl (RV.row rfl (At.own 2 rfl) tf_row_79))
       ·obtain ⟨sz_7', u_7', B_8', hc, ho⟩ := hS
        cases ho
      ·obtain ⟨sz_6', u_6', B_7', hc, ho⟩ := hS
       cases ho
     ·replace h := if_F h hb
      refine wc_skip ?_
      refine KX.go (hK_24' [(2, zI n), (3, zP b), (6, zP b_1'), (7, zP b_2'), (8, zI k_1')] _ ?_) ⟨rfl, rfl, rfl, rfl, rfl, trivial⟩
      refine wc_seq (fun K0_27' hK_27' => ?_)
      refine wc_block ?_
      obtain ⟨Inv_1', mu_1', h0_1', hr_1'⟩ := h
      refine wc_loop (S := Int × (List (Nat × Obj)) × Int × Value) (fun σ => Inv_1' σ.1 σ.2.1 σ.2.2.1 σ.2.2.2) (fun σ => mu_1' σ.1 σ.2.1 σ.2.2.1 σ.2.2.2) (fun σ => [(2, zI n), (3, zP b), (6, zP b_1'), (7, zP b_2'), (8, zI σ.1)]) (fun σ => [pool σ.2.1, HA.blk b_2' (.cells [zI σ.2.2.1, σ.2.2.2].toArray 79 (0, 0)), HA.blk b_1' (.cells [zI 0, Value.nilFunc].toArray 79 (0, 0)), HA.blk b (.cells [zI a_0, a_1].toArray 79 (0, 0))]) (k_1', c_2', out_0_2', out_1_2') h0_1' ⟨rfl, rfl, rfl, rfl, rfl, trivial⟩ rfl ?_
      rintro ⟨k_3', c_4', out_0_4', out_1_4'⟩ hi K0_34' hK_34'
      have h := hr_1' k_3' c_4' out_0_4' out_1_4' hi
      show WC _ _ _ _ [(2, zI n), (3, zP b), (6, zP b_1'), (7, zP b_2'), (8, zI k_3')] [pool c_4', HA.blk b_2' (.cells [zI out_0_4', out_1_4'].toArray 79 (0, 0)), HA.blk b_1' (.cells [zI 0, Value.nilFunc].toArray 79 (0, 0)), HA.blk b (.cells [zI a_0, a_1].toArray 79 (0, 0))]
      refine wc_seq (fun K0_35' hK_35' => ?_)
      refine wc_seq (fun K0_36' hK_36' => ?_)
      refine wc_region ?_
      refine wv (OV.move rfl) ?_
      refine wv (OV.move rfl) ?_
      refine wv (OV.lss rfl rfl) ?_
      refine WL.nil ?_
      refine KX.go (hK_36' [(2, zI n), (3, zP b), (6, zP b_1'), (7, zP b_2'), (8, zI k_3'), (47, zB (decide (k_3' < n)))] _ ?_) ⟨rfl, rfl, rfl, rfl, rfl, rfl, trivial⟩
      refine wc_cond (b := decide (k_3' < n)) rfl (fun hb => ?_) (fun hb => ?_)
      ·replace h := if_T h hb
       refine wc_skip ?_
       refine KX.go (hK_35' [(2, zI n), (3, zP b), (6, zP b_1'), (7, zP b_2'), (8, zI k_3')] _ ?_) ⟨rfl, rfl, rfl, rfl, rfl, trivial⟩
       refine wc_seq (fun K0_37' hK_37' => ?_)
       refine wc_block ?_
       refine wc_drawC 2 [1, 2, 3] [HA.blk b_2' (.cells [zI out_0_4', out_1_4'].toArray 79 (0, 0)), HA.blk b_1' (.cells [zI 0, Value.nilFunc].toArray 79 (0, 0)), HA.blk b (.cells [zI a_0, a_1].toArray 79 (0, 0))] rfl rfl tf_mixed (by kernel_rfl) (fun T_3' hT_3' => ?_)
       refine TW.val (OV.loadR rfl (At.own 0 rfl) tf_row_79) rfl rfl rfl ?_
       refine TW.val (OV.loadR rfl (At.own 2 rfl) tf_row_79) rfl rfl rfl ?_
       refine TW.nil (hT_3' _ ?_)
       obtain ⟨o_27', h⟩ := h
       refine WLX.callS [0, 1, 2] rfl (EN.fn tf_ent_158 rfl) rfl (maybe_does a_0 a_1 c_4' o_27') rfl rfl trivial rfl rfl (fun r H' hS => ?_) (fun c H' hS => ?_)
       ·obtain ⟨sz_12', u_12', B_13', hc, ho⟩ := hS
        cases ho
        replace h := h sz_12' u_12' B_13' hc
        obtain ⟨o_28', h⟩ := h
        refine WLX.callS [0, 1, 2] rfl (EN.fn tf_ent_78 rfl) rfl (join_does Tr.cat_op out_0_4' out_1_4' sz_12' u_12' B_13' o_28') rfl rfl trivial rfl rfl (fun r H' hS => ?_) (fun c H' hS => ?_)
        ·obtain ⟨sz_13', u_13', B_14', hc, ho⟩ := hS
         cases ho
         replace h := h sz_13' u_13' B_14' hc
         obtain ⟨o_29', h⟩ := h
         refine WLX.opZ (OpK.storeW (vs := [zI sz_13', u_13']) 1 rfl rfl rfl rfl rfl tf_size_79 rfl (one_cons rfl (one_cons o_29' one_nil))) rfl ?_
         refine WLX.nil ?_
         refine KX.go (hK_37' [(2, zI n), (3, zP b), (6, zP b_1'), (7, zP b_2'), (8, zI k_3')] _ ?_) ⟨rfl, rfl, rfl, rfl, rfl, trivial⟩
         refine wc_region ?_
         refine wv (OV.move rfl) ?_
         obtain ⟨o_30', h⟩ := h
         refine wv (OV.add rfl rfl o_30') ?_
         refine wv (OV.assign rfl) ?_
         refine WL.nil ?_
         exact KX.goH (hK_34' (k_3' + 1, B_14', sz_13', u_13') h.1 h.2) ⟨rfl, rfl, rfl, rfl, rfl, trivial⟩ [0, 1, 2, 3] rfl rfl
        ·obtain ⟨sz_13', u_13', B_14', hc, ho⟩ := hS
         cases ho
       ·obtain ⟨sz_12', u_12', B_13', hc, ho⟩ := hS
        cases ho
      ·replace h := if_F h hb
       refine wc_exit ?_
       refine KX.go (hK_27' [(6, zP b_1'), (7, zP b_2')] _ ?_) ⟨rfl, rfl, trivial⟩
       refine wc_seq (fun K0_38' hK_38' => ?_)
       refine wc_region ?_
       refine wv (OV.loadR rfl (At.own 1 rfl) tf_row_79) ?_
       obtain ⟨o_31', h⟩ := h
       refine WL.storeW (vs := [zI out_0_4', out_1_4']) 2 rfl rfl rfl rfl rfl tf_size_79 rfl (one_cons rfl (one_cons o_31' one_nil)) rfl ?_
       refine WL.nil ?_
       refine KX.go (hK_38' [(6, zP b_1')] _ ?_) ⟨rfl, trivial⟩
       refine wc_ret ?_
       exact hE.ret [0] rfl rfl (.inl ⟨_, _, _, h, rfl⟩) (ResV.of1 rfl (RV.row rfl (At.own 2 rfl) tf_row_79))
   ·skip
    refine wc_seq (fun K0_39' hK_39' => ?_)
    refine wc_region ?_
    refine wv (OV.move rfl) ?_
    refine wv (OV.eql rfl rfl) ?_
    refine WL.nil ?_
    refine KX.go (hK_39' [(1, zI m), (2, zI n), (3, zP b), (6, zP b_1'), (7, zP b_2'), (8, zI 1), (28, zB (decide (m = 0)))] _ ?_) ⟨rfl, rfl, rfl, rfl, rfl, rfl, rfl, trivial⟩
    refine wc_cond (b := decide (m = 0)) rfl (fun hb => ?_) (fun hb => ?_)
    ·replace h := if_T h hb
     refine wc_region ?_
     refine wv (OV.loadR rfl (At.own 2 rfl) tf_row_79) ?_
     obtain ⟨o_32', h⟩ := h
     refine WL.pick (H' := [pool B, HA.blk b_2' (.cells [zI a_0, a_1].toArray 79 (0, 0)), HA.blk b_1' (.cells [zI 0, Value.nilFunc].toArray 79 (0, 0)), HA.blk b (.cells [zI a_0, a_1].toArray 79 (0, 0))]) [3, 0, 1, 2] rfl rfl ?_
     refine WL.callS tf_ent_158 rfl (maybe_does a_0 a_1 B o_32') rfl trivial rfl rfl (fun r H' hS => ?_) (fun c H' hS => ?_)
     ·obtain ⟨sz_14', u_14', B_15', hc, ho⟩ := hS
      cases ho
      replace h := h sz_14' u_14' B_15' hc
      obtain ⟨o_33', h⟩ := h
      refine WL.storeW (vs := [zI sz_14', u_14']) 1 rfl rfl rfl rfl rfl tf_size_79 rfl (one_cons rfl (one_cons o_33' one_nil)) rfl ?_
      refine WL.nil ?_
      exact KX.goH (hK_12' (B_15', sz_14', u_14') h) ⟨rfl, rfl, rfl, rfl, rfl, rfl, trivial⟩ [0, 1, 2, 3] rfl rfl
     ·obtain ⟨sz_14', u_14', B_15', hc, ho⟩ := hS
      cases ho
    ·replace h := if_F h hb
     refine wc_skip ?_
     exact KX.goH (hK_12' (B, a_0, a_1) h) ⟨rfl, rfl, rfl, rfl, rfl, rfl, trivial⟩ [3, 0, 1, 2] rfl rfl

theorem times_does (sa : Int) (a : Value) (m n : Int) (B : List (Nat × Obj)) (h : RuleB sa a ∧ 0 ≤ m ∧ m ≤ 255 ∧ n ≤ 255 ∧ -1 ≤ n) :
  Does Tryd.prog 168 [.agg [.int .i64 sa, a].toArray, .int .i64 m, .int .i64 n] [] [pool B] (fun o => ∃ k u B', TimesR B B' sa a m n k u ∧ o = .ret (.agg [.int .i64 k, u].toArray) [pool B']) := by
 obtain ⟨hs, h0, h1, h2, h3⟩ := h
 refine (times_wp sa a m n B (fun k u D => TimesR B D sa a m n k u) ?_).weak ?_
 ·unfold times_vc
  by_cases c1 : m = 0 ∧ n < 0
  ·rw [if_pos (by simpa using c1)]
   refine ⟨hs.1, ?_⟩
   rintro k u B1 ⟨g1, g2, g3⟩
   refine ⟨g2.2, g1, g2, fun x hx => ?_⟩
   rw [timesT, if_pos c1]; exact g3 x hx
  rw [if_neg (by simpa using c1)]
  by_cases c2 : m = 0 ∧ n = 0
  ·rw [if_pos (by simpa using c2)]
   rintro k u B1 ⟨g1, g2, g3⟩
   refine ⟨g2.2, g1, g2, fun x hx => ?_⟩
   rw [timesT, if_neg c1, if_pos c2]; exact g3 rfl
  rw [if_neg (by simpa using c2)]
  have hT : ∀ x, timesT x m n = if n < 0 then .cat (catN (if m = 0 then .alt x .eps else x) x (max m 1 - 1).toNat) (.star x) else catN (catN (if m = 0 then .alt x .eps else x) x (max m 1 - 1).toNat) (.alt x .eps) (n - max m 1).toNat := fun x => by
   rw [timesT, if_neg c1, if_neg c2, show (max m 1 - 1).toNat = (m - 1).toNat by omega]
  refine ⟨hs.2, fun c o u => Sups B c ∧ RuleB o u ∧ ∀ x, Is B sa a x → Is c o u (if m = 0 then .alt x .eps else x), ?_, ?_⟩
  ·rintro c o u ⟨j1, j2, j3⟩
   refine ⟨fun k c o u => Sups B c ∧ RuleB o u ∧ 1 ≤ k ∧ k ≤ max m 1 ∧ ∀ x, Is B sa a x → Is c o u (catN (if m = 0 then .alt x .eps else x) x (k - 1).toNat), fun k _ _ _ => (256 - k).toNat, ⟨j1, j2, by omega, by omega, fun x hx => by simpa [catN] using j3 x hx⟩, ?_⟩
   rintro k c o u ⟨i1, i2, i3, i4, i5⟩
   by_cases hk : k < m
   ·rw [if_pos (by simpa using hk)]
    refine ⟨⟨i2.1, hs.1⟩, ?_⟩
    rintro z v B1 ⟨g1, g2, g3⟩
    refine ⟨g2.2, by unfold I64; omega, ⟨i1.trans g1, g2, by omega, by omega, fun x hx => ?_⟩, by show (256 - (k + 1)).toNat < (256 - k).toNat; omega⟩
    rw [show (k + 1 - 1).toNat = (k - 1).toNat + 1 by omega, catN_succ]
    exact g3 _ _ (i5 x hx) (hx.more i1)
   rw [if_neg (by simpa using hk)]
   have hkm : k = max m 1 := by omega
   by_cases hn : n < 0
   ·rw [if_pos (by simpa using hn)]
    refine ⟨hs.1, ?_⟩
    rintro z v B1 ⟨g1, g2, g3⟩
    refine ⟨⟨i2.1, g2.1⟩, ?_⟩
    rintro z2 v2 B2 ⟨q1, q2, q3⟩
    refine ⟨q2.2, (i1.trans g1).trans q1, q2, fun x hx => ?_⟩
    rw [hT, if_pos hn, ← hkm]
    exact q3 _ _ ((i5 x hx).more g1) (g3 x (hx.more i1))
   rw [if_neg (by simpa using hn)]
   refine ⟨fun k' c o u => Sups B c ∧ RuleB o u ∧ k ≤ k' ∧ k' ≤ max n k ∧ ∀ x, Is B sa a x → Is c o u (catN (catN (if m = 0 then .alt x .eps else x) x (k - 1).toNat) (.alt x .eps) (k' - k).toNat), fun k _ _ _ => (300 - k).toNat, ⟨i1, i2, by omega, by omega, fun x hx => by simpa [catN] using i5 x hx⟩, ?_⟩
   rintro k' c o u ⟨e1, e2, e3, e4, e5⟩
   by_cases hk' : k' < n
   ·rw [if_pos (by simpa using hk')]
    refine ⟨hs.1, ?_⟩
    rintro z v B1 ⟨g1, g2, g3⟩
    refine ⟨⟨e2.1, g2.1⟩, ?_⟩
    rintro z2 v2 B2 ⟨q1, q2, q3⟩
    refine ⟨q2.2, by unfold I64; omega, ⟨(e1.trans g1).trans q1, q2, by omega, by omega, fun x hx => ?_⟩, by show (300 - (k' + 1)).toNat < (300 - k').toNat; omega⟩
    rw [show (k' + 1 - k).toNat = (k' - k).toNat + 1 by omega, catN_succ]
    exact q3 _ _ ((e5 x hx).more g1) (g3 x (hx.more e1))
   ·rw [if_neg (by simpa using hk')]
    refine ⟨e2.2, e1, e2, fun x hx => ?_⟩
    rw [hT, if_neg hn, ← hkm]
    by_cases hkn : k ≤ n
    ·rw [show n = k' by omega]; exact e5 x hx
    ·have := e5 x hx
     rw [show (k' - k).toNat = 0 by omega] at this
     rw [show (n - k).toNat = 0 by omega]; exact this
  ·by_cases hm : m = 0
   ·rw [if_pos (by simpa using hm)]
    refine ⟨hs.1, ?_⟩
    rintro z v B1 ⟨g1, g2, g3⟩
    exact ⟨g2.2, g1, g2, fun x hx => by rw [if_pos hm]; exact g3 x hx⟩
   ·rw [if_neg (by simpa using hm)]
    exact ⟨Sups.refl B, hs, fun x hx => by rw [if_neg hm]; exact hx⟩
 ·rintro o (⟨n, u, D, hK, rfl⟩ | h)
  ·exact ⟨n, u, D, hK, rfl⟩
  ·exact h.elim

end Go.Proofs.YtohnchdnkbadaaaDoor
namespace Go.Proofs.YtohnchdnkbadaaaDoor
open Go Go.RowKit

theorem tf_field_76_1 : fieldOff Tryd.prog 76 1 = some 1 := by kernel_rfl
theorem tf_field_76_0 : fieldOff Tryd.prog 76 0 = some 0 := by kernel_rfl
theorem tf_ent_38 : entB Tryd.prog 38 = true := by kernel_rfl
theorem tf_ent_77 : entB Tryd.prog 77 = true := by kernel_rfl
theorem tf_ent_39 : entB Tryd.prog 39 = true := by kernel_rfl
theorem tf_ent_167 : entB Tryd.prog 167 = true := by kernel_rfl
theorem tf_ent_168 : entB Tryd.prog 168 = true := by kernel_rfl
theorem tf_ent_159 : entB Tryd.prog 159 = true := by kernel_rfl

abbrev scB (b : Nat) (t : List UInt8) (i : Int) (v : Value) : HA := .blk b (.cells [st t, .int .i64 i, v].toArray 76 (0, 0))
/-- What such a sign makes of a part of a text. -/
def BracesR (t : List UInt8) (i : Int) (B B' : List (Nat × Obj)) (sa : Int) (a : Value) (j n : Int) (u : Value) : Prop :=
 Sups B B' ∧ RuleB n u ∧ i < j ∧ j ≤ t.length ∧ ∀ x, Is B sa a x → ∃ y, bracesM t x i = .ok (y, j) ∧ Is B' n u y
def BracesE (t : List UInt8) (i : Int) (B : List (Nat × Obj)) (sa : Int) (a : Value) (c p : Int) : Prop := ∀ x, Is B sa a x → bracesM t x i = .error (c, p)
def RepR (t : List UInt8) (i : Int) (B B' : List (Nat × Obj)) (sa : Int) (a : Value) (j n : Int) (u : Value) : Prop :=
 Sups B B' ∧ RuleB n u ∧ i ≤ j ∧ j ≤ t.length ∧ ∀ x, Is B sa a x → ∃ y, RP t x i (.ok (y, j)) ∧ Is B' n u y
def RepE (t : List UInt8) (i : Int) (B : List (Nat × Obj)) (sa : Int) (a : Value) (c p : Int) : Prop := ∀ x, Is B sa a x → RP t x i (.error (c, p))

def ended_vc (s_0 : List UInt8) (s_1 : Int) (_ : Value) (K : Bool → Prop) : Prop :=
 K (decide ((s_0.length : Int) ≤ s_1))
set_option maxRecDepth 100000 in
theorem ended_wp (b : Nat) (s_0 : List UInt8) (s_1 : Int) (s_2 : Value) (K : Bool → Prop) (h : ended_vc s_0 s_1 s_2 K) :
  Does Tryd.prog 38 [zP b] [(b, .cells [st s_0, zI s_1, s_2].toArray 76 (0, 0))] [] (fun o => (∃ (v : Bool), K v ∧ o = .ret (zB v) []) ∨ (False)) := by
 unfold ended_vc at h
 refine does_of_wc (n := 13) (L0 := [(0, zP b)]) Tryd.func38 rfl rfl rfl rfl (fun w0 M Q hE => ?_)
 refine wc_seq (fun K0 hK => ?_)
 refine wc_region ?_
 refine wv (OV.assign rfl) ?_
 refine WL.nil ?_
 refine KX.go (hK [(0, zP b)] _ ?_) ⟨rfl, trivial⟩
 refine wc_seq (fun K0_1' hK_1' => ?_)
 refine wc_draw 9 [] tf_mixed (by kernel_rfl) rfl (fun T hT => ?_)
 refine FL.val (fun _ => OV.move rfl) rfl (fun _ => rfl) rfl rfl ?_
 refine FL.val (fun _ => OV.nilCheck rfl) rfl (fun _ => rfl) rfl rfl ?_
 refine FL.val (fun _ => OV.fieldAddr0 rfl tf_field_76_1) rfl (fun _ => rfl) rfl rfl ?_
 refine FL.val (fun _ => OV.load rfl (At.ro 0 rfl) rfl tf_scal_3) rfl (fun _ => rfl) rfl rfl ?_
 refine FL.val (fun _ => OV.move rfl) rfl (fun _ => rfl) rfl rfl ?_
 refine FL.val (fun _ => OV.nilCheck rfl) rfl (fun _ => rfl) rfl rfl ?_
 refine FL.val (fun _ => OV.fieldAddr0 rfl tf_field_76_0) rfl (fun _ => rfl) rfl rfl ?_
 refine FL.val (fun _ => OV.load rfl (At.ro 0 rfl) rfl tf_scal_9) rfl (fun _ => rfl) rfl rfl ?_
 refine FL.val (fun _ => OV.len rfl tf_str_9) rfl (fun _ => rfl) rfl rfl ?_
 refine FL.weak (L' := fun γ => [(6, zI s_1), (11, zI (s_0.length : Int))]) (fun γ => ⟨rfl, rfl, trivial⟩) (FL.nil (hT (fun γ => [(6, zI s_1), (11, zI (s_0.length : Int))]) (fun γ => ?_)))
 refine wv (OV.geq rfl rfl) ?_
 refine wv (OV.assign rfl) ?_
 refine WL.nil ?_
 refine KX.go (hK_1' [(2, zB (decide ((s_0.length : Int) ≤ s_1)))] _ ?_) ⟨rfl, trivial⟩
 refine wc_ret ?_
 exact hE.ret [] rfl rfl (.inl ⟨_, h, rfl⟩) (ResV.of1 rfl (RV.tmp rfl))

def next_vc (s_0 : List UInt8) (s_1 : Int) (_ : Value) (K : Int → Prop) : Prop :=
 (if (decide (s_1 < (s_0.length : Int))) = true then
  (0 ≤ s_1 ∧ s_1 < s_0.length) ∧
  K ((s_0.getD s_1.toNat 0).toNat : Int)
 else
  K 0)
set_option maxRecDepth 100000 in
theorem next_wp (b : Nat) (s_0 : List UInt8) (s_1 : Int) (s_2 : Value) (K : Int → Prop) (h : next_vc s_0 s_1 s_2 K) :
  Does Tryd.prog 77 [zP b] [(b, .cells [st s_0, zI s_1, s_2].toArray 76 (0, 0))] [] (fun o => (∃ (v : Int), K v ∧ o = .ret (zU v) []) ∨ (False)) := by
 unfold next_vc at h
 refine does_of_wc (n := 22) (L0 := [(0, zP b)]) Tryd.func77 rfl rfl rfl rfl (fun w0 M Q hE => ?_)
 refine wc_seq (fun K0 hK => ?_)
 refine wc_region ?_
 refine wv (OV.assign rfl) ?_
 refine WL.nil ?_
 refine KX.go (hK [(0, zP b)] _ ?_) ⟨rfl, trivial⟩
 refine wc_seq (fun K0_1' hK_1' => ?_)
 refine wc_seq (fun K0_2' hK_2' => ?_)
 refine wc_draw 9 [] tf_mixed (by kernel_rfl) rfl (fun T hT => ?_)
 refine FL.val (fun _ => OV.move rfl) rfl (fun _ => rfl) rfl rfl ?_
 refine FL.val (fun _ => OV.nilCheck rfl) rfl (fun _ => rfl) rfl rfl ?_
 refine FL.val (fun _ => OV.fieldAddr0 rfl tf_field_76_1) rfl (fun _ => rfl) rfl rfl ?_
 refine FL.val (fun _ => OV.load rfl (At.ro 0 rfl) rfl tf_scal_3) rfl (fun _ => rfl) rfl rfl ?_
 refine FL.val (fun _ => OV.move rfl) rfl (fun _ => rfl) rfl rfl ?_
 refine FL.val (fun _ => OV.nilCheck rfl) rfl (fun _ => rfl) rfl rfl ?_
 refine FL.val (fun _ => OV.fieldAddr0 rfl tf_field_76_0) rfl (fun _ => rfl) rfl rfl ?_
 refine FL.val (fun _ => OV.load rfl (At.ro 0 rfl) rfl tf_scal_9) rfl (fun _ => rfl) rfl rfl ?_
 refine FL.val (fun _ => OV.len rfl tf_str_9) rfl (fun _ => rfl) rfl rfl ?_
 refine FL.weak (L' := fun γ => [(0, zP b), (6, zI s_1), (11, zI (s_0.length : Int))]) (fun γ => ⟨rfl, rfl, rfl, trivial⟩) (FL.nil (hT (fun γ => [(0, zP b), (6, zI s_1), (11, zI (s_0.length : Int))]) (fun γ => ?_)))
 refine wv (OV.lss rfl rfl) ?_
 refine WL.nil ?_
 refine KX.go (hK_2' [(0, zP b), (12, zB (decide (s_1 < (s_0.length : Int))))] _ ?_) ⟨rfl, rfl, trivial⟩
 refine wc_cond (b := decide (s_1 < (s_0.length : Int))) rfl (fun hb => ?_) (fun hb => ?_)
 ·replace h := if_T h hb
  refine wc_seq (fun K0_3' hK_3' => ?_)
  refine wc_draw 8 [] tf_mixed (by kernel_rfl) rfl (fun T_1' hT_1' => ?_)
  refine FL.val (fun _ => OV.move rfl) rfl (fun _ => rfl) rfl rfl ?_
  refine FL.val (fun _ => OV.nilCheck rfl) rfl (fun _ => rfl) rfl rfl ?_
  refine FL.val (fun _ => OV.fieldAddr0 rfl tf_field_76_0) rfl (fun _ => rfl) rfl rfl ?_
  refine FL.val (fun _ => OV.load rfl (At.ro 0 rfl) rfl tf_scal_9) rfl (fun _ => rfl) rfl rfl ?_
  refine FL.val (fun _ => OV.move rfl) rfl (fun _ => rfl) rfl rfl ?_
  refine FL.val (fun _ => OV.nilCheck rfl) rfl (fun _ => rfl) rfl rfl ?_
  refine FL.val (fun _ => OV.fieldAddr0 rfl tf_field_76_1) rfl (fun _ => rfl) rfl rfl ?_
  refine FL.val (fun _ => OV.load rfl (At.ro 0 rfl) rfl tf_scal_3) rfl (fun _ => rfl) rfl rfl ?_
  refine FL.weak (L' := fun γ => [(16, st s_0), (20, zI s_1)]) (fun γ => ⟨rfl, rfl, trivial⟩) (FL.nil (hT_1' (fun γ => [(16, st s_0), (20, zI s_1)]) (fun γ => ?_)))
  obtain ⟨o, h⟩ := h
  refine wv (OV.index rfl rfl tf_str_9 o) ?_
  refine wv (OV.assign rfl) ?_
  refine WL.nil ?_
  refine KX.go (hK_3' [(2, zU ((s_0.getD s_1.toNat 0).toNat : Int))] _ ?_) ⟨rfl, trivial⟩
  refine wc_ret ?_
  exact hE.ret [] rfl rfl (.inl ⟨_, h, rfl⟩) (ResV.of1 rfl (RV.tmp rfl))
 ·replace h := if_F h hb
  refine wc_skip ?_
  refine KX.go (hK_1' [] _ ?_) trivial
  refine wc_seq (fun K0_4' hK_4' => ?_)
  refine wc_region ?_
  refine wv (OV.assign rfl) ?_
  refine WL.nil ?_
  refine KX.go (hK_4' [(2, zU 0)] _ ?_) ⟨rfl, trivial⟩
  refine wc_ret ?_
  exact hE.ret [] rfl rfl (.inl ⟨_, h, rfl⟩) (ResV.of1 rfl (RV.tmp rfl))

def rfail_vc (_ : Value) (code : Int) (at0 : Int) (_ : Prop) (KP : Value → Prop) : Prop :=
 KP (Value.iface 26 (Value.agg [zI code, zI at0, st []].toArray))
set_option maxRecDepth 100000 in
theorem rfail_wp  (s : Value) (code : Int) (at0 : Int) (K : Prop) (KP : Value → Prop) (h : rfail_vc s code at0 K KP) :
  Does Tryd.prog 39 [s, zI code, zI at0] [] [] (fun o => (K ∧ o = .ret (Value.tuple #[]) []) ∨ (∃ (pv : Value), KP pv ∧ o = .pan [{ v := pv, recovered := false }] [])) := by
 unfold rfail_vc at h
 refine does_of_wc (n := 10) (L0 := [(0, s), (1, zI code), (2, zI at0)]) Tryd.func39 rfl rfl rfl rfl (fun w0 M Q hE => ?_)
 refine wc_region ?_
 refine wv (OV.move rfl) ?_
 refine wv (OV.move rfl) ?_
 refine wv (OV.build rfl (cs := [zI code, zI at0, st []]) rfl) ?_
 refine wv (OV.iface rfl tf_conc_26) ?_
 refine WL.panic rfl rfl ?_
 exact hE.pan [] rfl rfl (.inr ⟨_, h, rfl⟩)

theorem ended_does (b : Nat) (t : List UInt8) (i : Int) (w : Value) : Does Tryd.prog 38 [.pointer (some ⟨b, 0, none⟩)] [(b, .cells [st t, .int .i64 i, w].toArray 76 (0, 0))] [] (Ret (.bool (decide ((t.length : Int) ≤ i))) []) :=
 Does.one (ended_wp b t i w (fun v => v = decide ((t.length : Int) ≤ i)) rfl)
theorem next_does (b : Nat) (t : List UInt8) (i : Int) (w : Value) (h : 0 ≤ i) : Does Tryd.prog 77 [.pointer (some ⟨b, 0, none⟩)] [(b, .cells [st t, .int .i64 i, w].toArray 76 (0, 0))] [] (Ret (.int .u8 (nx t i)) []) :=
 Does.one (next_wp b t i w (fun v => v = nx t i) (by
  unfold next_vc
  by_cases h1 : i < t.length
  ·rw [if_pos (by simpa using h1)]; exact ⟨⟨h, h1⟩, rfl⟩
  ·rw [if_neg (by simpa using h1)]; exact (nx_out (by omega)).symm))
theorem rfail_does (s : Value) (c p : Int) : Does Tryd.prog 39 [s, .int .i64 c, .int .i64 p] [] [] (fun o => o = .pan [{ v := faultV c p, recovered := false }] []) := by
 refine (rfail_wp s c p False (fun v => v = faultV c p) rfl).weak ?_
 rintro o (⟨h, _⟩ | ⟨v, rfl, rfl⟩)
 ·exact h.elim
 ·rfl

def number_vc (s_0 : List UInt8) (s_1 : Int) (s_2 : Value) (K : Int → (List UInt8) → Int → Value → Prop) (KP : Value → (List UInt8) → Int → Value → Prop) : Prop :=
 ∃ (Inv : Int → Int → Prop) (mu : Int → Int → Nat),
  Inv 0 s_1 ∧ ∀ (n_1' : Int) (s_1_2' : Int), Inv n_1' s_1_2' →
   ((!(decide ((s_0.length : Int) ≤ s_1_2'))) = true → (I64 (s_1 + 3))) ∧
   (((!(decide ((s_0.length : Int) ≤ s_1_2'))) && (decide (s_1_2' < s_1 + 3))) = true → (0 ≤ s_1_2')) ∧
   ((((!(decide ((s_0.length : Int) ≤ s_1_2'))) && (decide (s_1_2' < s_1 + 3))) && (decide (48 ≤ nx s_0 s_1_2'))) = true → (0 ≤ s_1_2')) ∧
   (if ((((!(decide ((s_0.length : Int) ≤ s_1_2'))) && (decide (s_1_2' < s_1 + 3))) && (decide (48 ≤ nx s_0 s_1_2'))) && (decide (nx s_0 s_1_2' ≤ 57))) = true then
    (I64 (10 * n_1')) ∧
    (0 ≤ s_1_2') ∧
    (I64 (IntKind.wrap .u8 ((nx s_0 s_1_2') - 48))) ∧
    (I64 ((10 * n_1') + (IntKind.wrap .u8 ((nx s_0 s_1_2') - 48)))) ∧
    (I64 (s_1_2' + 1)) ∧
    Inv ((10 * n_1') + (IntKind.wrap .u8 ((nx s_0 s_1_2') - 48))) (s_1_2' + 1) ∧ mu ((10 * n_1') + (IntKind.wrap .u8 ((nx s_0 s_1_2') - 48))) (s_1_2' + 1) < mu n_1' s_1_2'
   else
    (if (decide (s_1_2' = s_1)) = true then
     KP (faultV 20 s_1_2') s_0 s_1_2' s_2
    else
     K n_1' s_0 s_1_2' s_2))
set_option maxRecDepth 100000 in
theorem number_wp (b : Nat) (s_0 : List UInt8) (s_1 : Int) (s_2 : Value) (K : Int → (List UInt8) → Int → Value → Prop) (KP : Value → (List UInt8) → Int → Value → Prop) (h : number_vc s_0 s_1 s_2 K KP) :
  Does Tryd.prog 167 [zP b] [] [HA.blk b (.cells [st s_0, zI s_1, s_2].toArray 76 (0, 0))] (fun o => (∃ (v : Int) (d_0 : List UInt8) (d_1 : Int) (d_2 : Value), K v d_0 d_1 d_2 ∧ o = .ret (zI v) [HA.blk b (.cells [st d_0, zI d_1, d_2].toArray 76 (0, 0))]) ∨ (∃ (pv : Value) (d_0 : List UInt8) (d_1 : Int) (d_2 : Value), KP pv d_0 d_1 d_2 ∧ o = .pan [{ v := pv, recovered := false }] [HA.blk b (.cells [st d_0, zI d_1, d_2].toArray 76 (0, 0))])) := by
 unfold number_vc at h
 refine does_of_wc (n := 58) (L0 := [(0, zP b)]) Tryd.func167 rfl rfl rfl rfl (fun w0 M Q hE => ?_)
 refine wc_seq (fun K0 hK => ?_)
 refine wc_region ?_
 refine wv (OV.assign rfl) ?_
 refine WL.nil ?_
 refine KX.go (hK [(0, zP b)] _ ?_) ⟨rfl, trivial⟩
 refine wc_seq (fun K0_1' hK_1' => ?_)
 refine wc_draw 5 [] tf_mixed (by kernel_rfl) rfl (fun T hT => ?_)
 refine FL.val (fun _ => OV.move rfl) rfl (fun _ => rfl) rfl rfl ?_
 refine FL.val (fun _ => OV.nilCheck rfl) rfl (fun _ => rfl) rfl rfl ?_
 refine FL.val (fun _ => OV.fieldAddr0 rfl tf_field_76_1) rfl (fun _ => rfl) rfl rfl ?_
 refine FL.val (fun _ => OV.load rfl (At.own 0 rfl) rfl tf_scal_3) rfl (fun _ => rfl) rfl rfl ?_
 refine FL.val (fun _ => OV.assign rfl) rfl (fun _ => rfl) rfl rfl ?_
 refine FL.weak (L' := fun γ => [(0, zP b), (3, zI 0), (8, zI s_1)]) (fun γ => ⟨rfl, rfl, rfl, trivial⟩) (FL.nil (hT (fun γ => [(0, zP b), (3, zI 0), (8, zI s_1)]) (fun γ => ?_)))
 refine wv (OV.assign rfl) ?_
 refine WL.nil ?_
 refine KX.go (hK_1' [(0, zP b), (3, zI 0), (4, zI s_1)] _ ?_) ⟨rfl, rfl, rfl, trivial⟩
 refine wc_seq (fun K0_2' hK_2' => ?_)
 refine wc_block ?_
 obtain ⟨Inv, mu, h0, hr⟩ := h
 refine wc_loop (S := Int × Int) (fun σ => Inv σ.1 σ.2) (fun σ => mu σ.1 σ.2) (fun σ => [(0, zP b), (3, zI σ.1), (4, zI s_1)]) (fun σ => [HA.blk b (.cells [st s_0, zI σ.2, s_2].toArray 76 (0, 0))]) (0, s_1) h0 ⟨rfl, rfl, rfl, trivial⟩ rfl ?_
 rintro ⟨n_1', s_1_2'⟩ hi K0_15' hK_15'
 have h := hr n_1' s_1_2' hi
 show WC _ _ _ _ [(0, zP b), (3, zI n_1'), (4, zI s_1)] [HA.blk b (.cells [st s_0, zI s_1_2', s_2].toArray 76 (0, 0))]
 refine wc_seq (fun K0_16' hK_16' => ?_)
 refine wc_seq (fun K0_17' hK_17' => ?_)
 refine wc_region ?_
 refine wv (OV.move rfl) ?_
 refine WL.call (A := []) tf_ent_38 rfl (ended_does b s_0 s_1_2' s_2) rfl ⟨.inl ⟨0, rfl⟩, trivial⟩ rfl rfl ?_
 refine wv (OV.not rfl) ?_
 refine wv (OV.move rfl) ?_
 obtain ⟨o_22', h⟩ := h
 refine WL.cut 8 [(0, zP b), (3, zI n_1'), (4, zI s_1), (20, zB ((!(decide ((s_0.length : Int) ≤ s_1_2'))) && (decide (s_1_2' < s_1 + 3))))] ?_ (fun K0_18' hK_18' => ?_)
 rotate_left
 ·refine WL.split (!(decide ((s_0.length : Int) ≤ s_1_2'))) (fun hb => ?_) (fun hb => ?_)
  ·have o_21' := o_22' hb
   refine WL.set 12 rfl (congrArg zB hb) ?_
   refine wv (OV.move rfl) ?_
   refine wv (OV.nilCheck rfl) ?_
   refine wv (OV.fieldAddr0 rfl tf_field_76_1) ?_
   refine wv (OV.load rfl (At.own 0 rfl) rfl tf_scal_3) ?_
   refine wv (OV.move rfl) ?_
   refine wv (OV.add rfl rfl o_21') ?_
   refine wv (OV.lss rfl rfl) ?_
   refine wv (OV.pickT rfl rfl) ?_
   refine WL.set 20 rfl (bT (v := decide (s_1_2' < s_1 + 3)) hb) ?_
   exact WL.end_ (KX.go hK_18' ⟨rfl, rfl, rfl, rfl, trivial⟩)
  ·refine WL.set 12 rfl (congrArg zB hb) ?_
   refine WL.skip rfl rfl rfl ?_
   refine WL.skip rfl rfl rfl ?_
   refine WL.skip rfl rfl rfl ?_
   refine WL.skip rfl rfl rfl ?_
   refine WL.skip rfl rfl rfl ?_
   refine WL.skip rfl rfl rfl ?_
   refine WL.skip rfl rfl rfl ?_
   refine wv (OV.pickF rfl rfl) ?_
   refine WL.set 20 rfl (bF (v := decide (s_1_2' < s_1 + 3)) hb) ?_
   exact WL.end_ (KX.go hK_18' ⟨rfl, rfl, rfl, rfl, trivial⟩)
 refine wv (OV.move rfl) ?_
 obtain ⟨o_24', h⟩ := h
 refine WL.cut 4 [(0, zP b), (3, zI n_1'), (4, zI s_1), (25, zB (((!(decide ((s_0.length : Int) ≤ s_1_2'))) && (decide (s_1_2' < s_1 + 3))) && (decide (48 ≤ nx s_0 s_1_2'))))] ?_ (fun K0_19' hK_19' => ?_)
 rotate_left
 ·refine WL.split ((!(decide ((s_0.length : Int) ≤ s_1_2'))) && (decide (s_1_2' < s_1 + 3))) (fun hb => ?_) (fun hb => ?_)
  ·have o_23' := o_24' hb
   refine WL.set 21 rfl (congrArg zB hb) ?_
   refine wv (OV.move rfl) ?_
   refine WL.call (A := []) tf_ent_77 rfl (next_does b s_0 s_1_2' s_2 o_23') rfl ⟨.inl ⟨0, rfl⟩, trivial⟩ rfl rfl ?_
   refine wv (OV.geq rfl rfl) ?_
   refine wv (OV.pickT rfl rfl) ?_
   refine WL.set 25 rfl (bT (v := decide (48 ≤ nx s_0 s_1_2')) hb) ?_
   exact WL.end_ (KX.go hK_19' ⟨rfl, rfl, rfl, rfl, trivial⟩)
  ·refine WL.set 21 rfl (congrArg zB hb) ?_
   refine WL.skip rfl rfl rfl ?_
   refine WL.skip rfl rfl rfl ?_
   refine WL.skip rfl rfl rfl ?_
   refine wv (OV.pickF rfl rfl) ?_
   refine WL.set 25 rfl (bF (v := decide (48 ≤ nx s_0 s_1_2')) hb) ?_
   exact WL.end_ (KX.go hK_19' ⟨rfl, rfl, rfl, rfl, trivial⟩)
 refine wv (OV.move rfl) ?_
 obtain ⟨o_26', h⟩ := h
 refine WL.cut 4 [(0, zP b), (3, zI n_1'), (4, zI s_1), (30, zB ((((!(decide ((s_0.length : Int) ≤ s_1_2'))) && (decide (s_1_2' < s_1 + 3))) && (decide (48 ≤ nx s_0 s_1_2'))) && (decide (nx s_0 s_1_2' ≤ 57))))] ?_ (fun K0_20' hK_20' => ?_)
 rotate_left
 ·refine WL.split (((!(decide ((s_0.length : Int) ≤ s_1_2'))) && (decide (s_1_2' < s_1 + 3))) && (decide (48 ≤ nx s_0 s_1_2'))) (fun hb => ?_) (fun hb => ?_)
  ·have o_25' := o_26' hb
   refine WL.set 26 rfl (congrArg zB hb) ?_
   refine wv (OV.move rfl) ?_
   refine WL.call (A := []) tf_ent_77 rfl (next_does b s_0 s_1_2' s_2 o_25') rfl ⟨.inl ⟨0, rfl⟩, trivial⟩ rfl rfl ?_
   refine wv (OV.leq rfl rfl) ?_
   refine wv (OV.pickT rfl rfl) ?_
   refine WL.set 30 rfl (bT (v := decide (nx s_0 s_1_2' ≤ 57)) hb) ?_
   exact WL.end_ (KX.go hK_20' ⟨rfl, rfl, rfl, rfl, trivial⟩)
  ·refine WL.set 26 rfl (congrArg zB hb) ?_
   refine WL.skip rfl rfl rfl ?_
   refine WL.skip rfl rfl rfl ?_
   refine WL.skip rfl rfl rfl ?_
   refine wv (OV.pickF rfl rfl) ?_
   refine WL.set 30 rfl (bF (v := decide (nx s_0 s_1_2' ≤ 57)) hb) ?_
   exact WL.end_ (KX.go hK_20' ⟨rfl, rfl, rfl, rfl, trivial⟩)
 refine WL.nil ?_
 refine KX.go (hK_17' [(0, zP b), (3, zI n_1'), (4, zI s_1), (30, zB ((((!(decide ((s_0.length : Int) ≤ s_1_2'))) && (decide (s_1_2' < s_1 + 3))) && (decide (48 ≤ nx s_0 s_1_2'))) && (decide (nx s_0 s_1_2' ≤ 57))))] _ ?_) ⟨rfl, rfl, rfl, rfl, trivial⟩
 refine wc_cond (b := (((!(decide ((s_0.length : Int) ≤ s_1_2'))) && (decide (s_1_2' < s_1 + 3))) && (decide (48 ≤ nx s_0 s_1_2'))) && (decide (nx s_0 s_1_2' ≤ 57))) rfl (fun hb => ?_) (fun hb => ?_)
 ·replace h := if_T h hb
  refine wc_skip ?_
  refine KX.go (hK_16' [(0, zP b), (3, zI n_1'), (4, zI s_1)] _ ?_) ⟨rfl, rfl, rfl, trivial⟩
  refine wc_block ?_
  refine wc_seq (fun K0_21' hK_21' => ?_)
  refine wc_region ?_
  refine wv (OV.move rfl) ?_
  obtain ⟨o_27', h⟩ := h
  refine wv (OV.mul rfl rfl o_27') ?_
  refine wv (OV.move rfl) ?_
  obtain ⟨o_28', h⟩ := h
  refine WL.call (A := []) tf_ent_77 rfl (next_does b s_0 s_1_2' s_2 o_28') rfl ⟨.inl ⟨0, rfl⟩, trivial⟩ rfl rfl ?_
  refine wv (OV.subW rfl rfl) ?_
  obtain ⟨o_29', h⟩ := h
  refine wv (OV.conv64 rfl tf_some_5 Tryd.underlying3 o_29') ?_
  obtain ⟨o_30', h⟩ := h
  refine wv (OV.add rfl rfl o_30') ?_
  refine wv (OV.assign rfl) ?_
  refine WL.nil ?_
  refine KX.go (hK_21' [(0, zP b), (3, zI ((10 * n_1') + (IntKind.wrap .u8 ((nx s_0 s_1_2') - 48)))), (4, zI s_1)] _ ?_) ⟨rfl, rfl, rfl, trivial⟩
  refine wc_region ?_
  refine wv (OV.move rfl) ?_
  refine wv (OV.nilCheck rfl) ?_
  refine wv (OV.fieldAddr0 rfl tf_field_76_1) ?_
  refine wv (OV.load rfl (At.own 0 rfl) rfl tf_scal_3) ?_
  obtain ⟨o_31', h⟩ := h
  refine wv (OV.add rfl rfl o_31') ?_
  refine wv (OV.nilCheck rfl) ?_
  refine wv (OV.fieldAddr0 rfl tf_field_76_1) ?_
  refine WL.store (vs := [zI (s_1_2' + 1)]) (cs' := [st s_0, zI (s_1_2' + 1), s_2]) 0 rfl rfl rfl rfl tf_size_3 (Nat.le_of_ble_eq_true rfl) rfl rfl rfl ?_
  refine WL.nil ?_
  exact KX.goH (hK_15' ((10 * n_1') + (IntKind.wrap .u8 ((nx s_0 s_1_2') - 48)), s_1_2' + 1) h.1 h.2) ⟨rfl, rfl, rfl, trivial⟩ [0] rfl rfl
 ·replace h := if_F h hb
  refine wc_exit ?_
  refine KX.go (hK_2' [(0, zP b), (3, zI n_1'), (4, zI s_1)] _ ?_) ⟨rfl, rfl, rfl, trivial⟩
  refine wc_seq (fun K0_22' hK_22' => ?_)
  refine wc_seq (fun K0_23' hK_23' => ?_)
  refine wc_region ?_
  refine wv (OV.move rfl) ?_
  refine wv (OV.nilCheck rfl) ?_
  refine wv (OV.fieldAddr0 rfl tf_field_76_1) ?_
  refine wv (OV.load rfl (At.own 0 rfl) rfl tf_scal_3) ?_
  refine wv (OV.move rfl) ?_
  refine wv (OV.eql rfl rfl) ?_
  refine WL.nil ?_
  refine KX.go (hK_23' [(0, zP b), (3, zI n_1'), (50, zB (decide (s_1_2' = s_1)))] _ ?_) ⟨rfl, rfl, rfl, trivial⟩
  refine wc_cond (b := decide (s_1_2' = s_1)) rfl (fun hb => ?_) (fun hb => ?_)
  ·replace h := if_T h hb
   refine wc_region ?_
   refine wv (OV.move rfl) ?_
   refine wv (OV.move rfl) ?_
   refine wv (OV.nilCheck rfl) ?_
   refine wv (OV.fieldAddr0 rfl tf_field_76_1) ?_
   refine wv (OV.load rfl (At.own 0 rfl) rfl tf_scal_3) ?_
   refine WL.callS tf_ent_39 rfl (rfail_does (zP b) 20 s_1_2') rfl trivial rfl rfl (fun r H' hS => by cases hS) (fun c H' hS => ?_)
   cases hS
   exact hE.pan [0] rfl rfl (.inr ⟨_, _, _, _, h, rfl⟩)
  ·replace h := if_F h hb
   refine wc_skip ?_
   refine KX.go (hK_22' [(3, zI n_1')] _ ?_) ⟨rfl, trivial⟩
   refine wc_seq (fun K0_24' hK_24' => ?_)
   refine wc_region ?_
   refine wv (OV.move rfl) ?_
   refine wv (OV.assign rfl) ?_
   refine WL.nil ?_
   refine KX.go (hK_24' [(2, zI n_1')] _ ?_) ⟨rfl, trivial⟩
   refine wc_ret ?_
   exact hE.ret [0] rfl rfl (.inl ⟨_, _, _, _, h, rfl⟩) (ResV.of1 rfl (RV.tmp rfl))

theorem number_does (b : Nat) (t : List UInt8) (i : Int) (w : Value) (h : 0 ≤ i ∧ i ≤ (t.length : Int) ∧ t.length ≤ 1048576) : Does Tryd.prog 167 [.pointer (some ⟨b, 0, none⟩)] [] [scB b t i w]
  (fun o => (∃ n q, numM t i = .ok (n, q) ∧ o = .ret (.int .i64 n) [scB b t q w]) ∨ (∃ c p q, numM t i = .error (c, p) ∧ o = .pan [{ v := faultV c p, recovered := false }] [scB b t q w])) := by
 obtain ⟨h0, h1, h2⟩ := h
 refine (number_wp b t i w (fun n t' q w' => t' = t ∧ w' = w ∧ numM t i = .ok (n, q)) (fun v t' _ w' => t' = t ∧ w' = w ∧ ∃ c p, v = faultV c p ∧ numM t i = .error (c, p)) ?_).weak ?_
 ·refine ⟨fun n j => ∃ k : Nat, j = i + 3 - k ∧ j ≤ t.length ∧ 0 ≤ n ∧ (k = 3 ∧ n ≤ 0 ∨ k = 2 ∧ n ≤ 9 ∨ k = 1 ∧ n ≤ 99 ∨ k = 0 ∧ n ≤ 999) ∧ numF t 3 0 i = numF t k n j, fun _ j => (i + 3 - j).toNat, ⟨3, by omega, by omega, by omega, by omega, rfl⟩, ?_⟩
  rintro n j ⟨k, e1, e2, e3, e4, e5⟩
  have hb := nx_bd t j
  refine ⟨fun _ => by unfold I64; omega, fun _ => by omega, fun _ => by omega, ?_⟩
  by_cases hc : j < t.length ∧ j < i + 3 ∧ 48 ≤ nx t j ∧ nx t j ≤ 57
  ·rw [if_pos (by simp; omega)]
   obtain ⟨c1, c2, c3, c4⟩ := hc
   have hw : IntKind.wrap .u8 (nx t j - 48) = nx t j - 48 := IntWalk.u8_in _ (by omega)
   rw [hw]
   refine ⟨by unfold I64; omega, by omega, by unfold I64; omega, by unfold I64; omega, by unfold I64; omega, ⟨k - 1, by omega, by omega, by omega, by omega, ?_⟩, by show (i + 3 - (j + 1)).toNat < (i + 3 - j).toNat; omega⟩
   rw [e5]
   obtain ⟨k', rfl⟩ : ∃ k', k = k' + 1 := ⟨k - 1, by omega⟩
   rw [numF, if_pos ⟨c1, by simp [digB]; omega⟩]
   rfl
  ·rw [if_neg (by simp; omega)]
   have hN : numF t 3 0 i = (n, j) := by
    rw [e5]
    cases k with
    | zero => rfl
    | succ k' => rw [numF, if_neg (by simp only [digB, Bool.and_eq_true, decide_eq_true_eq]; omega)]
   by_cases hz : j = i
   ·rw [if_pos (by simpa using hz)]
    refine ⟨rfl, rfl, 20, j, rfl, ?_⟩
    unfold numM; rw [hN, if_pos hz, hz]
   ·rw [if_neg (by simpa using hz)]
    refine ⟨rfl, rfl, ?_⟩
    unfold numM; rw [hN, if_neg hz]
 ·rintro o (⟨n, t', q, w', ⟨rfl, rfl, hm⟩, rfl⟩ | ⟨v, t', q, w', ⟨rfl, rfl, c, p, rfl, hm⟩, rfl⟩)
  ·exact .inl ⟨n, q, hm, rfl⟩
  ·exact .inr ⟨c, p, q, hm, rfl⟩

def braces_vc (s_0 : List UInt8) (s_1 : Int) (s_2 : Value) (a_0 : Int) (a_1 : Value) (B : List (Nat × Obj)) (K : Int → Value → (List UInt8) → Int → Value → (List (Nat × Obj)) → Prop) (KP : Value → (List UInt8) → Int → Value → (List (Nat × Obj)) → Prop) : Prop :=
 (I64 (s_1 + 1)) ∧
 (0 ≤ (s_1 + 1) ∧ (s_1 + 1) ≤ (s_0.length : Int) ∧ s_0.length ≤ 1048576) ∧
 (∀ (n : Int) (q : Int), numM s_0 (s_1 + 1) = .ok (n, q) →
  ∃ (J0 : Int → Int → Prop),
   (∀ (n_2' : Int) (s_1_1' : Int), J0 n_2' s_1_1' →
    ((decide ((s_0.length : Int) ≤ s_1_1')) = false → (0 ≤ s_1_1')) ∧
    (if ((decide ((s_0.length : Int) ≤ s_1_1')) || (!decide (nx s_0 s_1_1' = 125))) = true then
     KP (faultV 20 s_1_1') s_0 s_1_1' s_2 B
    else
     (I64 (s_1_1' + 1)) ∧
     (if (((decide (255 < n)) || (decide (255 < n_2'))) || ((decide (0 ≤ n_2')) && (decide (n_2' < n)))) = true then
      KP (faultV 22 s_1) s_0 (s_1_1' + 1) s_2 B
     else
      (RuleB a_0 a_1 ∧ 0 ≤ n ∧ n ≤ 255 ∧ n_2' ≤ 255 ∧ -1 ≤ n_2') ∧
      (∀ (sz : Int) (u : Value) (B_1' : List (Nat × Obj)), TimesR B B_1' a_0 a_1 n n_2' sz u →
       (u.oneCell' = true) ∧
       K sz u s_0 (s_1_1' + 1) s_2 B_1')))) ∧
   ((!(decide ((s_0.length : Int) ≤ q))) = true → (0 ≤ q)) ∧
   (if ((!(decide ((s_0.length : Int) ≤ q))) && (decide (nx s_0 q = 44))) = true then
    (I64 (q + 1)) ∧
    ((decide ((s_0.length : Int) ≤ q + 1)) = false → (0 ≤ (q + 1))) ∧
    (if ((decide ((s_0.length : Int) ≤ q + 1)) || (!decide (nx s_0 (q + 1) = 125))) = true then
     (0 ≤ (q + 1) ∧ (q + 1) ≤ (s_0.length : Int) ∧ s_0.length ≤ 1048576) ∧
     (∀ (n_3' : Int) (q_4' : Int), numM s_0 (q + 1) = .ok (n_3', q_4') →
      J0 n_3' q_4') ∧
     (∀ (c_2' : Int) (p_2' : Int) (q_5' : Int), numM s_0 (q + 1) = .error (c_2', p_2') →
      KP (faultV c_2' p_2') s_0 q_5' s_2 B)
    else
     J0 (-1) (q + 1))
   else
    J0 n q)) ∧
 (∀ (c : Int) (p : Int) (q_1' : Int), numM s_0 (s_1 + 1) = .error (c, p) →
  KP (faultV c p) s_0 q_1' s_2 B)
set_option maxRecDepth 100000 in
theorem braces_wp (b : Nat) (s_0 : List UInt8) (s_1 : Int) (s_2 : Value) (a_0 : Int) (a_1 : Value) (B : List (Nat × Obj)) (K : Int → Value → (List UInt8) → Int → Value → (List (Nat × Obj)) → Prop) (KP : Value → (List UInt8) → Int → Value → (List (Nat × Obj)) → Prop) (h : braces_vc s_0 s_1 s_2 a_0 a_1 B K KP) :
  Does Tryd.prog 159 [zP b, Value.agg [zI a_0, a_1].toArray] [] [HA.blk b (.cells [st s_0, zI s_1, s_2].toArray 76 (0, 0)), pool B] (fun o => (∃ (v_0 : Int) (v_1 : Value) (d_0 : List UInt8) (d_1 : Int) (d_2 : Value) (D : List (Nat × Obj)), K v_0 v_1 d_0 d_1 d_2 D ∧ o = .ret (Value.agg [zI v_0, v_1].toArray) [HA.blk b (.cells [st d_0, zI d_1, d_2].toArray 76 (0, 0)), pool D]) ∨ (∃ (pv : Value) (d_0 : List UInt8) (d_1 : Int) (d_2 : Value) (D : List (Nat × Obj)), KP pv d_0 d_1 d_2 D ∧ o = .pan [{ v := pv, recovered := false }] [HA.blk b (.cells [st d_0, zI d_1, d_2].toArray 76 (0, 0)), pool D])) := by
 unfold braces_vc at h
 refine does_of_wc (n := 88) (L0 := [(0, zP b), (1, Value.agg [zI a_0, a_1].toArray)]) Tryd.func159 rfl rfl rfl rfl (fun w0 M Q hE => ?_)
 refine wc_seq (fun K0 hK => ?_)
 refine wc_region ?_
 refine WL.make (MV.box (cs := [zI a_0, a_1]) rfl rfl) rfl rfl rfl (fun b_1' => ?_)
 refine WL.make (MV.alloc tf_zero_79) rfl rfl rfl (fun b_2' => ?_)
 refine WL.nil ?_
 refine KX.go (hK [(0, zP b), (3, zP b_1'), (4, zP b_2')] _ ?_) ⟨rfl, rfl, rfl, trivial⟩
 refine wc_seq (fun K0_1' hK_1' => ?_)
 refine wc_region ?_
 refine wv (OV.move rfl) ?_
 refine wv (OV.nilCheck rfl) ?_
 refine wv (OV.fieldAddr0 rfl tf_field_76_1) ?_
 refine wv (OV.load rfl (At.own 2 rfl) rfl tf_scal_3) ?_
 refine wv (OV.assign rfl) ?_
 refine WL.nil ?_
 refine KX.go (hK_1' [(0, zP b), (3, zP b_1'), (4, zP b_2'), (5, zI s_1)] _ ?_) ⟨rfl, rfl, rfl, rfl, trivial⟩
 refine wc_seq (fun K0_2' hK_2' => ?_)
 refine wc_region ?_
 refine wv (OV.move rfl) ?_
 refine wv (OV.nilCheck rfl) ?_
 refine wv (OV.fieldAddr0 rfl tf_field_76_1) ?_
 refine wv (OV.load rfl (At.own 2 rfl) rfl tf_scal_3) ?_
 obtain ⟨o, h⟩ := h
 refine wv (OV.add rfl rfl o) ?_
 refine wv (OV.nilCheck rfl) ?_
 refine wv (OV.fieldAddr0 rfl tf_field_76_1) ?_
 refine WL.store (vs := [zI (s_1 + 1)]) (cs' := [st s_0, zI (s_1 + 1), s_2]) 2 rfl rfl rfl rfl tf_size_3 (Nat.le_of_ble_eq_true rfl) rfl rfl rfl ?_
 refine WL.nil ?_
 refine KX.go (hK_2' [(0, zP b), (3, zP b_1'), (4, zP b_2'), (5, zI s_1)] _ ?_) ⟨rfl, rfl, rfl, rfl, trivial⟩
 refine wc_seq (fun K0_3' hK_3' => ?_)
 refine wc_region ?_
 refine wv (OV.move rfl) ?_
 obtain ⟨o_1', h⟩ := h
 refine WL.pick (H' := [HA.blk b (.cells [st s_0, zI (s_1 + 1), s_2].toArray 76 (0, 0)), HA.blk b_2' (.cells [zI 0, Value.nilFunc].toArray 79 (0, 0)), HA.blk b_1' (.cells [zI a_0, a_1].toArray 79 (0, 0)), pool B]) [2, 0, 1, 3] rfl rfl ?_
 refine WL.callS tf_ent_167 rfl (number_does b s_0 (s_1 + 1) s_2 o_1') rfl trivial rfl rfl (fun r H' hS => ?_) (fun c H' hS => ?_)
 ·rcases hS with ⟨n, q, hc, ho⟩ | ⟨c, p, q_1', hc, ho⟩ <;> cases ho
  replace h := h.1 n q hc
  refine wv (OV.assign rfl) ?_
  refine WL.nil ?_
  refine KX.go (hK_3' [(0, zP b), (3, zP b_1'), (4, zP b_2'), (5, zI s_1), (6, zI n)] _ ?_) ⟨rfl, rfl, rfl, rfl, rfl, trivial⟩
  refine wc_seq (fun K0_4' hK_4' => ?_)
  refine wc_region ?_
  refine wv (OV.move rfl) ?_
  refine wv (OV.assign rfl) ?_
  refine WL.nil ?_
  refine KX.go (hK_4' [(0, zP b), (3, zP b_1'), (4, zP b_2'), (5, zI s_1), (6, zI n), (7, zI n)] _ ?_) ⟨rfl, rfl, rfl, rfl, rfl, rfl, trivial⟩
  obtain ⟨J0, hJ, h⟩ := h
  refine wc_seqJ (X := Int × Int) (fun σ => J0 σ.1 σ.2) (fun σ => [(0, zP b), (3, zP b_1'), (4, zP b_2'), (5, zI s_1), (6, zI n), (7, zI σ.1)]) (fun σ => [HA.blk b (.cells [st s_0, zI σ.2, s_2].toArray 76 (0, 0)), HA.blk b_2' (.cells [zI 0, Value.nilFunc].toArray 79 (0, 0)), HA.blk b_1' (.cells [zI a_0, a_1].toArray 79 (0, 0)), pool B]) ?_ (fun K0_11' hK_11' => ?_)
  ·rintro ⟨n_2', s_1_1'⟩ hj
   replace h := hJ n_2' s_1_1' hj
   show WC _ _ _ _ [(0, zP b), (3, zP b_1'), (4, zP b_2'), (5, zI s_1), (6, zI n), (7, zI n_2')] [HA.blk b (.cells [st s_0, zI s_1_1', s_2].toArray 76 (0, 0)), HA.blk b_2' (.cells [zI 0, Value.nilFunc].toArray 79 (0, 0)), HA.blk b_1' (.cells [zI a_0, a_1].toArray 79 (0, 0)), pool B]
   refine wc_seq (fun K0_12' hK_12' => ?_)
   refine wc_seq (fun K0_13' hK_13' => ?_)
   refine wc_region ?_
   refine wv (OV.move rfl) ?_
   refine WL.call (A := []) tf_ent_38 rfl (ended_does b s_0 s_1_1' s_2) rfl ⟨.inl ⟨0, rfl⟩, trivial⟩ rfl rfl ?_
   refine wv (OV.move rfl) ?_
   obtain ⟨o_9', h⟩ := h
   refine WL.cut 4 [(0, zP b), (3, zP b_1'), (4, zP b_2'), (5, zI s_1), (6, zI n), (7, zI n_2'), (52, zB ((decide ((s_0.length : Int) ≤ s_1_1')) || (!decide (nx s_0 s_1_1' = 125))))] ?_ (fun K0_14' hK_14' => ?_)
   rotate_left
   ·refine WL.split (decide ((s_0.length : Int) ≤ s_1_1')) (fun hb => ?_) (fun hb => ?_)
    ·refine WL.set 48 rfl (congrArg zB hb) ?_
     refine WL.skip rfl rfl rfl ?_
     refine WL.skip rfl rfl rfl ?_
     refine WL.skip rfl rfl rfl ?_
     refine wv (OV.pickT rfl rfl) ?_
     refine WL.set 52 rfl (oT (v := !decide (nx s_0 s_1_1' = 125)) hb) ?_
     exact WL.end_ (KX.go hK_14' ⟨rfl, rfl, rfl, rfl, rfl, rfl, rfl, trivial⟩)
    ·have o_8' := o_9' hb
     refine WL.set 48 rfl (congrArg zB hb) ?_
     refine wv (OV.move rfl) ?_
     refine WL.call (A := []) tf_ent_77 rfl (next_does b s_0 s_1_1' s_2 o_8') rfl ⟨.inl ⟨0, rfl⟩, trivial⟩ rfl rfl ?_
     refine wv (OV.neq rfl rfl) ?_
     refine wv (OV.pickF rfl rfl) ?_
     refine WL.set 52 rfl (oF (v := !decide (nx s_0 s_1_1' = 125)) hb) ?_
     exact WL.end_ (KX.go hK_14' ⟨rfl, rfl, rfl, rfl, rfl, rfl, rfl, trivial⟩)
   refine WL.nil ?_
   refine KX.go (hK_13' [(0, zP b), (3, zP b_1'), (4, zP b_2'), (5, zI s_1), (6, zI n), (7, zI n_2'), (52, zB ((decide ((s_0.length : Int) ≤ s_1_1')) || (!decide (nx s_0 s_1_1' = 125))))] _ ?_) ⟨rfl, rfl, rfl, rfl, rfl, rfl, rfl, trivial⟩
   refine wc_cond (b := (decide ((s_0.length : Int) ≤ s_1_1')) || (!decide (nx s_0 s_1_1' = 125))) rfl (fun hb => ?_) (fun hb => ?_)
   ·replace h := if_T h hb
    refine wc_region ?_
    refine wv (OV.move rfl) ?_
    refine wv (OV.move rfl) ?_
    refine wv (OV.nilCheck rfl) ?_
    refine wv (OV.fieldAddr0 rfl tf_field_76_1) ?_
    refine wv (OV.load rfl (At.own 0 rfl) rfl tf_scal_3) ?_
    refine WL.callS tf_ent_39 rfl (rfail_does (zP b) 20 s_1_1') rfl trivial rfl rfl (fun r H' hS => by cases hS) (fun c H' hS => ?_)
    cases hS
    exact hE.pan [0, 3] rfl rfl (.inr ⟨_, _, _, _, _, h, rfl⟩)
   ·replace h := if_F h hb
    refine wc_skip ?_
    refine KX.go (hK_12' [(0, zP b), (3, zP b_1'), (4, zP b_2'), (5, zI s_1), (6, zI n), (7, zI n_2')] _ ?_) ⟨rfl, rfl, rfl, rfl, rfl, rfl, trivial⟩
    refine wc_seq (fun K0_15' hK_15' => ?_)
    refine wc_region ?_
    refine wv (OV.move rfl) ?_
    refine wv (OV.nilCheck rfl) ?_
    refine wv (OV.fieldAddr0 rfl tf_field_76_1) ?_
    refine wv (OV.load rfl (At.own 0 rfl) rfl tf_scal_3) ?_
    obtain ⟨o_10', h⟩ := h
    refine wv (OV.add rfl rfl o_10') ?_
    refine wv (OV.nilCheck rfl) ?_
    refine wv (OV.fieldAddr0 rfl tf_field_76_1) ?_
    refine WL.store (vs := [zI (s_1_1' + 1)]) (cs' := [st s_0, zI (s_1_1' + 1), s_2]) 0 rfl rfl rfl rfl tf_size_3 (Nat.le_of_ble_eq_true rfl) rfl rfl rfl ?_
    refine WL.nil ?_
    refine KX.go (hK_15' [(0, zP b), (3, zP b_1'), (4, zP b_2'), (5, zI s_1), (6, zI n), (7, zI n_2')] _ ?_) ⟨rfl, rfl, rfl, rfl, rfl, rfl, trivial⟩
    refine wc_seq (fun K0_16' hK_16' => ?_)
    refine wc_seq (fun K0_17' hK_17' => ?_)
    refine wc_region ?_
    refine wv (OV.move rfl) ?_
    refine wv (OV.gtr rfl rfl) ?_
    refine wv (OV.move rfl) ?_
    refine WL.cut 3 [(0, zP b), (3, zP b_1'), (4, zP b_2'), (5, zI s_1), (6, zI n), (7, zI n_2'), (71, zB ((decide (255 < n)) || (decide (255 < n_2'))))] ?_ (fun K0_18' hK_18' => ?_)
    rotate_left
    ·refine WL.split (decide (255 < n)) (fun hb => ?_) (fun hb => ?_)
     ·refine WL.set 68 rfl (congrArg zB hb) ?_
      refine WL.skip rfl rfl rfl ?_
      refine WL.skip rfl rfl rfl ?_
      refine wv (OV.pickT rfl rfl) ?_
      refine WL.set 71 rfl (oT (v := decide (255 < n_2')) hb) ?_
      exact WL.end_ (KX.go hK_18' ⟨rfl, rfl, rfl, rfl, rfl, rfl, rfl, trivial⟩)
     ·refine WL.set 68 rfl (congrArg zB hb) ?_
      refine wv (OV.move rfl) ?_
      refine wv (OV.gtr rfl rfl) ?_
      refine wv (OV.pickF rfl rfl) ?_
      refine WL.set 71 rfl (oF (v := decide (255 < n_2')) hb) ?_
      exact WL.end_ (KX.go hK_18' ⟨rfl, rfl, rfl, rfl, rfl, rfl, rfl, trivial⟩)
    refine wv (OV.move rfl) ?_
    refine WL.cut 8 [(0, zP b), (3, zP b_1'), (4, zP b_2'), (5, zI s_1), (6, zI n), (7, zI n_2'), (80, zB (((decide (255 < n)) || (decide (255 < n_2'))) || ((decide (0 ≤ n_2')) && (decide (n_2' < n)))))] ?_ (fun K0_20' hK_20' => ?_)
    rotate_left
    ·refine WL.split ((decide (255 < n)) || (decide (255 < n_2'))) (fun hb => ?_) (fun hb => ?_)
     ·refine WL.set 72 rfl (congrArg zB hb) ?_
      refine WL.skip rfl rfl rfl ?_
      refine WL.skip rfl rfl rfl ?_
      refine WL.skip rfl rfl rfl ?_
      refine WL.skip rfl rfl rfl ?_
      refine WL.skip rfl rfl rfl ?_
      refine WL.skip rfl rfl rfl ?_
      refine WL.skip rfl rfl rfl ?_
      refine wv (OV.pickT rfl rfl) ?_
      refine WL.set 80 rfl (oT (v := (decide (0 ≤ n_2')) && (decide (n_2' < n))) hb) ?_
      exact WL.end_ (KX.go hK_20' ⟨rfl, rfl, rfl, rfl, rfl, rfl, rfl, trivial⟩)
     ·refine WL.set 72 rfl (congrArg zB hb) ?_
      refine wv (OV.move rfl) ?_
      refine wv (OV.geq rfl rfl) ?_
      refine wv (OV.move rfl) ?_
      refine WL.cut 4 [(0, zP b), (3, zP b_1'), (4, zP b_2'), (5, zI s_1), (6, zI n), (7, zI n_2'), (72, zB false), (79, zB ((decide (0 ≤ n_2')) && (decide (n_2' < n))))] ?_ (fun K0_19' hK_19' => ?_)
      rotate_left
      ·refine WL.split (decide (0 ≤ n_2')) (fun hb => ?_) (fun hb => ?_)
       ·refine WL.set 75 rfl (congrArg zB hb) ?_
        refine wv (OV.move rfl) ?_
        refine wv (OV.move rfl) ?_
        refine wv (OV.lss rfl rfl) ?_
        refine wv (OV.pickT rfl rfl) ?_
        refine WL.set 79 rfl (bT (v := decide (n_2' < n)) hb) ?_
        exact WL.end_ (KX.go hK_19' ⟨rfl, rfl, rfl, rfl, rfl, rfl, rfl, rfl, trivial⟩)
       ·refine WL.set 75 rfl (congrArg zB hb) ?_
        refine WL.skip rfl rfl rfl ?_
        refine WL.skip rfl rfl rfl ?_
        refine WL.skip rfl rfl rfl ?_
        refine wv (OV.pickF rfl rfl) ?_
        refine WL.set 79 rfl (bF (v := decide (n_2' < n)) hb) ?_
        exact WL.end_ (KX.go hK_19' ⟨rfl, rfl, rfl, rfl, rfl, rfl, rfl, rfl, trivial⟩)
      refine wv (OV.pickF rfl rfl) ?_
      refine WL.set 80 rfl (oF (v := (decide (0 ≤ n_2')) && (decide (n_2' < n))) hb) ?_
      exact WL.end_ (KX.go hK_20' ⟨rfl, rfl, rfl, rfl, rfl, rfl, rfl, trivial⟩)
    refine WL.nil ?_
    refine KX.go (hK_17' [(0, zP b), (3, zP b_1'), (4, zP b_2'), (5, zI s_1), (6, zI n), (7, zI n_2'), (80, zB (((decide (255 < n)) || (decide (255 < n_2'))) || ((decide (0 ≤ n_2')) && (decide (n_2' < n)))))] _ ?_) ⟨rfl, rfl, rfl, rfl, rfl, rfl, rfl, trivial⟩
    refine wc_cond (b := ((decide (255 < n)) || (decide (255 < n_2'))) || ((decide (0 ≤ n_2')) && (decide (n_2' < n)))) rfl (fun hb => ?_) (fun hb => ?_)
    ·replace h := if_T h hb
     refine wc_region ?_
     refine wv (OV.move rfl) ?_
     refine wv (OV.move rfl) ?_
     refine WL.callS tf_ent_39 rfl (rfail_does (zP b) 22 s_1) rfl trivial rfl rfl (fun r H' hS => by cases hS) (fun c H' hS => ?_)
     cases hS
     exact hE.pan [0, 3] rfl rfl (.inr ⟨_, _, _, _, _, h, rfl⟩)
    ·replace h := if_F h hb
     refine wc_skip ?_
     refine KX.go (hK_16' [(3, zP b_1'), (4, zP b_2'), (6, zI n), (7, zI n_2')] _ ?_) ⟨rfl, rfl, rfl, rfl, trivial⟩
     refine wc_seq (fun K0_21' hK_21' => ?_)
     refine wc_region ?_
     refine wv (OV.loadR rfl (At.own 2 rfl) tf_row_79) ?_
     refine wv (OV.move rfl) ?_
     refine wv (OV.move rfl) ?_
     obtain ⟨o_14', h⟩ := h
     refine WL.pick (H' := [pool B, HA.blk b (.cells [st s_0, zI (s_1_1' + 1), s_2].toArray 76 (0, 0)), HA.blk b_2' (.cells [zI 0, Value.nilFunc].toArray 79 (0, 0)), HA.blk b_1' (.cells [zI a_0, a_1].toArray 79 (0, 0))]) [3, 0, 1, 2] rfl rfl ?_
     refine WL.callS tf_ent_168 rfl (times_does a_0 a_1 n n_2' B o_14') rfl trivial rfl rfl (fun r H' hS => ?_) (fun c H' hS => ?_)
     ·obtain ⟨sz, u, B_1', hc, ho⟩ := hS
      cases ho
      replace h := h sz u B_1' hc
      obtain ⟨o_15', h⟩ := h
      refine WL.storeW (vs := [zI sz, u]) 2 rfl rfl rfl rfl rfl tf_size_79 rfl (one_cons rfl (one_cons o_15' one_nil)) rfl ?_
      refine WL.nil ?_
      refine KX.go (hK_21' [(4, zP b_2')] _ ?_) ⟨rfl, trivial⟩
      refine wc_ret ?_
      exact hE.ret [1, 0] rfl rfl (.inl ⟨_, _, _, _, _, _, h, rfl⟩) (ResV.of1 rfl (RV.row rfl (At.own 2 rfl) tf_row_79))
     ·obtain ⟨sz, u, B_1', hc, ho⟩ := hS
      cases ho
  ·skip
   refine wc_seq (fun K0_22' hK_22' => ?_)
   refine wc_region ?_
   refine wv (OV.move rfl) ?_
   refine WL.call (A := []) tf_ent_38 rfl (ended_does b s_0 q s_2) rfl ⟨.inl ⟨0, rfl⟩, trivial⟩ rfl rfl ?_
   refine wv (OV.not rfl) ?_
   refine wv (OV.move rfl) ?_
   obtain ⟨o_17', h⟩ := h
   refine WL.cut 4 [(0, zP b), (3, zP b_1'), (4, zP b_2'), (5, zI s_1), (6, zI n), (7, zI n), (29, zB ((!(decide ((s_0.length : Int) ≤ q))) && (decide (nx s_0 q = 44))))] ?_ (fun K0_23' hK_23' => ?_)
   rotate_left
   ·refine WL.split (!(decide ((s_0.length : Int) ≤ q))) (fun hb => ?_) (fun hb => ?_)
    ·have o_16' := o_17' hb
     refine WL.set 25 rfl (congrArg zB hb) ?_
     refine wv (OV.move rfl) ?_
     refine WL.call (A := []) tf_ent_77 rfl (next_does b s_0 q s_2 o_16') rfl ⟨.inl ⟨0, rfl⟩, trivial⟩ rfl rfl ?_
     refine wv (OV.eql rfl rfl) ?_
     refine wv (OV.pickT rfl rfl) ?_
     refine WL.set 29 rfl (bT (v := decide (nx s_0 q = 44)) hb) ?_
     exact WL.end_ (KX.go hK_23' ⟨rfl, rfl, rfl, rfl, rfl, rfl, rfl, trivial⟩)
    ·refine WL.set 25 rfl (congrArg zB hb) ?_
     refine WL.skip rfl rfl rfl ?_
     refine WL.skip rfl rfl rfl ?_
     refine WL.skip rfl rfl rfl ?_
     refine wv (OV.pickF rfl rfl) ?_
     refine WL.set 29 rfl (bF (v := decide (nx s_0 q = 44)) hb) ?_
     exact WL.end_ (KX.go hK_23' ⟨rfl, rfl, rfl, rfl, rfl, rfl, rfl, trivial⟩)
   refine WL.nil ?_
   refine KX.go (hK_22' [(0, zP b), (3, zP b_1'), (4, zP b_2'), (5, zI s_1), (6, zI n), (7, zI n), (29, zB ((!(decide ((s_0.length : Int) ≤ q))) && (decide (nx s_0 q = 44))))] _ ?_) ⟨rfl, rfl, rfl, rfl, rfl, rfl, rfl, trivial⟩
   refine wc_cond (b := (!(decide ((s_0.length : Int) ≤ q))) && (decide (nx s_0 q = 44))) rfl (fun hb => ?_) (fun hb => ?_)
   ·replace h := if_T h hb
    refine wc_seq (fun K0_24' hK_24' => ?_)
    refine wc_region ?_
    refine wv (OV.move rfl) ?_
    refine wv (OV.nilCheck rfl) ?_
    refine wv (OV.fieldAddr0 rfl tf_field_76_1) ?_
    refine wv (OV.load rfl (At.own 0 rfl) rfl tf_scal_3) ?_
    obtain ⟨o_18', h⟩ := h
    refine wv (OV.add rfl rfl o_18') ?_
    refine wv (OV.nilCheck rfl) ?_
    refine wv (OV.fieldAddr0 rfl tf_field_76_1) ?_
    refine WL.store (vs := [zI (q + 1)]) (cs' := [st s_0, zI (q + 1), s_2]) 0 rfl rfl rfl rfl tf_size_3 (Nat.le_of_ble_eq_true rfl) rfl rfl rfl ?_
    refine WL.nil ?_
    refine KX.go (hK_24' [(0, zP b), (3, zP b_1'), (4, zP b_2'), (5, zI s_1), (6, zI n)] _ ?_) ⟨rfl, rfl, rfl, rfl, rfl, trivial⟩
    refine wc_seq (fun K0_25' hK_25' => ?_)
    refine wc_region ?_
    refine wv (OV.assign rfl) ?_
    refine WL.nil ?_
    refine KX.go (hK_25' [(0, zP b), (3, zP b_1'), (4, zP b_2'), (5, zI s_1), (6, zI n), (7, zI (-1))] _ ?_) ⟨rfl, rfl, rfl, rfl, rfl, rfl, trivial⟩
    refine wc_seq (fun K0_26' hK_26' => ?_)
    refine wc_region ?_
    refine wv (OV.move rfl) ?_
    refine WL.call (A := []) tf_ent_38 rfl (ended_does b s_0 (q + 1) s_2) rfl ⟨.inl ⟨0, rfl⟩, trivial⟩ rfl rfl ?_
    refine wv (OV.move rfl) ?_
    obtain ⟨o_20', h⟩ := h
    refine WL.cut 4 [(0, zP b), (3, zP b_1'), (4, zP b_2'), (5, zI s_1), (6, zI n), (7, zI (-1)), (43, zB ((decide ((s_0.length : Int) ≤ q + 1)) || (!decide (nx s_0 (q + 1) = 125))))] ?_ (fun K0_27' hK_27' => ?_)
    rotate_left
    ·refine WL.split (decide ((s_0.length : Int) ≤ q + 1)) (fun hb => ?_) (fun hb => ?_)
     ·refine WL.set 39 rfl (congrArg zB hb) ?_
      refine WL.skip rfl rfl rfl ?_
      refine WL.skip rfl rfl rfl ?_
      refine WL.skip rfl rfl rfl ?_
      refine wv (OV.pickT rfl rfl) ?_
      refine WL.set 43 rfl (oT (v := !decide (nx s_0 (q + 1) = 125)) hb) ?_
      exact WL.end_ (KX.go hK_27' ⟨rfl, rfl, rfl, rfl, rfl, rfl, rfl, trivial⟩)
     ·have o_19' := o_20' hb
      refine WL.set 39 rfl (congrArg zB hb) ?_
      refine wv (OV.move rfl) ?_
      refine WL.call (A := []) tf_ent_77 rfl (next_does b s_0 (q + 1) s_2 o_19') rfl ⟨.inl ⟨0, rfl⟩, trivial⟩ rfl rfl ?_
      refine wv (OV.neq rfl rfl) ?_
      refine wv (OV.pickF rfl rfl) ?_
      refine WL.set 43 rfl (oF (v := !decide (nx s_0 (q + 1) = 125)) hb) ?_
      exact WL.end_ (KX.go hK_27' ⟨rfl, rfl, rfl, rfl, rfl, rfl, rfl, trivial⟩)
    refine WL.nil ?_
    refine KX.go (hK_26' [(0, zP b), (3, zP b_1'), (4, zP b_2'), (5, zI s_1), (6, zI n), (7, zI (-1)), (43, zB ((decide ((s_0.length : Int) ≤ q + 1)) || (!decide (nx s_0 (q + 1) = 125))))] _ ?_) ⟨rfl, rfl, rfl, rfl, rfl, rfl, rfl, trivial⟩
    refine wc_cond (b := (decide ((s_0.length : Int) ≤ q + 1)) || (!decide (nx s_0 (q + 1) = 125))) rfl (fun hb => ?_) (fun hb => ?_)
    ·replace h := if_T h hb
     refine wc_region ?_
     refine wv (OV.move rfl) ?_
     obtain ⟨o_21', h⟩ := h
     refine WL.callS tf_ent_167 rfl (number_does b s_0 (q + 1) s_2 o_21') rfl trivial rfl rfl (fun r H' hS => ?_) (fun c H' hS => ?_)
     ·rcases hS with ⟨n_3', q_4', hc, ho⟩ | ⟨c_2', p_2', q_5', hc, ho⟩ <;> cases ho
      replace h := h.1 n_3' q_4' hc
      refine wv (OV.assign rfl) ?_
      refine WL.nil ?_
      exact KX.goH (hK_11' (n_3', q_4') h) ⟨rfl, rfl, rfl, rfl, rfl, rfl, trivial⟩ [0, 1, 2, 3] rfl rfl
     ·rcases hS with ⟨n_3', q_4', hc, ho⟩ | ⟨c_2', p_2', q_5', hc, ho⟩ <;> cases ho
      replace h := h.2 c_2' p_2' q_5' hc
      exact hE.pan [0, 3] rfl rfl (.inr ⟨_, _, _, _, _, h, rfl⟩)
    ·replace h := if_F h hb
     refine wc_skip ?_
     exact KX.goH (hK_11' ((-1), q + 1) h) ⟨rfl, rfl, rfl, rfl, rfl, rfl, trivial⟩ [0, 1, 2, 3] rfl rfl
   ·replace h := if_F h hb
    refine wc_skip ?_
    exact KX.goH (hK_11' (n, q) h) ⟨rfl, rfl, rfl, rfl, rfl, rfl, trivial⟩ [0, 1, 2, 3] rfl rfl
 ·rcases hS with ⟨n, q, hc, ho⟩ | ⟨c, p, q_1', hc, ho⟩ <;> cases ho
  replace h := h.2 c p q_1' hc
  exact hE.pan [0, 3] rfl rfl (.inr ⟨_, _, _, _, _, h, rfl⟩)

theorem braces_does (b : Nat) (t : List UInt8) (i : Int) (w : Value) (sa : Int) (a : Value) (B : List (Nat × Obj)) (h : 0 ≤ i ∧ i < (t.length : Int) ∧ t.length ≤ 1048576 ∧ RuleB sa a) : Does Tryd.prog 159 [.pointer (some ⟨b, 0, none⟩), .agg [.int .i64 sa, a].toArray] [] [scB b t i w, pool B]
  (fun o => (∃ n u j B', BracesR t i B B' sa a j n u ∧ o = .ret (.agg [.int .i64 n, u].toArray) [scB b t j w, pool B']) ∨ (∃ c p q B', BracesE t i B sa a c p ∧ o = .pan [{ v := faultV c p, recovered := false }] [scB b t q w, pool B'])) := by
 obtain ⟨h0, h1, h2, hr⟩ := h
 refine (braces_wp b t i w sa a B (fun n u t' j w' D => t' = t ∧ w' = w ∧ BracesR t i B D sa a j n u) (fun v t' _ w' _ => t' = t ∧ w' = w ∧ ∃ c p, v = faultV c p ∧ BracesE t i B sa a c p) ?_).weak ?_
 ·unfold braces_vc
  refine ⟨by unfold I64; omega, ⟨by omega, by omega, h2⟩, ?_, fun c p q hm => ⟨rfl, rfl, c, p, rfl, fun x _ => by unfold bracesM; rw [hm]⟩⟩
  intro m q hm
  have hm1 := numM_ok hm (by omega) (by omega)
  have hj : ∀ n j, comB t m q = .ok (n, j) → -1 ≤ n ∧ q ≤ j ∧ j ≤ t.length := fun n j hc => by
   unfold comB at hc
   split at hc
   ·split at hc
    ·simp only [Except.ok.injEq, Prod.mk.injEq] at hc; omega
    ·have := numM_ok hc (by omega) (by omega); omega
   ·simp only [Except.ok.injEq, Prod.mk.injEq] at hc; omega
  refine ⟨fun n j => comB t m q = .ok (n, j), ?_, fun _ => by omega, ?_⟩
  ·intro n j hc
   have hj' := hj n j hc
   refine ⟨fun _ => by omega, ?_⟩
   by_cases hk : j < t.length ∧ nx t j = 125
   ·rw [if_neg (by simp; omega)]
    refine ⟨by unfold I64; omega, ?_⟩
    by_cases hz : m > 255 ∨ n > 255 ∨ (0 ≤ n ∧ n < m)
    ·rw [if_pos (by simp; omega)]
     exact ⟨rfl, rfl, 22, i, rfl, fun x _ => by simp only [bracesM, hm, hc, if_pos hk, if_pos hz]⟩
    ·rw [if_neg (by simp; omega)]
     refine ⟨⟨hr, by omega, by omega, by omega, by omega⟩, ?_⟩
     rintro k u B1 ⟨g1, g2, g3⟩
     exact ⟨g2.2, rfl, rfl, g1, g2, by omega, by omega, fun x hx => ⟨timesT x m n, by simp only [bracesM, hm, hc, if_pos hk, if_neg hz], g3 x hx⟩⟩
   ·rw [if_pos (by simp; omega)]
    exact ⟨rfl, rfl, 20, j, rfl, fun x _ => by simp only [bracesM, hm, hc, if_neg hk]⟩
  ·by_cases hk : q < t.length ∧ nx t q = 44
   ·rw [if_pos (by simp; omega)]
    refine ⟨by unfold I64; omega, fun _ => by omega, ?_⟩
    by_cases hz : q + 1 < t.length ∧ nx t (q + 1) = 125
    ·rw [if_neg (by simp; omega)]
     show comB t m q = _
     simp only [comB, if_pos hk, if_pos hz]
    ·rw [if_pos (by simp; omega)]
     refine ⟨⟨by omega, by omega, h2⟩, fun n j hn => ?_, fun c p q' hn => ?_⟩
     ·show comB t m q = _
      simp only [comB, if_pos hk, if_neg hz, hn]
     ·exact ⟨rfl, rfl, c, p, rfl, fun x _ => by simp only [bracesM, hm, comB, if_pos hk, if_neg hz, hn]⟩
   ·rw [if_neg (by simp; omega)]
    show comB t m q = _
    simp only [comB, if_neg hk]
 ·rintro o (⟨n, u, t', j, w', D, ⟨rfl, rfl, hm⟩, rfl⟩ | ⟨v, t', q, w', D, ⟨rfl, rfl, c, p, rfl, hm⟩, rfl⟩)
  ·exact .inl ⟨n, u, j, D, hm, rfl⟩
  ·exact .inr ⟨c, p, q, D, hm, rfl⟩

def repeats_vc (s_0 : List UInt8) (s_1 : Int) (s_2 : Value) (a_0 : Int) (a_1 : Value) (B : List (Nat × Obj)) (K : Int → Value → (List UInt8) → Int → Value → (List (Nat × Obj)) → Prop) (KP : Value → (List UInt8) → Int → Value → (List (Nat × Obj)) → Prop) : Prop :=
 ∃ (Inv : Int → Value → Int → (List (Nat × Obj)) → Prop) (mu : Int → Value → Int → (List (Nat × Obj)) → Nat),
  Inv a_0 a_1 s_1 B ∧ ∀ (a_0_4' : Int) (a_1_4' : Value) (s_1_2' : Int) (c_7' : List (Nat × Obj)), Inv a_0_4' a_1_4' s_1_2' c_7' →
   (if (!(decide ((s_0.length : Int) ≤ s_1_2'))) = true then
    ∃ (J0_2' : (List (Nat × Obj)) → Int → Value → Prop),
     (∀ (c_9' : List (Nat × Obj)) (a_0_5' : Int) (a_1_5' : Value), J0_2' c_9' a_0_5' a_1_5' →
      (I64 (s_1_2' + 1)) ∧
      Inv a_0_5' a_1_5' (s_1_2' + 1) c_9' ∧ mu a_0_5' a_1_5' (s_1_2' + 1) c_9' < mu a_0_4' a_1_4' s_1_2' c_7') ∧
     (0 ≤ s_1_2') ∧
     (if (decide (nx s_0 s_1_2' = 42)) = true then
      (SizeB a_0_4') ∧
      (∀ (sz_25' : Int) (u_25' : Value) (B_31' : List (Nat × Obj)), StarR c_7' B_31' a_0_4' a_1_4' sz_25' u_25' →
       (u_25'.oneCell' = true) ∧
       J0_2' B_31' sz_25' u_25')
     else
      (if (decide (nx s_0 s_1_2' = 43)) = true then
       (SizeB a_0_4') ∧
       (∀ (sz_26' : Int) (u_26' : Value) (B_32' : List (Nat × Obj)), StarR c_7' B_32' a_0_4' a_1_4' sz_26' u_26' →
        (SizeB a_0_4' ∧ SizeB sz_26') ∧
        (∀ (sz_27' : Int) (u_27' : Value) (B_33' : List (Nat × Obj)), JoinR Tr.cat B_32' B_33' a_0_4' a_1_4' sz_26' u_26' sz_27' u_27' →
         (u_27'.oneCell' = true) ∧
         J0_2' B_33' sz_27' u_27'))
      else
       (if (decide (nx s_0 s_1_2' = 63)) = true then
        (SizeB a_0_4') ∧
        (∀ (sz_28' : Int) (u_28' : Value) (B_34' : List (Nat × Obj)), MaybeR c_7' B_34' a_0_4' a_1_4' sz_28' u_28' →
         (u_28'.oneCell' = true) ∧
         J0_2' B_34' sz_28' u_28')
       else
        (if (decide (nx s_0 s_1_2' = 123)) = true then
         (0 ≤ s_1_2' ∧ s_1_2' < (s_0.length : Int) ∧ s_0.length ≤ 1048576 ∧ RuleB a_0_4' a_1_4') ∧
         (∀ (sz_29' : Int) (u_29' : Value) (j_5' : Int) (B_35' : List (Nat × Obj)), BracesR s_0 s_1_2' c_7' B_35' a_0_4' a_1_4' j_5' sz_29' u_29' →
          (u_29'.oneCell' = true) ∧
          Inv sz_29' u_29' j_5' B_35' ∧ mu sz_29' u_29' j_5' B_35' < mu a_0_4' a_1_4' s_1_2' c_7') ∧
         (∀ (c_10' : Int) (p_5' : Int) (q_5' : Int) (B_36' : List (Nat × Obj)), BracesE s_0 s_1_2' c_7' a_0_4' a_1_4' c_10' p_5' →
          KP (faultV c_10' p_5') s_0 q_5' s_2 B_36')
        else
         (a_1_4'.oneCell' = true) ∧
         K a_0_4' a_1_4' s_0 s_1_2' s_2 c_7'))))
   else
    (a_1_4'.oneCell' = true) ∧
    K a_0_4' a_1_4' s_0 s_1_2' s_2 c_7')
set_option maxRecDepth 100000 in
theorem repeats_wp (b : Nat) (s_0 : List UInt8) (s_1 : Int) (s_2 : Value) (a_0 : Int) (a_1 : Value) (B : List (Nat × Obj)) (K : Int → Value → (List UInt8) → Int → Value → (List (Nat × Obj)) → Prop) (KP : Value → (List UInt8) → Int → Value → (List (Nat × Obj)) → Prop) (h : repeats_vc s_0 s_1 s_2 a_0 a_1 B K KP) :
  Does Tryd.prog 145 [zP b, Value.agg [zI a_0, a_1].toArray] [] [HA.blk b (.cells [st s_0, zI s_1, s_2].toArray 76 (0, 0)), pool B] (fun o => (∃ (v_0 : Int) (v_1 : Value) (d_0 : List UInt8) (d_1 : Int) (d_2 : Value) (D : List (Nat × Obj)), K v_0 v_1 d_0 d_1 d_2 D ∧ o = .ret (Value.agg [zI v_0, v_1].toArray) [HA.blk b (.cells [st d_0, zI d_1, d_2].toArray 76 (0, 0)), pool D]) ∨ (∃ (pv : Value) (d_0 : List UInt8) (d_1 : Int) (d_2 : Value) (D : List (Nat × Obj)), KP pv d_0 d_1 d_2 D ∧ o = .pan [{ v := pv, recovered := false }] [HA.blk b (.cells [st d_0, zI d_1, d_2].toArray 76 (0, 0)), pool D])) := by
 unfold repeats_vc at h
 refine does_of_wc (n := 38) (L0 := [(0, zP b), (1, Value.agg [zI a_0, a_1].toArray)]) Tryd.func145 rfl rfl rfl rfl (fun w0 M Q hE => ?_)
 refine wc_seq (fun K0 hK => ?_)
 refine wc_region ?_
 refine WL.make (MV.box (cs := [zI a_0, a_1]) rfl rfl) rfl rfl rfl (fun b_1' => ?_)
 refine WL.make (MV.alloc tf_zero_79) rfl rfl rfl (fun b_2' => ?_)
 refine WL.nil ?_
 refine KX.go (hK [(0, zP b), (3, zP b_1'), (4, zP b_2')] _ ?_) ⟨rfl, rfl, rfl, trivial⟩
 refine wc_seq (fun K0_1' hK_1' => ?_)
 refine wc_block ?_
 obtain ⟨Inv, mu, h0, hr⟩ := h
 refine wc_loop (S := Int × Value × Int × (List (Nat × Obj))) (fun σ => Inv σ.1 σ.2.1 σ.2.2.1 σ.2.2.2) (fun σ => mu σ.1 σ.2.1 σ.2.2.1 σ.2.2.2) (fun σ => [(0, zP b), (3, zP b_1'), (4, zP b_2')]) (fun σ => [HA.blk b_2' (.cells [zI 0, Value.nilFunc].toArray 79 (0, 0)), HA.blk b_1' (.cells [zI σ.1, σ.2.1].toArray 79 (0, 0)), HA.blk b (.cells [st s_0, zI σ.2.2.1, s_2].toArray 76 (0, 0)), pool σ.2.2.2]) (a_0, a_1, s_1, B) h0 ⟨rfl, rfl, rfl, trivial⟩ rfl ?_
 rintro ⟨a_0_4', a_1_4', s_1_2', c_7'⟩ hi K0_36' hK_36'
 have h := hr a_0_4' a_1_4' s_1_2' c_7' hi
 show WC _ _ _ _ [(0, zP b), (3, zP b_1'), (4, zP b_2')] [HA.blk b_2' (.cells [zI 0, Value.nilFunc].toArray 79 (0, 0)), HA.blk b_1' (.cells [zI a_0_4', a_1_4'].toArray 79 (0, 0)), HA.blk b (.cells [st s_0, zI s_1_2', s_2].toArray 76 (0, 0)), pool c_7']
 refine wc_seq (fun K0_37' hK_37' => ?_)
 refine wc_seq (fun K0_38' hK_38' => ?_)
 refine wc_region ?_
 refine wv (OV.move rfl) ?_
 refine WL.call (A := []) tf_ent_38 rfl (ended_does b s_0 s_1_2' s_2) rfl ⟨.inl ⟨2, rfl⟩, trivial⟩ rfl rfl ?_
 refine wv (OV.not rfl) ?_
 refine WL.nil ?_
 refine KX.go (hK_38' [(0, zP b), (3, zP b_1'), (4, zP b_2'), (7, zB (!(decide ((s_0.length : Int) ≤ s_1_2'))))] _ ?_) ⟨rfl, rfl, rfl, rfl, trivial⟩
 refine wc_cond (b := !(decide ((s_0.length : Int) ≤ s_1_2'))) rfl (fun hb => ?_) (fun hb => ?_)
 ·replace h := if_T h hb
  refine wc_skip ?_
  refine KX.go (hK_37' [(0, zP b), (3, zP b_1'), (4, zP b_2')] _ ?_) ⟨rfl, rfl, rfl, trivial⟩
  refine wc_block ?_
  obtain ⟨J0_2', hJ_2', h⟩ := h
  refine wc_seqJ (X := (List (Nat × Obj)) × Int × Value) (fun σ => J0_2' σ.1 σ.2.1 σ.2.2) (fun σ => [(0, zP b), (3, zP b_1'), (4, zP b_2')]) (fun σ => [pool σ.1, HA.blk b_2' (.cells [zI 0, Value.nilFunc].toArray 79 (0, 0)), HA.blk b_1' (.cells [zI σ.2.1, σ.2.2].toArray 79 (0, 0)), HA.blk b (.cells [st s_0, zI s_1_2', s_2].toArray 76 (0, 0))]) ?_ (fun K0_46' hK_46' => ?_)
  ·rintro ⟨c_9', a_0_5', a_1_5'⟩ hj
   replace h := hJ_2' c_9' a_0_5' a_1_5' hj
   show WC _ _ _ _ [(0, zP b), (3, zP b_1'), (4, zP b_2')] [pool c_9', HA.blk b_2' (.cells [zI 0, Value.nilFunc].toArray 79 (0, 0)), HA.blk b_1' (.cells [zI a_0_5', a_1_5'].toArray 79 (0, 0)), HA.blk b (.cells [st s_0, zI s_1_2', s_2].toArray 76 (0, 0))]
   refine wc_region ?_
   refine wv (OV.move rfl) ?_
   refine wv (OV.nilCheck rfl) ?_
   refine wv (OV.fieldAddr0 rfl tf_field_76_1) ?_
   refine wv (OV.load rfl (At.own 3 rfl) rfl tf_scal_3) ?_
   obtain ⟨o_57', h⟩ := h
   refine wv (OV.add rfl rfl o_57') ?_
   refine wv (OV.nilCheck rfl) ?_
   refine wv (OV.fieldAddr0 rfl tf_field_76_1) ?_
   refine WL.store (vs := [zI (s_1_2' + 1)]) (cs' := [st s_0, zI (s_1_2' + 1), s_2]) 3 rfl rfl rfl rfl tf_size_3 (Nat.le_of_ble_eq_true rfl) rfl rfl rfl ?_
   refine WL.nil ?_
   exact KX.goH (hK_36' (a_0_5', a_1_5', s_1_2' + 1, c_9') h.1 h.2) ⟨rfl, rfl, rfl, trivial⟩ [1, 2, 3, 0] rfl rfl
  ·skip
   refine wc_seq (fun K0_47' hK_47' => ?_)
   refine wc_region ?_
   refine wv (OV.move rfl) ?_
   obtain ⟨o_58', h⟩ := h
   refine WL.call (A := []) tf_ent_77 rfl (next_does b s_0 s_1_2' s_2 o_58') rfl ⟨.inl ⟨2, rfl⟩, trivial⟩ rfl rfl ?_
   refine WL.nil ?_
   refine KX.go (hK_47' [(0, zP b), (3, zP b_1'), (4, zP b_2'), (9, zU (nx s_0 s_1_2'))] _ ?_) ⟨rfl, rfl, rfl, rfl, trivial⟩
   refine wc_block ?_
   refine wc_seq (fun K0_48' hK_48' => ?_)
   refine wc_region ?_
   refine wv (OV.eql rfl rfl) ?_
   refine wv (OV.assign rfl) ?_
   refine WL.nil ?_
   refine KX.go (hK_48' [(0, zP b), (3, zP b_1'), (4, zP b_2'), (9, zU (nx s_0 s_1_2')), (11, zB (decide (nx s_0 s_1_2' = 42)))] _ ?_) ⟨rfl, rfl, rfl, rfl, rfl, trivial⟩
   refine wc_cond (b := decide (nx s_0 s_1_2' = 42)) rfl (fun hb => ?_) (fun hb => ?_)
   ·replace h := if_T h hb
    refine wc_region ?_
    refine wv (OV.loadR rfl (At.own 1 rfl) tf_row_79) ?_
    obtain ⟨o_59', h⟩ := h
    refine WL.pick (H' := [pool c_7', HA.blk b_2' (.cells [zI 0, Value.nilFunc].toArray 79 (0, 0)), HA.blk b_1' (.cells [zI a_0_4', a_1_4'].toArray 79 (0, 0)), HA.blk b (.cells [st s_0, zI s_1_2', s_2].toArray 76 (0, 0))]) [3, 0, 1, 2] rfl rfl ?_
    refine WL.callS tf_ent_157 rfl (star_does a_0_4' a_1_4' c_7' o_59') rfl trivial rfl rfl (fun r H' hS => ?_) (fun c H' hS => ?_)
    ·obtain ⟨sz_25', u_25', B_31', hc, ho⟩ := hS
     cases ho
     replace h := h sz_25' u_25' B_31' hc
     obtain ⟨o_60', h⟩ := h
     refine WL.storeW (vs := [zI sz_25', u_25']) 2 rfl rfl rfl rfl rfl tf_size_79 rfl (one_cons rfl (one_cons o_60' one_nil)) rfl ?_
     refine WL.nil ?_
     exact KX.goH (hK_46' (B_31', sz_25', u_25') h) ⟨rfl, rfl, rfl, trivial⟩ [0, 1, 2, 3] rfl rfl
    ·obtain ⟨sz_25', u_25', B_31', hc, ho⟩ := hS
     cases ho
   ·replace h := if_F h hb
    refine wc_seq (fun K0_49' hK_49' => ?_)
    refine wc_region ?_
    refine wv (OV.eql rfl rfl) ?_
    refine wv (OV.assign rfl) ?_
    refine WL.nil ?_
    refine KX.go (hK_49' [(0, zP b), (3, zP b_1'), (4, zP b_2'), (9, zU (nx s_0 s_1_2')), (15, zB (decide (nx s_0 s_1_2' = 43)))] _ ?_) ⟨rfl, rfl, rfl, rfl, rfl, trivial⟩
    refine wc_cond (b := decide (nx s_0 s_1_2' = 43)) rfl (fun hb => ?_) (fun hb => ?_)
    ·replace h := if_T h hb
     refine wc_drawC 2 [0, 1, 2] [HA.blk b_2' (.cells [zI 0, Value.nilFunc].toArray 79 (0, 0)), HA.blk b_1' (.cells [zI a_0_4', a_1_4'].toArray 79 (0, 0)), HA.blk b (.cells [st s_0, zI s_1_2', s_2].toArray 76 (0, 0))] rfl rfl tf_mixed (by kernel_rfl) (fun T_5' hT_5' => ?_)
     refine TW.val (OV.loadR rfl (At.own 1 rfl) tf_row_79) rfl rfl rfl ?_
     refine TW.val (OV.loadR rfl (At.own 1 rfl) tf_row_79) rfl rfl rfl ?_
     refine TW.nil (hT_5' _ ?_)
     obtain ⟨o_61', h⟩ := h
     refine WLX.pick (H' := [pool c_7', HA.blk b_2' (.cells [zI 0, Value.nilFunc].toArray 79 (0, 0)), HA.blk b_1' (.cells [zI a_0_4', a_1_4'].toArray 79 (0, 0)), HA.blk b (.cells [st s_0, zI s_1_2', s_2].toArray 76 (0, 0))]) [3, 0, 1, 2] rfl rfl ?_
     refine WLX.callS [0, 1, 2] rfl (EN.fn tf_ent_157 rfl) rfl (star_does a_0_4' a_1_4' c_7' o_61') rfl rfl trivial rfl rfl (fun r H' hS => ?_) (fun c H' hS => ?_)
     ·obtain ⟨sz_26', u_26', B_32', hc, ho⟩ := hS
      cases ho
      replace h := h sz_26' u_26' B_32' hc
      obtain ⟨o_62', h⟩ := h
      refine WLX.callS [0, 1, 2] rfl (EN.fn tf_ent_78 rfl) rfl (join_does Tr.cat_op a_0_4' a_1_4' sz_26' u_26' B_32' o_62') rfl rfl trivial rfl rfl (fun r H' hS => ?_) (fun c H' hS => ?_)
      ·obtain ⟨sz_27', u_27', B_33', hc, ho⟩ := hS
       cases ho
       replace h := h sz_27' u_27' B_33' hc
       obtain ⟨o_63', h⟩ := h
       refine WLX.opZ (OpK.storeW (vs := [zI sz_27', u_27']) 2 rfl rfl rfl rfl rfl tf_size_79 rfl (one_cons rfl (one_cons o_63' one_nil))) rfl ?_
       refine WLX.nil ?_
       exact KX.goH (hK_46' (B_33', sz_27', u_27') h) ⟨rfl, rfl, rfl, trivial⟩ [0, 1, 2, 3] rfl rfl
      ·obtain ⟨sz_27', u_27', B_33', hc, ho⟩ := hS
       cases ho
     ·obtain ⟨sz_26', u_26', B_32', hc, ho⟩ := hS
      cases ho
    ·replace h := if_F h hb
     refine wc_seq (fun K0_50' hK_50' => ?_)
     refine wc_region ?_
     refine wv (OV.eql rfl rfl) ?_
     refine wv (OV.assign rfl) ?_
     refine WL.nil ?_
     refine KX.go (hK_50' [(0, zP b), (3, zP b_1'), (4, zP b_2'), (9, zU (nx s_0 s_1_2')), (21, zB (decide (nx s_0 s_1_2' = 63)))] _ ?_) ⟨rfl, rfl, rfl, rfl, rfl, trivial⟩
     refine wc_cond (b := decide (nx s_0 s_1_2' = 63)) rfl (fun hb => ?_) (fun hb => ?_)
     ·replace h := if_T h hb
      refine wc_region ?_
      refine wv (OV.loadR rfl (At.own 1 rfl) tf_row_79) ?_
      obtain ⟨o_64', h⟩ := h
      refine WL.pick (H' := [pool c_7', HA.blk b_2' (.cells [zI 0, Value.nilFunc].toArray 79 (0, 0)), HA.blk b_1' (.cells [zI a_0_4', a_1_4'].toArray 79 (0, 0)), HA.blk b (.cells [st s_0, zI s_1_2', s_2].toArray 76 (0, 0))]) [3, 0, 1, 2] rfl rfl ?_
      refine WL.callS tf_ent_158 rfl (maybe_does a_0_4' a_1_4' c_7' o_64') rfl trivial rfl rfl (fun r H' hS => ?_) (fun c H' hS => ?_)
      ·obtain ⟨sz_28', u_28', B_34', hc, ho⟩ := hS
       cases ho
       replace h := h sz_28' u_28' B_34' hc
       obtain ⟨o_65', h⟩ := h
       refine WL.storeW (vs := [zI sz_28', u_28']) 2 rfl rfl rfl rfl rfl tf_size_79 rfl (one_cons rfl (one_cons o_65' one_nil)) rfl ?_
       refine WL.nil ?_
       exact KX.goH (hK_46' (B_34', sz_28', u_28') h) ⟨rfl, rfl, rfl, trivial⟩ [0, 1, 2, 3] rfl rfl
      ·obtain ⟨sz_28', u_28', B_34', hc, ho⟩ := hS
       cases ho
     ·replace h := if_F h hb
      refine wc_seq (fun K0_51' hK_51' => ?_)
      refine wc_region ?_
      refine wv (OV.eql rfl rfl) ?_
      refine wv (OV.assign rfl) ?_
      refine WL.nil ?_
      refine KX.go (hK_51' [(0, zP b), (3, zP b_1'), (4, zP b_2'), (25, zB (decide (nx s_0 s_1_2' = 123)))] _ ?_) ⟨rfl, rfl, rfl, rfl, trivial⟩
      refine wc_cond (b := decide (nx s_0 s_1_2' = 123)) rfl (fun hb => ?_) (fun hb => ?_)
      ·replace h := if_T h hb
       refine wc_seq (fun K0_52' hK_52' => ?_)
       refine wc_region ?_
       refine wv (OV.move rfl) ?_
       refine wv (OV.loadR rfl (At.own 1 rfl) tf_row_79) ?_
       obtain ⟨o_66', h⟩ := h
       refine WL.pick (H' := [HA.blk b (.cells [st s_0, zI s_1_2', s_2].toArray 76 (0, 0)), pool c_7', HA.blk b_2' (.cells [zI 0, Value.nilFunc].toArray 79 (0, 0)), HA.blk b_1' (.cells [zI a_0_4', a_1_4'].toArray 79 (0, 0))]) [2, 3, 0, 1] rfl rfl ?_
       refine WL.callS tf_ent_159 rfl (braces_does b s_0 s_1_2' s_2 a_0_4' a_1_4' c_7' o_66') rfl trivial rfl rfl (fun r H' hS => ?_) (fun c H' hS => ?_)
       ·rcases hS with ⟨sz_29', u_29', j_5', B_35', hc, ho⟩ | ⟨c_10', p_5', q_5', B_36', hc, ho⟩ <;> cases ho
        replace h := h.1 sz_29' u_29' j_5' B_35' hc
        obtain ⟨o_67', h⟩ := h
        refine WL.storeW (vs := [zI sz_29', u_29']) 3 rfl rfl rfl rfl rfl tf_size_79 rfl (one_cons rfl (one_cons o_67' one_nil)) rfl ?_
        refine WL.nil ?_
        refine KX.go (hK_52' [(0, zP b), (3, zP b_1'), (4, zP b_2')] _ ?_) ⟨rfl, rfl, rfl, trivial⟩
        refine wc_exit ?_
        exact KX.goH (hK_36' (sz_29', u_29', j_5', B_35') h.1 h.2) ⟨rfl, rfl, rfl, trivial⟩ [2, 3, 0, 1] rfl rfl
       ·rcases hS with ⟨sz_29', u_29', j_5', B_35', hc, ho⟩ | ⟨c_10', p_5', q_5', B_36', hc, ho⟩ <;> cases ho
        replace h := h.2 c_10' p_5' q_5' B_36' hc
        exact hE.pan [0, 1] rfl rfl (.inr ⟨_, _, _, _, _, h, rfl⟩)
      ·replace h := if_F h hb
       refine wc_seq (fun K0_53' hK_53' => ?_)
       refine wc_region ?_
       refine wv (OV.loadR rfl (At.own 1 rfl) tf_row_79) ?_
       obtain ⟨o_68', h⟩ := h
       refine WL.storeW (vs := [zI a_0_4', a_1_4']) 0 rfl rfl rfl rfl rfl tf_size_79 rfl (one_cons rfl (one_cons o_68' one_nil)) rfl ?_
       refine WL.nil ?_
       refine KX.go (hK_53' [(4, zP b_2')] _ ?_) ⟨rfl, trivial⟩
       refine wc_ret ?_
       exact hE.ret [2, 3] rfl rfl (.inl ⟨_, _, _, _, _, _, h, rfl⟩) (ResV.of1 rfl (RV.row rfl (At.own 0 rfl) tf_row_79))
 ·replace h := if_F h hb
  refine wc_exit ?_
  refine KX.go (hK_1' [(3, zP b_1'), (4, zP b_2')] _ ?_) ⟨rfl, rfl, trivial⟩
  refine wc_seq (fun K0_54' hK_54' => ?_)
  refine wc_region ?_
  refine wv (OV.loadR rfl (At.own 1 rfl) tf_row_79) ?_
  obtain ⟨o_69', h⟩ := h
  refine WL.storeW (vs := [zI a_0_4', a_1_4']) 0 rfl rfl rfl rfl rfl tf_size_79 rfl (one_cons rfl (one_cons o_69' one_nil)) rfl ?_
  refine WL.nil ?_
  refine KX.go (hK_54' [(4, zP b_2')] _ ?_) ⟨rfl, trivial⟩
  refine wc_ret ?_
  exact hE.ret [2, 3] rfl rfl (.inl ⟨_, _, _, _, _, _, h, rfl⟩) (ResV.of1 rfl (RV.row rfl (At.own 0 rfl) tf_row_79))

theorem repeats_does (b : Nat) (t : List UInt8) (i : Int) (w : Value) (sa : Int) (a : Value) (B : List (Nat × Obj)) (h : 0 ≤ i ∧ i ≤ (t.length : Int) ∧ t.length ≤ 1048576 ∧ RuleB sa a) : Does Tryd.prog 145 [.pointer (some ⟨b, 0, none⟩), .agg [.int .i64 sa, a].toArray] [] [scB b t i w, pool B]
  (fun o => (∃ n u j B', RepR t i B B' sa a j n u ∧ o = .ret (.agg [.int .i64 n, u].toArray) [scB b t j w, pool B']) ∨ (∃ c p q B', RepE t i B sa a c p ∧ o = .pan [{ v := faultV c p, recovered := false }] [scB b t q w, pool B'])) := by
 obtain ⟨h0, h1, h2, hr⟩ := h
 refine (repeats_wp b t i w sa a B (fun n u t' j w' D => t' = t ∧ w' = w ∧ RepR t i B D sa a j n u) (fun v t' _ w' _ => t' = t ∧ w' = w ∧ ∃ c p, v = faultV c p ∧ RepE t i B sa a c p) ?_).weak ?_
 ·refine ⟨fun n u j c => Sups B c ∧ RuleB n u ∧ i ≤ j ∧ j ≤ t.length ∧ ∀ x, Is B sa a x → ∃ y, Is c n u y ∧ ∀ r, RP t y j r → RP t x i r, fun _ _ j _ => (t.length - j).toNat, ⟨Sups.refl B, hr, by omega, by omega, fun x hx => ⟨x, hx, fun _ h => h⟩⟩, ?_⟩
  rintro n u j c ⟨i1, i2, i3, i4, i5⟩
  by_cases hl : (t.length : Int) ≤ j
  ·rw [if_neg (by simpa using hl)]
   exact ⟨i2.2, rfl, rfl, i1, i2, i3, i4, fun x hx => by obtain ⟨y, y1, y2⟩ := i5 x hx; exact ⟨y, y2 _ (.zero (by omega)), y1⟩⟩
  rw [if_pos (by simpa using hl)]
  refine ⟨fun c' n' u' => Sups B c' ∧ RuleB n' u' ∧ ∀ x, Is B sa a x → ∃ y, Is c' n' u' y ∧ ∀ r, RP t y (j + 1) r → RP t x i r, ?_, by omega, ?_⟩
  ·rintro c' n' u' ⟨j1, j2, j3⟩
   exact ⟨by unfold I64; omega, ⟨j1, j2, by omega, by omega, j3⟩, by show (t.length - (j + 1)).toNat < (t.length - j).toNat; omega⟩
  by_cases c1 : nx t j = 42
  ·rw [if_pos (by simpa using c1)]
   refine ⟨i2.1, ?_⟩
   rintro k v B1 ⟨g1, g2, g3⟩
   refine ⟨g2.2, i1.trans g1, g2, fun x hx => ?_⟩
   obtain ⟨y, y1, y2⟩ := i5 x hx
   exact ⟨_, g3 y y1, fun r hq => y2 _ (.one (by omega) (.inl c1) (by rw [postT, if_pos c1]; exact hq))⟩
  rw [if_neg (by simpa using c1)]
  by_cases c2 : nx t j = 43
  ·rw [if_pos (by simpa using c2)]
   refine ⟨i2.1, ?_⟩
   rintro k v B1 ⟨g1, g2, g3⟩
   refine ⟨⟨i2.1, g2.1⟩, ?_⟩
   rintro k2 v2 B2 ⟨e1, e2, e3⟩
   refine ⟨e2.2, (i1.trans g1).trans e1, e2, fun x hx => ?_⟩
   obtain ⟨y, y1, y2⟩ := i5 x hx
   exact ⟨_, e3 y _ (y1.more g1) (g3 y y1), fun r hq => y2 _ (.one (by omega) (.inr (.inl c2)) (by rw [postT, if_neg c1, if_pos c2]; exact hq))⟩
  rw [if_neg (by simpa using c2)]
  by_cases c3 : nx t j = 63
  ·rw [if_pos (by simpa using c3)]
   refine ⟨i2.1, ?_⟩
   rintro k v B1 ⟨g1, g2, g3⟩
   refine ⟨g2.2, i1.trans g1, g2, fun x hx => ?_⟩
   obtain ⟨y, y1, y2⟩ := i5 x hx
   exact ⟨_, g3 y y1, fun r hq => y2 _ (.one (by omega) (.inr (.inr c3)) (by rw [postT, if_neg c1, if_neg c2]; exact hq))⟩
  rw [if_neg (by simpa using c3)]
  by_cases c4 : nx t j = 123
  ·rw [if_pos (by simpa using c4)]
   refine ⟨⟨by omega, by omega, h2, i2⟩, ?_, ?_⟩
   ·rintro k v q B1 ⟨g1, g2, g3, g4, g5⟩
    refine ⟨g2.2, ⟨i1.trans g1, g2, by omega, g4, fun x hx => ?_⟩, by show (t.length - q).toNat < (t.length - j).toNat; omega⟩
    obtain ⟨y, y1, y2⟩ := i5 x hx
    obtain ⟨z, z1, z2⟩ := g5 y y1
    exact ⟨z, z2, fun r hq => y2 _ (.brace (by omega) c4 z1 hq)⟩
   ·intro cc p q B1 hE
    refine ⟨rfl, rfl, cc, p, rfl, fun x hx => ?_⟩
    obtain ⟨y, y1, y2⟩ := i5 x hx
    exact y2 _ (.braceE (by omega) c4 (hE y y1))
  ·rw [if_neg (by simpa using c4)]
   exact ⟨i2.2, rfl, rfl, i1, i2, i3, i4, fun x hx => by obtain ⟨y, y1, y2⟩ := i5 x hx; exact ⟨y, y2 _ (.zero (by omega)), y1⟩⟩
 ·rintro o (⟨n, u, t', j, w', D, ⟨rfl, rfl, hm⟩, rfl⟩ | ⟨v, t', q, w', D, ⟨rfl, rfl, c, p, rfl, hm⟩, rfl⟩)
  ·exact .inl ⟨n, u, j, D, hm, rfl⟩
  ·exact .inr ⟨c, p, q, D, hm, rfl⟩

end Go.Proofs.YtohnchdnkbadaaaDoor
