/-
  Tokens as plain data, what the scanner's small functions compute.
-/
import Derived.Test.YtlfolgbaageknaaDoorGws
import Derived.Test.YtlfolgbaageknaaDoorShelf
namespace Go.Proofs.YtlfolgbaageknaaDoor
open Go Go.RowKit

theorem byte_cell {c : Int} (h : 0 ≤ c ∧ c < 256) : [Value.int .u8 c] = [c.toNat.toUInt8].flatMap byteC := by
  rw [List.flatMap_singleton]
  show _ = [Value.int .u8 _]
  rw [u8back h]
abbrev Tok := Int × Int × List UInt8
def tokC (x : Tok) : List Value := [.int .i64 x.1, .int .i64 x.2.1, st x.2.2]
theorem tokC_len (x : Tok) : (tokC x).length = 3 := rfl
def letterB (c : Int) : Bool := (decide (c = 95) || (decide (97 ≤ c) && decide (c ≤ 122))) || (decide (65 ≤ c) && decide (c ≤ 90))
def digitB (c : Int) : Bool := decide (48 ≤ c) && decide (c ≤ 57)
def printB (c : Int) : Bool := decide (32 ≤ c) && decide (c ≤ 126)
/-- A byte of a text, as a number. -/
def bt (t : List UInt8) (i : Int) : Int := ((t.getD i.toNat 0).toNat : Int)
theorem bt_bd (t : List UInt8) (i : Int) : 0 ≤ bt t i ∧ bt t i < 256 := by
  have := (t.getD i.toNat 0).toNat_lt
  unfold bt; omega
def marksL : List UInt8 := [61, 59, 40, 41, 123, 125, 44, 124, 38, 45, 46, 126, 42, 43, 63]
theorem indexByte_does (l : List UInt8) (c : Int) : Does Tryd.prog 19 [st l, .int .u8 c] [] [] (Ret (.int .i64 (Lib.indexByte l c.toNat.toUInt8)) []) :=
  Does.ofPure fun w => (Tryd.strings_IndexByte ⟨l.toArray⟩ c w).mono fun _ _ ⟨h1, h2⟩ => by subst h2; exact ⟨h1, Below.refl _ _⟩
theorem hasPrefix_does (l p : List UInt8) : Does Tryd.prog 28 [st l, st p] [] [] (Ret (.bool (Lib.hasPrefix l p)) []) :=
  Does.ofPure fun w => (Tryd.strings_HasPrefix ⟨l.toArray⟩ ⟨p.toArray⟩ w).mono fun _ _ ⟨h1, h2⟩ => by subst h2; exact ⟨h1, Below.refl _ _⟩
theorem indexByte_nonneg (l : List UInt8) (c : UInt8) : (0 ≤ Lib.indexByte l c) ↔ l.contains c = true := by
  induction l with
  | nil => simp [Lib.indexByte]
  | cons b l ih =>
    have hge := Lib.indexByte_ge l c
    rw [List.contains_cons]
    simp only [Lib.indexByte]
    by_cases h : b = c
    · subst h; simp
    · have h1 : ¬ (b == c) = true := by simpa using h
      have h2 : (c == b) = false := by simpa using fun e : c = b => h e.symm
      rw [if_neg h1, h2, Bool.false_or, ← ih]
      by_cases h3 : Lib.indexByte l c = -1
      · simp [h3]
      · have h4 : ¬ (Lib.indexByte l c == -1) = true := by simpa using h3
        rw [if_neg h4]
        omega
def refHex (c : Int) : Int := if 48 ≤ c ∧ c ≤ 57 then c - 48 else if 97 ≤ c ∧ c ≤ 102 then c - 87 else -1
theorem refHex_bd {c : Int} : -1 ≤ refHex c ∧ refHex c ≤ 15 := by unfold refHex; split <;> (try split) <;> omega
theorem nat_of {x : Int} (h : 0 ≤ x ∧ x < 256) : ∃ n : Nat, n < 256 ∧ x = (n : Int) := ⟨x.toNat, by omega, by omega⟩
theorem idx_hex (c : Int) (h : 0 ≤ c ∧ c < 256) : Lib.indexByte [48, 49, 50, 51, 52, 53, 54, 55, 56, 57, 97, 98, 99, 100, 101, 102] c.toNat.toUInt8 = refHex c := by
  obtain ⟨n, hn, rfl⟩ := nat_of h
  simp only [Int.toNat_natCast]
  revert n; decide +kernel

/-- How many bytes of blanks and comments stand ahead. -/
def gapL : Bool → List UInt8 → Nat
  | _, [] => 0
  | cm, c :: r =>
    let cm' := (cm || c == 35) && c != 10
    if cm' || c == 32 || c == 9 || c == 10 || c == 13 then 1 + gapL cm' r else 0
theorem gapL_le : ∀ (cm : Bool) (l : List UInt8), gapL cm l ≤ l.length
  | _, [] => Nat.le_refl _
  | cm, c :: r => by
    unfold gapL
    have := gapL_le ((cm || c == 35) && c != 10) r
    simp only [List.length_cons]
    split <;> omega
def gapM (t : List UInt8) (a : Int) : Int := a + gapL false (t.drop a.toNat)
/-- What stands behind a stroke: the byte, whether it may stand there, the place of the last byte looked at. -/
def escM (t : List UInt8) (a : Int) : Int × Bool × Int :=
  if (t.length : Int) ≤ a + 1 then (0, false, a + 1)
  else
    let c := bt t (a + 1)
    if c = 110 then (10, true, a + 1)
    else if c = 114 then (13, true, a + 1)
    else if c = 116 then (9, true, a + 1)
    else if c = 34 ∨ c = 92 then (c, true, a + 1)
    else if c = 120 then
      if (t.length : Int) ≤ a + 2 then (0, false, a + 2)
      else if refHex (bt t (a + 2)) < 0 then (0, false, a + 2)
      else if (t.length : Int) ≤ a + 3 then (0, false, a + 3)
      else if refHex (bt t (a + 3)) < 0 then (0, false, a + 3)
      else (16 * refHex (bt t (a + 2)) + refHex (bt t (a + 3)), true, a + 3)
    else (0, false, a + 1)
def quotedF (t : List UInt8) (fr : Int) : Nat → List UInt8 → Int → Except (Int × Int) (List UInt8 × Int)
  | 0, _, _ => .error (51, fr)
  | n + 1, out, k =>
    if k < t.length then
      if bt t k = 34 then .ok (out, k + 1)
      else if printB (bt t k) = false then .error (50, k)
      else if bt t k ≠ 92 then quotedF t fr n (out ++ [(bt t k).toNat.toUInt8]) (k + 1)
      else if (t.length : Int) ≤ (escM t k).2.2 then .error (51, fr)
      else if (escM t k).2.1 = false then .error (50, (escM t k).2.2)
      else quotedF t fr n (out ++ [(escM t k).1.toNat.toUInt8]) ((escM t k).2.2 + 1)
    else .error (51, fr)
def quotedM (t : List UInt8) (a : Int) : Except (Int × Int) (Tok × Int) := match quotedF t a (t.length + 1) [] (a + 1) with
  | .ok (x, q) => .ok ((2, a, x), q)
  | .error e => .error e
/-- The bytes from a place to another. -/
def cut (t : List UInt8) (i j : Int) : List UInt8 := (t.drop i.toNat).take (j.toNat - i.toNat)
def regexF (t : List UInt8) (fr : Int) : Nat → Int → Except (Int × Int) (List UInt8 × Int)
  | 0, _ => .error (52, fr)
  | n + 1, k =>
    if k < t.length then
      if bt t k = 92 ∧ k + 1 < t.length then
        if printB (bt t (k + 1)) = false then .error (50, k + 1) else regexF t fr n (k + 2)
      else if printB (bt t k) = false then .error (50, k)
      else if bt t k = 47 then .ok (cut t (fr + 1) k, k + 1)
      else regexF t fr n (k + 1)
    else .error (52, fr)
def regexM (t : List UInt8) (a : Int) : Except (Int × Int) (Tok × Int) := match regexF t a (t.length + 1) (a + 1) with
  | .ok (x, q) => .ok ((3, a, x), q)
  | .error e => .error e
def nameL : List UInt8 → Nat
  | [] => 0
  | c :: r => if letterB (c.toNat : Int) || digitB (c.toNat : Int) then 1 + nameL r else 0
theorem nameL_le : ∀ l : List UInt8, nameL l ≤ l.length
  | [] => Nat.le_refl _
  | c :: r => by
    unfold nameL
    have := nameL_le r
    simp only [List.length_cons]
    split <;> omega
def oneM (t : List UInt8) (a : Int) : Except (Int × Int) (Tok × Int) :=
  if letterB (bt t a) = true then
    if (nameL (t.drop a.toNat) : Int) > 32 then .error (1, a) else .ok ((1, a, cut t a (a + nameL (t.drop a.toNat))), a + nameL (t.drop a.toNat))
  else if bt t a = 34 then quotedM t a
  else if bt t a = 47 then regexM t a
  else if marksL.contains (bt t a).toNat.toUInt8 = true then .ok ((4, a, cut t a (a + 1)), a + 1)
  else if a + 1 < t.length ∧ bt t a = 62 ∧ bt t (a + 1) = 62 then .ok ((4, a, [62, 62]), a + 2)
  else .error (50, a)
/-- What taking a token leaves. -/
def Took (m : Except (Int × Int) (Tok × Int)) (_ : List UInt8) (l : List Tok) (fc fa : Int) (ft : List UInt8) (ok : Bool) (q : Int) (l' : List Tok) (c x : Int) (y : List UInt8) : Prop := match m with
  | .ok (k, q0) => ok = true ∧ q = q0 ∧ l' = l ++ [k] ∧ c = fc ∧ x = fa ∧ y = ft
  | .error (e, p) => ok = false ∧ l' = l ∧ c = e ∧ x = p ∧ y = []
def scanF (t : List UInt8) : Nat → List Tok → Int → Except (Int × Int) (List Tok)
  | 0, _, _ => .error (0, 0)
  | n + 1, l, a => if a < t.length then match oneM t a with
      | .ok (k, q) => scanF t n (l ++ [k]) (gapM t q)
      | .error e => .error e
    else .ok (l ++ [((0, (t.length : Int), []) : Tok)])
/-- Tokens, number and place of the fault. -/
def scanR (t : List UInt8) : List Tok × Int × Int := if 4096 < t.length then ([], 1, 0) else match scanF t (t.length + 1) [] (gapM t 0) with
  | .ok l => (l, 0, 0)
  | .error (e, p) => ([], e, p)
end Go.Proofs.YtlfolgbaageknaaDoor
