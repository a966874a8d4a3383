/-
  Merged: Flow, Set, Row, Class, Class2, Lift, Pop, Count, Shelf, Text, Esc, FlowA, Gw, Gwo, Gwm.
-/
import Derived.StillTail
import Derived.Below
import Derived.WalkKit
import Derived.Laws.Bits64b
import Derived.Laws.BitsAllLaws
import Derived.Laws.CopyRow
import Derived.Laws.CopyOwn
import Derived.ChangeKeysEq
import Derived.Deep.WholeRow
import Derived.Test.YtohnchdnkbadaaaDoorChecked
import Derived.WalkSpells
import Derived.WalkLawsBesides
import Derived.Lib.Hide
import Derived.ProofKit
import Derived.SizedLaws
import Derived.Laws.IdiomArrays
import Derived.Lib.SmallJoins
import Derived.Shelf.Strings.Builder1
import Derived.Shelf.Small.Strs
import Derived.Shelf.Strings.BuilderF
import Derived.Shelf.Strings.BuilderK
import Derived.Shelf.Strings.Search1
import Derived.Shelf.Strings.Search2
import Derived.Shelf.Strings.Search3
import Derived.Shelf.LaysM
import Derived.Shelf.Strings.Shaped
import Derived.Shelf.Strings.Prefix
import Derived.Shelf.Strings.BuilderCap
import Derived.Test.YtohnchdnkbadaaaDoorProg
import Derived.Test.YtohnchdnkbadaaaDoorRows
import Derived.ChangeSame
import Derived.ChangeVars
import Derived.JoinedOf
import Derived.RowKit
import Derived.Deep.MidRow
import Derived.Laws.IdiomStrings
namespace Go.Proofs.YtohnchdnkbadaaaDoor
open Go Go.RowKit
section
variable {P : Program} {ops : Array Oper} {md : Region.Mode} {S : World → Prop}
def ao7 (P : Program) (S : World → Prop) (v : Value) : Result Next → Prop
 | .ok (.value u) w' => u = v ∧ S w'
 | .ok .skip w' => undef = v ∧ S w'
 | .ok (.enter f args) w' => Calls P f args w' fun e w'' => e = .returned v ∧ S w''
 | _ => False
def aar (P : Program) (ops : Array Oper) (S : World → Prop) (o : Oper) (v : Value) (a : Act) : Prop :=
 (Region.wanted o (yielded ops a.tmps) = true ∧ ∀ w, S w → ao7 P S v ((execOp a.eval o).run P w)) ∨
 (Region.wanted o (yielded ops a.tmps) = false ∧ v = undef)
theorem aar.of_same {o : Oper} {v : Value} {a a' : Act} (hy : aar P ops S o v a) (he : execOp a'.eval o = execOp a.eval o)
  (hw : Region.wanted o (yielded ops a'.tmps) = Region.wanted o (yielded ops a.tmps)) : aar P ops S o v a' := by
 unfold aar at *; rw [he, hw]; exact hy
def flOp (P : Program) (ops : Array Oper) (S : World → Prop) (i : Nat) (K : Act → Prop) (a : Act) : Prop :=
 match ops[i]? with
 | none => K a
 | some o => ∃ v, aar P ops S o v a ∧ K (a.put o.dst v)
theorem avl {i : Nat} {a : Act} {K K' : Act → Prop} (h : ∀ a, K a → K' a) (hh : flOp P ops S i K a) : flOp P ops S i K' a := by
 unfold flOp at *
 split
 ·exact h _ (by simpa [*] using hh)
 ·rename_i o ho
  simp only [ho] at hh
  obtain ⟨v, hy, hk⟩ := hh
  exact ⟨v, hy, h _ hk⟩
theorem aar.flOp {i : Nat} {o : Oper} {v : Value} {a : Act} (hi : ops[i]? = some o) (hy : aar P ops S o v a) {K : Act → Prop} (h : K (a.put o.dst v)) : flOp P ops S i K a := by
 unfold YtohnchdnkbadaaaDoor.flOp; simp only [hi]; exact ⟨v, hy, h⟩
theorem aw5 {j : Nat} {oi oj : Oper} {v : Value} (hj : ops[j]? = some oj) (hap : oi.apart ops oj = true)
  (hsi : ∀ cs b, oi.op ≠ .select cs b) (hsj : ∀ cs b, oj.op ≠ .select cs b) {K : Act → Prop} {a : Act}
  (hy : aar P ops S oi v a) (h : flOp P ops S j K (a.put oi.dst v)) :
  flOp P ops S j (fun a' => aar P ops S oi v a' ∧ K (a'.put oi.dst v)) a := by
 obtain ⟨h1, h2, h3⟩ := Oper.apart_spec hap
 unfold flOp at *
 simp only [hj] at *
 obtain ⟨u, hu, hk⟩ := h
 refine ⟨u, hu.of_same (execOp_put oj hsj a oi.dst v h1).symm (wanted_put oj a oi.dst v h1).symm, ?_, ?_⟩
 ·exact hy.of_same (execOp_put oi hsi a oj.dst u h3) (wanted_put oi a oj.dst u h3)
 ·rw [← Act.put_comm a v u h2]; exact hk
theorem an8 {i : Nat} {a : Act} {w : World} {K : Act → Prop} {K' : Act → World → Prop} {Q' : Exit → Act → World → Prop} (hS : S w) (h : ∀ a w, S w → K a → K' a w) (hh : flOp P ops S i K a) : wpOp P ops Q' i K' a w := by
 unfold flOp at hh
 unfold wpOp
 split
 ·rename_i ho; simp only [ho] at hh; exact h _ _ hS hh
 ·rename_i o ho
  simp only [ho] at hh
  obtain ⟨v, hv, hk⟩ := hh
  rcases hv with ⟨hw, hg⟩ | ⟨hw, rfl⟩
  ·simp only [hw, if_true]
   refine .inl ?_
   unfold Oper.wp
   have hg' := hg w hS
   generalize (execOp a.eval o).run P w = r at hg' ⊢
   cases r with
   | ok n w' =>
    cases n <;> simp only [ao7] at hg' <;> simp only [Oper.upon]
    case enter f args => exact hg'.mono fun e w'' ⟨he, hs⟩ => by subst he; exact h _ _ hs hk
    all_goals (obtain ⟨rfl, hs⟩ := hg'; exact h _ _ hs hk)
   | halt x w' => simp only [ao7] at hg'
  ·simp only [hw, Bool.false_eq_true, if_false]
   exact h _ _ hS hk
def ag2 (P : Program) (ops : Array Oper) (S : World → Prop) (Q : Act → Prop) : List Oper → Act → Prop
 | [], a => Q a
 | o :: rest, a => ∃ v, aar P ops S o v a ∧ ag2 P ops S Q rest (a.put o.dst v)
def akj (P : Program) (md : Region.Mode) (ops : Array Oper) (S : World → Prop) (n : Nat) (L : Array Bool → Act → Prop) : Nat → Array Bool → Act → Prop
 | 0, listed, a => L listed a
 | f + 1, listed, a =>
  Region.ready md ops listed ≠ [] ∧ ∀ i ∈ Region.ready md ops listed, i < n ∧ flOp P ops S i (akj P md ops S n L f (listed.setIfInBounds i true)) a
theorem ad4 {n g : Nat} {L : Array Bool → Act → Prop} {Q' : Exit → Act → World → Prop} (hL : ∀ listed a w, S w → L listed a → wpAny P md ops Q' g listed a w) :
  ∀ (f : Nat) (listed : Array Bool) (a : Act) (w : World), S w → akj P md ops S n L f listed a → wpAny P md ops Q' (f + g) listed a w
 | 0, listed, a, w, hS, h => by rw [Nat.zero_add]; exact hL _ _ _ hS h
 | f + 1, listed, a, w, hS, h => by
  rw [show f + 1 + g = (f + g) + 1 by omega]
  exact ⟨fun h0 => absurd h0 h.1, fun i hi => an8 hS (fun a' w' hS' h' => ad4 hL f _ a' w' hS' h') (h.2 i hi).2⟩
structure HeadRule (md : Region.Mode) (ops : Array Oper) (n : Nat) (Inv : Array Bool → Prop) : Prop where
 step : ∀ listed i, Inv listed → i ∈ Region.ready md ops listed → i < n → Inv (listed.setIfInBounds i true)
 first : ∀ listed i, Inv listed → i < n → listed.getD i true = false → ∀ j ∈ Region.ready md ops listed, j < n
theorem anu {n i : Nat} {oi : Oper} {v : Value} {L : Array Bool → Act → Prop} {Inv : Array Bool → Prop} (hi : ops[i]? = some oi) (hsel : ∀ (j : Nat) (o : Oper) cs b, ops[j]? = some o → o.op ≠ .select cs b)
  (hr : HeadRule md ops n Inv) (hin : i < n) (hdone : ∀ listed a, L listed a → ∀ j ∈ Region.ready md ops listed, n ≤ j) :
  ∀ (f : Nat) (listed : Array Bool) (a : Act), Inv listed →
   (∀ j oj, ops[j]? = some oj → j ≠ i → listed.getD j true = false → (∀ e ∈ oj.after, Region.binds md e = true → e.on ≠ i) → oi.apart ops oj = true) →
   i ∈ Region.ready md ops listed → aar P ops S oi v a →
   akj P md ops S n L f (listed.setIfInBounds i true) (a.put oi.dst v) → akj P md ops S n L (f + 1) listed a := by
 intro f
 induction f with
 | zero =>
  intro listed a inv _ hri hy H
  refine ⟨fun h => (by rw [h] at hri; cases hri), fun j hj => ?_⟩
  have hjn := hr.first listed i inv hin (mem_ready.1 hri).1 j hj
  refine ⟨hjn, ?_⟩
  by_cases hji : j = i
  ·subst hji; exact hy.flOp hi H
  ·have := hdone _ _ H j (ready_mono hj hji)
   omega
 | succ f ih =>
  intro listed a inv hfree hri hy H
  refine ⟨fun h => (by rw [h] at hri; cases hri), fun j hj => ?_⟩
  have hjn := hr.first listed i inv hin (mem_ready.1 hri).1 j hj
  refine ⟨hjn, ?_⟩
  by_cases hji : j = i
  ·subst hji; exact hy.flOp hi H
  ·have h1 := (H.2 j (ready_mono hj hji)).2
   obtain ⟨hjun, oj, hoj, hall⟩ := mem_ready.1 hj
   have hnot : ∀ e ∈ oj.after, Region.binds md e = true → e.on ≠ i := fun e he hb heq => by
    have h1 := hall e he hb
    rw [heq, getD_both (mem_ready.1 hri).1] at h1
    cases h1
   have h2 := aw5 hoj (hfree j oj hoj hji hjun hnot) (fun cs b => hsel i oi cs b hi) (fun cs b => hsel j oj cs b hoj) hy h1
   refine avl (fun a' h3 => ih (listed.setIfInBounds j true) a' (hr.step _ _ inv hj hjn) ?_ (ready_mono hri (Ne.symm hji)) h3.1 ?_) h2
   ·intro k ok hk hki hun hno
    refine hfree k ok hk hki ?_ hno
    by_cases hjk : j = k
    ·subst hjk; exact hjun
    ·rw [getD_set_ne true hjk] at hun; exact hun
   ·rw [Array.setIfInBounds_comm _ _ hji]
    exact h3.2
theorem agw {n g : Nat} {L : Array Bool → Act → Prop} {Lq : Act → Prop} {Inv : Array Bool → Prop} (hsel : Region.noSelect ops = true) (hr : HeadRule md ops n Inv)
  (hdone : ∀ listed a, L listed a → ∀ j ∈ Region.ready md ops listed, n ≤ j)
  (hend : ∀ listed a, Region.seqB md ops g n listed = true → Lq a → L listed a) :
  ∀ (l : List Oper) (k : Nat) (listed : Array Bool) (a : Act), (∀ j, j < l.length → l[j]? = ops[k + j]?) → k + l.length = n → Inv listed →
  Region.lexHead md ops g l.length k listed = true → ag2 P ops S Lq l a → akj P md ops S n L l.length listed a
 | [], k, listed, a, _, hk, _, hB, h => by
  have : k = n := by simpa using hk
  subst this
  exact hend _ _ (by simpa [Region.lexHead] using hB) h
 | o :: l, k, listed, a, hl, hk, inv, hB, h => by
  have h0 : ops[k]? = some o := by simpa using (hl 0 (by simp)).symm
  simp only [List.length_cons, Region.lexHead, Bool.and_eq_true] at hB
  obtain ⟨⟨hrd, hf⟩, hB'⟩ := hB
  have hkn : k < n := by simp only [List.length_cons] at hk; omega
  have hr' : k ∈ Region.ready md ops listed := by simpa using hrd
  obtain ⟨v, hy, hK⟩ := h
  exact anu h0 (Region.noSelect_spec hsel) hr hkn hdone l.length listed a inv (Region.free_spec h0 hf) hr' hy
   (agw hsel hr hdone hend l (k + 1) _ _ (fun j hj => by have := hl (j + 1) (by simp; omega); simpa [Nat.add_assoc, Nat.add_comm 1 j] using this) (by simp only [List.length_cons] at hk; omega) (hr.step _ _ inv hr' hkn) hB' hK)
def ai9 (ops : Array Oper) : Bool := Region.noSelect ops && Region.lexHead .any ops 0 ops.size 0 (Array.replicate ops.size false)
theorem ale {id : Nat} {Q : Exit → Act → World → Prop} {a : Act} {w : World} {l : List Oper} (S : World → Prop) (hm : P.follows .mixedOrders = true) (hB : ai9 l.toArray = true)
  (hS : S w.drew) (h : ag2 P l.toArray S (fun a' => ∀ w', S w' → Q .normal a' w') l a) : (Code.region id l.toArray true).wp P Q a w := by
 simp only [ai9, Bool.and_eq_true] at hB
 refine wp_region_any hm ?_
 have H := agw (md := .any) (n := l.toArray.size) (g := 0) (L := fun listed a' => Region.ready .any l.toArray listed = [] ∧ ∀ w', S w' → Q .normal a' w') (Inv := fun _ => True) hB.1
  ⟨fun _ _ _ _ _ => trivial, fun listed i _ _ _ j hj => by obtain ⟨_, o, ho, _⟩ := mem_ready.1 hj; exact (Array.getElem?_eq_some_iff.1 ho).1⟩
  (fun listed a' hL j hj => by rw [hL.1] at hj; cases hj)
  (fun listed a' hs hq => ⟨by simpa [Region.seqB] using hs, hq⟩)
  l 0 (Array.replicate l.toArray.size false) a (fun j hj => by simp) (by simp) trivial (by simpa using hB.2) h
 have := ad4 (Q' := Q) (g := 0) (fun listed a' w' hS' hL => ⟨hL.1, hL.2 w' hS'⟩) _ _ _ _ hS H
 simpa using this
theorem abr {id : Nat} {Q : Exit → Act → World → Prop} {a : Act} {w : World} {l : List Oper} (S : World → Prop) (n : Nat) (hm : P.follows .mixedOrders = true) (hB : Region.lexTailB .any l.toArray n = true)
  (hS : S w.drew) (h : ag2 P l.toArray S (fun a' => ∀ w', S w' → wpList P l.toArray Q (l.drop n) a' w') (l.take n) a) : (Code.region id l.toArray true).wp P Q a w := by
 simp only [Region.lexTailB, Bool.and_eq_true, decide_eq_true_eq] at hB
 obtain ⟨⟨⟨⟨hsel, hn⟩, hs⟩, hc⟩, hlex⟩ := hB
 have hn' : n < l.length := by simpa using hn
 have htl : (l.take n).length = n := by simp; omega
 have hdl : (l.drop n).length = l.toArray.size - n := by simp
 have inv0 : HeadInv .any l.toArray n (Array.replicate l.toArray.size false) :=
  ⟨by simp, fun j oj _ hl => (by rw [getD_replicate_false] at hl; cases hl), fun t _ ht => getD_in (by simpa using ht) (getD_replicate_false _ _)⟩
 have H := agw (md := .any) (n := n) (g := l.toArray.size - n) (L := fun listed' a' => Region.seqB .any l.toArray (l.toArray.size - n) n listed' = true ∧ ∀ w', S w' → wpList P l.toArray Q (l.drop n) a' w')
  (Inv := HeadInv .any l.toArray n) hsel
  ⟨fun _ _ inv hi hin => inv.set hi hin, fun listed i inv hin hun j hj => by
   rcases Nat.lt_or_ge j n with h | h
   ·exact h
   ·exact absurd hj (tail_waits hs hc hn inv _ i rfl hin hun j h)⟩
  (fun listed' a' hL => seqB_ready hL.1) (fun listed a' hs hq => ⟨hs, hq⟩)
  (l.take n) 0 _ a (fun j hj => by
   have hj' : j < n := by rw [htl] at hj; exact hj
   simp [hj']) (by simpa using htl) inv0 (by rw [htl]; exact hlex) h
 refine wp_region_any hm ?_
 have := ad4 (Q' := Q) (g := l.toArray.size - n) (fun listed a' w' hS' hL => by
  have := wpAny_of_seq (md := .any) (Q' := Q) (l.drop n) n listed a' w' (fun j => by simp [List.getElem?_drop]) (by rw [hdl]; exact hL.1) (hL.2 w' hS')
  rwa [hdl] at this) _ _ _ _ hS H
 rw [htl, show n + (l.toArray.size - n) = l.toArray.size by omega] at this
 exact this
theorem aev {Q : Act → Prop} {a : Act} (h : Q a) : ag2 P ops S Q [] a := h
theorem ad0 {Q : Act → Prop} {a : Act} {o : Oper} {rest : List Oper} (v : Value) (hw : Region.wanted o (yielded ops a.tmps) = true)
  (hv : ∀ w, S w → ao7 P S v ((execOp a.eval o).run P w)) (h : ag2 P ops S Q rest (a.put o.dst v)) : ag2 P ops S Q (o :: rest) a := ⟨v, .inl ⟨hw, hv⟩, h⟩
theorem ad1 {v : Value} {w : World} (h : S w) : ao7 P S v (.ok (.value v) w) := ⟨rfl, h⟩
end
def aek (P : Program) (f : FuncId) (args : Array Value) (v : Value) : Prop := ∀ w, Calls P f args w fun e w' => e = .returned v ∧ Below w.heap.size w w'
theorem aek.below {P : Program} {f : FuncId} {args : Array Value} {v : Value} (h : aek P f args v) {B : Nat} {w0 w : World} (hb : Below B w0 w) (hB : B ≤ w0.heap.size) : Calls P f args w fun e w'' => e = .returned v ∧ Below B w0 w'' :=
 (h w).mono fun _ _ ⟨he, hw⟩ => ⟨he, hb.trans (hw.mono (Nat.le_trans hB hb.size))⟩
end Go.Proofs.YtohnchdnkbadaaaDoor
namespace Go.Proofs.YtohnchdnkbadaaaDoor
open Go Go.RowKit
abbrev CS := BitVec 256
def wdN (s : CS) (k : Nat) : Nat := (s.extractLsb' (64 * k) 64).toNat
def wd (s : CS) (k : Nat) : Int := (wdN s k : Int)
set_option maxRecDepth 100000 in
theorem ae5 (s : CS) (k : Nat) : wdN s k < 18446744073709551616 := by
 unfold wdN; exact (s.extractLsb' (64 * k) 64).isLt
set_option maxRecDepth 100000 in
theorem af4 (s : CS) (k i : Nat) : (wdN s k).testBit i = (decide (i < 64) && s.getLsbD (64 * k + i)) := by
 unfold wdN; rw [BitVec.testBit_toNat, BitVec.getLsbD_extractLsb']
set_option maxRecDepth 100000 in
theorem ajm {x : Nat} {s : CS} {k : Nat} (hx : x < 18446744073709551616) (h : ∀ i, i < 64 → x.testBit i = s.getLsbD (64 * k + i)) : x = wdN s k := by
 apply Nat.eq_of_testBit_eq
 intro i
 rw [af4]
 by_cases hi : i < 64
 ·simp [hi, h i hi]
 ·have : x.testBit i = false := Nat.testBit_lt_two_pow (Nat.lt_of_lt_of_le hx (by
   have := Nat.pow_le_pow_right (n := 2) (by omega) (show 64 ≤ i by omega)
   simpa using this))
  simp [hi, this]
set_option maxRecDepth 100000 in
theorem ahs {s t : CS} (h : ∀ i, i < 256 → s.getLsbD i = t.getLsbD i) : s = t := BitVec.eq_of_getLsbD_eq h
def o3 (s : CS) : Array Value := #[.int .u64 (wd s 0), .int .u64 (wd s 1), .int .u64 (wd s 2), .int .u64 (wd s 3)]
set_option maxRecDepth 100000 in
theorem aby (s : CS) : (o3 s).size = 4 := rfl
set_option maxRecDepth 100000 in
theorem aka (s t : CS) : (o3 s).size = (o3 t).size := by rw [aby, aby]
set_option maxRecDepth 100000 in
theorem x4 (s : CS) (i : Nat) (h : i < 4) : (o3 s)[i]? = some (.int .u64 (wd s i)) := by
 match i, h with
 | 0, _ => rfl
 | 1, _ => rfl
 | 2, _ => rfl
 | 3, _ => rfl
def mkN (f : Nat → Bool) : Nat → CS
 | 0 => 0
 | n + 1 => mkN f n ||| (if f n then BitVec.twoPow 256 n else 0)
def mkS (f : Nat → Bool) : CS := mkN f 256
set_option maxRecDepth 100000 in
theorem axr (f : Nat → Bool) (n i : Nat) : (mkN f n).getLsbD i = (decide (i < n) && decide (i < 256) && f i) := by
 induction n with
 | zero => simp [mkN]
 | succ n ih =>
  simp only [mkN, BitVec.getLsbD_or, ih]
  by_cases hfn : f n = true
  ·simp only [hfn, if_true, BitVec.getLsbD_twoPow]
   by_cases hin : i = n
   ·subst hin
    by_cases h256 : i < 256
    ·simp [h256, hfn]
    ·simp [h256]
   ·have h1 : (i < n + 1) ↔ (i < n) := by omega
    have h2 : ¬ n = i := fun h => hin h.symm
    simp [h1, h2]
  ·simp only [hfn]
   by_cases hin : i = n
   ·subst hin
    simp [hfn]
   ·have h1 : (i < n + 1) ↔ (i < n) := by omega
    simp [h1]
set_option maxRecDepth 100000 in
theorem abg (f : Nat → Bool) (i : Nat) (h : i < 256) : (mkS f).getLsbD i = f i := by
 rw [mkS, axr]; simp [h]
set_option maxRecDepth 100000 in
theorem ave {f g : Nat → Bool} (h : ∀ i, i < 256 → f i = g i) : mkS f = mkS g := ahs fun i hi => by rw [abg f i hi, abg g i hi, h i hi]
set_option maxRecDepth 100000 in
theorem azd (s t : CS) (k : Nat) : wdN s k ||| wdN t k = wdN (s ||| t) k := by
 unfold wdN; rw [BitVec.extractLsb'_or, BitVec.toNat_or]
set_option maxRecDepth 100000 in
theorem azi (s t : CS) (k : Nat) : bits .or .u64 (wd s k) (wd t k) = wd (s ||| t) k := by
 unfold wd; rw [bits_or_u64_nat _ _ (ae5 s k) (ae5 t k), azd]
set_option maxRecDepth 100000 in
theorem ayk : IntKind.u64.max = ((18446744073709551615 : Nat) : Int) := by decide
set_option maxRecDepth 100000 in
theorem axy (s : CS) (k : Nat) (hk : k < 4) : 18446744073709551615 ^^^ wdN s k = wdN (~~~ s) k := by
 refine ajm (Nat.xor_lt_two_pow (n := 64) (by omega) (ae5 s k)) fun i hi => ?_
 rw [Nat.testBit_xor, af4, BitVec.getLsbD_not, show (18446744073709551615 : Nat) = 2 ^ 64 - 1 from by decide, Nat.testBit_two_pow_sub_one]
 have : 64 * k + i < 256 := by omega
 simp [hi, this]
set_option maxRecDepth 100000 in
theorem an1 (s : CS) (k : Nat) (hk : k < 4) : bits .xor .u64 IntKind.u64.max (wd s k) = wd (~~~ s) k := by
 unfold wd; rw [ayk, bits_xor_u64_nat _ _ (by omega) (ae5 s k), axy s k hk]
set_option maxRecDepth 100000 in
theorem aym (x : Nat) (hx : x < 18446744073709551616) : bits .and .u64 (x : Int) 1 = ((x % 2 : Nat) : Int) := by
 rw [show (1 : Int) = ((1 : Nat) : Int) from rfl, bits_and_u64_nat _ _ hx (by omega), Nat.and_one_is_mod]
set_option maxRecDepth 100000 in
theorem ax0 (s : CS) (k j : Nat) (hj : j < 64) : wdN s k / 2 ^ j % 2 = if s.getLsbD (64 * k + j) then 1 else 0 := by
 have h := af4 s k j
 rw [Nat.testBit_eq_decide_div_mod_eq] at h
 simp only [hj, decide_true, Bool.true_and] at h
 cases hb : s.getLsbD (64 * k + j)
 ·rw [hb] at h; simp at h; simp; omega
 ·rw [hb] at h; simp at h; simp [h]
set_option maxRecDepth 100000 in
theorem ayz (s : CS) (b : Int) (h0 : 0 ≤ b) (h1 : b < 256) : (bits .and .u64 (wd s (b / 64).toNat / 2 ^ (b % 64).toNat) 1 == 1) = s.getLsbD b.toNat := by
 obtain ⟨n, rfl⟩ := Int.eq_ofNat_of_zero_le h0
 have e1 : ((n : Int) / 64).toNat = n / 64 := by omega
 have e2 : ((n : Int) % 64).toNat = n % 64 := by omega
 rw [e1, e2]
 have e3 : wd s (n / 64) / 2 ^ (n % 64) = ((wdN s (n / 64) / 2 ^ (n % 64) : Nat) : Int) := by unfold wd; push_cast; rfl
 rw [e3, aym _ (Nat.lt_of_le_of_lt (Nat.div_le_self _ _) (ae5 s _)), ax0 s _ _ (Nat.mod_lt _ (by omega)), Nat.div_add_mod]
 rw [Int.toNat_natCast]
 cases s.getLsbD n <;> rfl
set_option maxRecDepth 100000 in
theorem at7 (k : Nat) (hk : k < 9223372036854775808) : bits .and .i64 (k : Int) 63 = ((k % 64 : Nat) : Int) := by
 have h1 : (BitVec.ofInt 64 (k : Int)).toNat = k := by rw [BitVec.ofInt_natCast]; simp; omega
 have h2 : (BitVec.ofInt 64 (63 : Int)).toNat = 63 := by decide
 show IntKind.i64.wrap ((BitVec.ofInt 64 (k : Int) &&& BitVec.ofInt 64 (63 : Int)).toNat : Int) = _
 rw [BitVec.toNat_and, h1, h2, show (63 : Nat) = 2 ^ 6 - 1 from rfl, Nat.and_two_pow_sub_one_eq_mod]
 have : k % 64 < 64 := Nat.mod_lt _ (by omega)
 exact IntWalk.i64_in _ ⟨by omega, by omega⟩
set_option maxRecDepth 100000 in
theorem axm (s t : CS) : #[Value.int .u64 (bits .or .u64 (wd s 0) (wd t 0)), .int .u64 (bits .or .u64 (wd s 1) (wd t 1)), .int .u64 (bits .or .u64 (wd s 2) (wd t 2)), .int .u64 (bits .or .u64 (wd s 3) (wd t 3))] = o3 (s ||| t) := by
 simp only [azi, o3]
set_option maxRecDepth 100000 in
theorem aue (s : CS) : #[Value.int .u64 (bits .xor .u64 IntKind.u64.max (wd s 0)), .int .u64 (bits .xor .u64 IntKind.u64.max (wd s 1)), .int .u64 (bits .xor .u64 IntKind.u64.max (wd s 2)), .int .u64 (bits .xor .u64 IntKind.u64.max (wd s 3))] = o3 (~~~ s) := by
 rw [an1 s 0 (by omega), an1 s 1 (by omega), an1 s 2 (by omega), an1 s 3 (by omega)]; rfl
def ans (s : CS) (n : Nat) : CS := s ||| BitVec.twoPow 256 n
set_option maxRecDepth 100000 in
theorem ah0 (s : CS) (n i : Nat) (hn : n < 256) : (ans s n).getLsbD i = (s.getLsbD i || decide (n = i)) := by
 simp [ans, BitVec.getLsbD_twoPow, hn]
set_option maxRecDepth 100000 in
theorem axv (s : CS) (n : Nat) (hn : n < 256) : wdN s (n / 64) ||| 2 ^ (n % 64) = wdN (ans s n) (n / 64) := by
 refine ajm ?_ fun i hi => ?_
 ·exact Nat.or_lt_two_pow (n := 64) (ae5 s _) (Nat.pow_lt_pow_right (by omega) (Nat.mod_lt _ (by omega)))
 ·rw [Nat.testBit_or, af4, ah0 _ _ _ hn, Nat.testBit_two_pow]
  have e : (n % 64 = i) ↔ (n = 64 * (n / 64) + i) := by omega
  simp only [hi, decide_true, Bool.true_and, e]
set_option maxRecDepth 100000 in
theorem ay4 (s : CS) (n : Nat) : bits .or .u64 (wd s (n / 64)) (IntKind.u64.wrap (2 ^ (n % 64))) = ((wdN s (n / 64) ||| 2 ^ (n % 64) : Nat) : Int) := by
 have hp : 2 ^ (n % 64) < 18446744073709551616 := Nat.pow_lt_pow_right (a := 2) (n := 64) (by omega) (Nat.mod_lt _ (by omega))
 have e : IntKind.u64.wrap (2 ^ (n % 64)) = ((2 ^ (n % 64) : Nat) : Int) := by
  rw [show ((2 : Int) ^ (n % 64)) = ((2 ^ (n % 64) : Nat) : Int) by push_cast; rfl]
  generalize 2 ^ (n % 64) = x at hp ⊢
  exact IntWalk.u64_in _ ⟨by omega, by omega⟩
 rw [e]
 exact bits_or_u64_nat _ _ (ae5 s _) hp
set_option maxRecDepth 100000 in
theorem ams (s : CS) (i : Nat) (h : i < (o3 s).size) : (o3 s)[i] = .int .u64 (wd s i) := by
 have := x4 s i (by simpa [aby] using h)
 rw [Array.getElem?_eq_getElem h] at this
 exact Option.some.inj this
set_option maxRecDepth 100000 in
theorem avm (s : CS) (n : Nat) (hn : n < 256) (v : Int) (hv : v = ((wdN s (n / 64) ||| 2 ^ (n % 64) : Nat) : Int)) : (o3 s).setIfInBounds (n / 64) (.int .u64 v) = o3 (ans s n) := by
 subst hv
 apply Array.ext
 ·simp [aby]
 ·intro i h1 h2
  have hi : i < 4 := by simpa [aby] using h2
  rw [ams]
  by_cases he : n / 64 = i
  ·subst he
   simp [axv s n hn, wd]
  ·rw [Array.getElem_setIfInBounds_ne (by simpa [aby] using hi) he, ams]
   have : wdN s i = wdN (ans s n) i := by
    refine ajm (ae5 s i) fun j hj => ?_
    rw [af4, ah0 _ _ _ hn]
    have : ¬ n = 64 * i + j := by omega
    simp [hj, this]
   simp [wd, this]
set_option maxRecDepth 100000 in
theorem ak5 (s : CS) (n : Nat) (hn : n < 256) : (o3 s).setIfInBounds (n / 64) (.int .u64 (bits .or .u64 (wd s (n / 64)) (IntKind.u64.wrap (2 ^ (n % 64))))) = o3 (ans s n) := avm s n hn _ (ay4 s n)
def cs0 : CS := 0
set_option maxRecDepth 100000 in
theorem akq : #[Value.int .u64 0, .int .u64 0, .int .u64 0, .int .u64 0] = o3 cs0 := by
 have h : ∀ k, wd cs0 k = 0 := fun k => by
  have h0 : 0 = wdN cs0 k := ajm (by omega) (fun i _ => by simp [cs0])
  unfold wd; rw [← h0]; rfl
 simp only [o3, h]
def x7 (f : Nat → Bool) : Array Value := ((List.range 256).map fun i => Value.bool (f i)).toArray
set_option maxRecDepth 100000 in
theorem ao8 (f : Nat → Bool) : (x7 f).size = 256 := by simp [x7]
set_option maxRecDepth 100000 in
theorem aay (f : Nat → Bool) (i : Nat) (h : i < 256) : (x7 f)[i]? = some (.bool (f i)) := by
 simp [x7, h]
def abv (lo hi : Nat) : CS := mkS fun i => decide (lo ≤ i) && decide (i ≤ hi)
def ofS (l : List UInt8) : CS := mkS fun i => l.any fun c => c.toNat == i
def aem (s : CS) : Nat → Nat → Option Nat
 | _, 0 => none
 | b, n + 1 => if s.getLsbD b then some b else aem s (b + 1) n
def aa4 (s : CS) (b : Nat) : Option Nat := aem s b (256 - b)
set_option maxRecDepth 100000 in
theorem amc {s : CS} {b n c : Nat} (h : aem s b n = some c) : b ≤ c ∧ c < b + n ∧ s.getLsbD c = true ∧ ∀ i, b ≤ i → i < c → s.getLsbD i = false := by
 induction n generalizing b with
 | zero => cases h
 | succ n ih =>
  simp only [aem] at h
  by_cases hb : s.getLsbD b = true
  ·rw [if_pos hb] at h
   cases h
   exact ⟨Nat.le_refl _, by omega, hb, fun i h1 h2 => by omega⟩
  ·rw [if_neg hb] at h
   obtain ⟨h1, h2, h3, h4⟩ := ih h
   refine ⟨by omega, by omega, h3, fun i hi1 hi2 => ?_⟩
   by_cases e : i = b
   ·subst e; simpa using hb
   ·exact h4 i (by omega) hi2
set_option maxRecDepth 100000 in
theorem amb {s : CS} {b n : Nat} (h : aem s b n = none) : ∀ i, b ≤ i → i < b + n → s.getLsbD i = false := by
 induction n generalizing b with
 | zero => intro i h1 h2; omega
 | succ n ih =>
  simp only [aem] at h
  by_cases hb : s.getLsbD b = true
  ·rw [if_pos hb] at h; cases h
  ·rw [if_neg hb] at h
   intro i h1 h2
   by_cases e : i = b
   ·subst e; simpa using hb
   ·exact ih h i (by omega) (by omega)
set_option maxRecDepth 100000 in
theorem ak9 {s : CS} {b c : Nat} (h : aa4 s b = some c) : b ≤ c ∧ c < 256 ∧ s.getLsbD c = true ∧ ∀ i, b ≤ i → i < c → s.getLsbD i = false := by
 have h' := amc h
 have : c < 256 := by omega
 exact ⟨h'.1, this, h'.2.2⟩
set_option maxRecDepth 100000 in
theorem aj0 {s : CS} {b : Nat} (h : aa4 s b = none) : ∀ i, b ≤ i → i < 256 → s.getLsbD i = false := fun i h1 h2 => amb h i h1 (by omega)
set_option maxRecDepth 100000 in
theorem aqz {s : CS} {b : Nat} (h : b < 256) : aa4 s b = if s.getLsbD b then some b else aa4 s (b + 1) := by
 unfold aa4
 rw [show 256 - b = (256 - (b + 1)) + 1 by omega]
 rfl
set_option maxRecDepth 100000 in
theorem avf {s : CS} {b : Nat} (h : 256 ≤ b) : aa4 s b = none := by
 unfold aa4; rw [show 256 - b = 0 by omega]; rfl
end Go.Proofs.YtohnchdnkbadaaaDoor
namespace Go.Proofs.YtohnchdnkbadaaaDoor
open Go Go.RowKit
section
variable {P : Program}
def awu (P : Program) (ty : TypeId) : Bool := match P.underlying ty with | some (.struct _) => true | some (.array _ _) => true | _ => false
structure RowT (P : Program) (ty : TypeId) (n : Nat) : Prop where
 agg : awu P ty = true
 size : (P.info? ty).map (·.size) = some n
theorem RowT.desc {ty : TypeId} {n : Nat} (h : RowT P ty n) : (∃ fs, P.underlying ty = some (.struct fs)) ∨ (∃ n e, P.underlying ty = some (.array n e)) := by
 have h1 := h.agg
 unfold awu at h1
 split at h1
 ·rename_i fs hd; exact .inl ⟨_, hd⟩
 ·rename_i n e hd; exact .inr ⟨_, _, hd⟩
 ·cases h1
theorem aus {w : World} {g : Nat} {t ty : TypeId} {cs : Array Value} {fr : Nat × Nat} (hg : w.heap[g]? = some (.cells cs t fr)) (h : RowT P ty cs.size) :
  (loadVar ty ⟨g, 0, none⟩).run P w = .ok (.agg cs) w := by
 rcases h.desc with ⟨fs, hu⟩ | ⟨n, e, hu⟩
 ·exact run_loadVar_row w g t ty cs fr _ hg hu rfl h.size
 ·exact run_loadVar_row w g t ty cs fr _ hg hu rfl h.size
theorem ahn {ops : Array Oper} {rest : List Oper} {o : Oper} {a : Act} {w : World} {Q : Exit → Act → World → Prop} (hgd : o.guard = none) (ty : TypeId) (x : Operand) (ho : o.op = .load ty x)
  (g : Nat) (hx : a.eval x = .pointer (some ⟨g, 0, none⟩)) (t : TypeId) (cs : Array Value) (fr : Nat × Nat) (hg : w.heap[g]? = some (.cells cs t fr))
  (ht : RowT P ty cs.size) (h : wpList P ops Q rest (a.put o.dst (.agg cs)) w) : wpList P ops Q (o :: rest) a w := by
 rcases ht.desc with ⟨fs, hu⟩ | ⟨n, e, hu⟩
 ·exact wpList_load_row hgd ty x ho g hx t cs fr _ hg hu rfl ht.size h
 ·exact wpList_load_row hgd ty x ho g hx t cs fr _ hg hu rfl ht.size h
theorem ah9 (w : World) (g : Nat) (ty t : TypeId) (cur cs : Array Value) (hg : w.heap[g]? = some (.cells cur t (0, 0))) (hz : cur.size = cs.size)
  (hi : (P.info? ty).map (·.size) = some cs.size) (h1 : ∀ v ∈ cs.toList, v.oneCell' = true) :
  (storeVar ty ⟨g, 0, none⟩ (.agg cs)).run P w = .ok () (w.setRow g cs) := by
 have hl : 0 + 0 + cs.toList.length ≤ cur.size := by simp; omega
 have := run_storeCells_at (P := P) g 0 t cs.toList 0 cur w hg hl h1
 have e : (cur.toList.take (0 + 0) ++ cs.toList ++ cur.toList.drop (0 + 0 + cs.toList.length)).toArray = cs := by
  rw [List.drop_eq_nil_of_le (by simp; omega)]; simp
 rw [e] at this
 cases hq : P.info? ty with
 | none => simp [hq] at hi
 | some i =>
  have hs : cs.size = i.size := by simp [hq] at hi; omega
  simp [storeVar, sizeOf, typeInfo, hq, Value.cells, hs, this]
theorem aoj {o : Oper} {a : Act} {w : World} {K : Act → World → Prop} {Q : Exit → Act → World → Prop} (ty : TypeId) (x y : Operand) (ho : o.op = .store ty x y)
  (g : Nat) (cs : Array Value) (hx : a.eval x = .pointer (some ⟨g, 0, none⟩)) (hy : a.eval y = .agg cs) (t : TypeId) (cur : Array Value) (hg : w.heap[g]? = some (.cells cur t (0, 0)))
  (hz : cur.size = cs.size) (hi : (P.info? ty).map (·.size) = some cs.size) (h1 : ∀ v ∈ cs.toList, v.oneCell' = true)
  (h : K (a.put o.dst undef) (w.setRow g cs)) : o.wp P a w K Q := by
 unfold Oper.wp execOp
 simp only [ho, hx, hy, Instr.storeAt, Instr.sureAddr, Sem.run_bind, Sem.run_pure, Result.andThen_ok, ah9 w g ty t cur cs hg hz hi h1]
 exact h
theorem aeg {ops : Array Oper} {rest : List Oper} {o : Oper} {a : Act} {w : World} {Q : Exit → Act → World → Prop} (hgd : o.guard = none) (ty : TypeId) (x y : Operand) (ho : o.op = .store ty x y)
  (g : Nat) (cs : Array Value) (hx : a.eval x = .pointer (some ⟨g, 0, none⟩)) (hy : a.eval y = .agg cs) (t : TypeId) (cur : Array Value) (hg : w.heap[g]? = some (.cells cur t (0, 0)))
  (hz : cur.size = cs.size) (hi : (P.info? ty).map (·.size) = some cs.size) (h1 : ∀ v ∈ cs.toList, v.oneCell' = true)
  (h : wpList P ops Q rest (a.put o.dst undef) (w.setRow g cs)) : wpList P ops Q (o :: rest) a w :=
 wpList_plain hgd fun _ hK => aoj ty x y ho g cs hx hy t cur hg hz hi h1 (hK _ _ h)
theorem afa {ops : Array Oper} {rest : List Oper} {a : Act} {w : World} {Q : Exit → Act → World → Prop} {d : Tmp} {ty t1 t2 : TypeId} {x y : Operand} {p1 p2 : String} {e1 e2 : Array Edge}
  (p g : Nat) (t t' : TypeId) {cs cur : Array Value} {fr : Nat × Nat} (hp : w.heap[p]? = some (.cells cs t fr)) (hg : w.heap[g]? = some (.cells cur t' (0, 0))) (hz : cur.size = cs.size)
  (ht : RowT P ty cs.size) (h1 : ∀ v ∈ cs.toList, v.oneCell' = true)
  (hx : a.eval x = .pointer (some ⟨p, 0, none⟩)) (hy : ∀ v, (a.put (some d) v).eval y = .pointer (some ⟨g, 0, none⟩)) (hd : decide (d < a.tmps.size) = true)
  (h : wpList P ops Q rest (a.put (some d) (.agg cs)) (w.setRow g cs)) :
  wpList P ops Q (⟨some d, .load ty x, t1, p1, e1, none⟩ :: ⟨none, .store ty y (.tmp d), t2, p2, e2, none⟩ :: rest) a w := by
 refine ahn rfl ty x rfl p hx t cs fr hp ht ?_
 refine aeg rfl ty y (.tmp d) rfl g cs (hy _) ?_ t' cur hg hz ht.size h1 h
 have hd := of_decide_eq_true hd
 simp [Act.eval, Act.put, hd]
theorem aab {w : World} {g : Nat} {old cs : Array Value} {t : TypeId} {fr : Nat × Nat} (hg : w.heap[g]? = some (.cells old t fr)) : (w.setRow g cs).heap[g]? = some (.cells cs t fr) := setRow_heap w g old cs t fr hg
theorem blk {B g : Nat} {w w' : World} {o : Obj} (hb : Below B w w') (hg : w.heap[g]? = some o) (h : g < B) : w'.heap[g]? = some o := by rw [hb.block g h]; exact hg
theorem ahr {w : World} {g k : Nat} {cs : Array Value} {o : Obj} (h : w.heap[k]? = some o) (hne : k ≠ g) : (w.setRow g cs).heap[k]? = some o := by rw [setRow_other w g k cs hne]; exact h
theorem b6 {w : World} {g : Nat} {o : Obj} (hg : w.heap[g]? = some o) : g < w.heap.size := (Array.getElem?_eq_some_iff.1 hg).1
theorem ajr {fn : Func} {R : Ending → World → Prop} {a : Act} {w : World} {p : Tmp} {ty : TypeId} (h : fn.results = #[.cell p ty]) (g : Nat) (t : TypeId) (cs : Array Value) (fr : Nat × Nat)
  (hp : a.tmps.getD p undef = .pointer (some ⟨g, 0, none⟩)) (hg : w.heap[g]? = some (.cells cs t fr)) (ht : RowT P ty cs.size)
  (hdef : a.defers = []) (hR : R (.returned (.agg cs)) w) : bodyPost P fn R .ret a w :=
 have hr : (results fn a.tmps).run P w = .ok (.agg cs) w := by
  rcases ht.desc with ⟨fs, hu⟩ | ⟨n, e, hu⟩
  ·exact results_cell_row h _ _ _ _ _ fr _ hp hg hu rfl ht.size
  ·exact results_cell_row h _ _ _ _ _ fr _ hp hg hu rfl ht.size
 bodyPost_ret hr hdef hR
theorem aow {w : World} {e : TypeId} {xs : Array Value} {i : Nat} {v : Value} {de : TypeDesc} (hu : P.underlying e = some de) (hd : awu P e = false) (hx : xs[i * 1]? = some v) : (part e xs (i * 1)).run P w = .ok v w := by
 have hagg : (isAgg e).run P w = .ok false w := by
  unfold isAgg
  rw [Sem.run_bind, run_underlying hu w]
  unfold awu at hd
  rw [hu] at hd
  cases de <;> simp_all
 rw [Nat.mul_one] at hx
 simp [part, Sem.run_bind, hagg, hx]
theorem amg {w : World} {T e : TypeId} {n : Nat} {cs : Array Value} {k : Nat} {v : Value} {de : TypeDesc} {i : TypeInfo} (hT : P.underlying T = some (.array n e)) (hu : P.underlying e = some de) (hd : awu P e = false)
  (hi : P.info? e = some i) (hs : i.size = 1) (hk : k < n) (hv : cs[k]? = some v) : (Instr.index T (.agg cs) (.int .i64 (k : Int))).run P w = .ok v w := by
 have hv' : cs[k * 1]? = some v := by rw [Nat.mul_one]; exact hv
 have hp := aow (w := w) hu hd hv'
 rw [Nat.mul_one] at hp
 simp [Instr.index, asIntOf, run_underlying hT, sizeOf, typeInfo, hi, hs, hk, hp]
def o6 (P : Program) (f : FuncId) : Bool := match P.funcs[f]? with | some fn => !(fn.name == "runtime.NumGoroutine") && !fn.body.isNone | none => false
theorem af9 {f : FuncId} (h : o6 P f = true) (args : Array Value) (w : World) : (callFunc f args).run P w = .ok (.enter f args) w := by
 unfold o6 at h
 cases hf : P.funcs[f]? with
 | none => rw [hf] at h; cases h
 | some fn =>
  rw [hf] at h
  simp only [Bool.and_eq_true, Bool.not_eq_true'] at h
  have h1 : ¬ fn.name = "runtime.NumGoroutine" := by simpa using h.1
  have h2 : ¬ fn.body = none := by intro e; simp [e] at h
  simp [callFunc, hf, h1, h2]
theorem avv (a : Act) (f : FuncId) (args : Array Operand) (at_ : Array TypeId) (dst : Option Tmp) (ty : TypeId) (pos : String) (after : Array Edge) (g : Option (Nat × Bool)) (w : World) (he : o6 P f = true) :
  (execOp a.eval ⟨dst, .call ⟨.value (.func f), args, at_⟩, ty, pos, after, g⟩).run P w = .ok (.enter f (args.map a.eval)) w := by
 simp [execOp, resolve, Act.eval, invoke, Deferred.ofValue, af9 he]
theorem aa7 {ops : Array Oper} {rest : List Oper} {a : Act} {w : World} {Q : Exit → Act → World → Prop} {d : Tmp} {op : Op} {t : TypeId} {p : String} {e : Array Edge} {g : Option (Nat × Bool)}
  (h : Hid (wpList P ops Q (⟨some d, op, t, p, e, g⟩ :: rest) a w)) : wpList P ops Q (⟨some d, op, t, p, e, g⟩ :: rest) a w := h
theorem akp {ops : Array Oper} {rest : List Oper} {a : Act} {w : World} {Q : Exit → Act → World → Prop} {ty t1 : TypeId} {x y : Operand} {p1 : String} {e1 : Array Edge}
  (g : Nat) (t : TypeId) {cs cur : Array Value} (hg : w.heap[g]? = some (.cells cur t (0, 0))) (hz : cur.size = cs.size) (ht : RowT P ty cs.size) (h1 : ∀ v ∈ cs.toList, v.oneCell' = true)
  (hx : a.eval x = .pointer (some ⟨g, 0, none⟩)) (hy : a.eval y = .agg cs) (h : wpList P ops Q rest a (w.setRow g cs)) :
  wpList P ops Q (⟨none, .store ty x y, t1, p1, e1, none⟩ :: rest) a w :=
 aeg rfl ty x y rfl g cs hx hy t cur hg hz ht.size h1 h
theorem o0 {ops : Array Oper} {rest : List Oper} {a : Act} {w : World} {Q : Exit → Act → World → Prop} {d : Tmp} {ty t1 : TypeId} {x : Operand} {p1 : String} {e1 : Array Edge}
  (g : Nat) (t : TypeId) {cs : Array Value} {fr : Nat × Nat} (hg : w.heap[g]? = some (.cells cs t fr)) (ht : RowT P ty cs.size)
  (hx : a.eval x = .pointer (some ⟨g, 0, none⟩)) (h : wpList P ops Q rest (a.put (some d) (.agg cs)) w) :
  wpList P ops Q (⟨some d, .load ty x, t1, p1, e1, none⟩ :: rest) a w :=
 ahn rfl ty x rfl g hx t cs fr hg ht h
end
end Go.Proofs.YtohnchdnkbadaaaDoor
namespace Go.Proofs.YtohnchdnkbadaaaDoor
open Go Go.RowKit
set_option maxRecDepth 100000 in
theorem afb (s : CS) : RowT Tryd.prog 84 (o3 s).size :=
 ⟨by kernel_rfl, by
  have h : (Tryd.prog.info? 84).map (·.size) = some 4 := by kernel_rfl
  rw [h, aby]⟩
set_option maxRecDepth 100000 in
theorem afn (s : CS) : ∀ v ∈ (o3 s).toList, v.oneCell' = true := by
 intro v hv; simp [o3] at hv; rcases hv with rfl | rfl | rfl | rfl <;> rfl
set_option maxRecDepth 100000 in
theorem aea (s : CS) (b : Int) (h0 : 0 ≤ b) (h1 : b < 256) : aek Tryd.prog 126 #[.agg (o3 s), .int .u8 b] (.bool (s.getLsbD b.toNat)) := by
 intro w
 have q0 := x4 s (b/64).toNat (by omega)
 go_enter Tryd.func126, Tryd.ntmps126
 go_wp2
 go_ret
 exact ⟨by simp only [Array.getD_eq_getD_getElem?]; simp [ayz s b h0 h1], (Below.refl _ _).alloc (Nat.le_refl _) _⟩
set_option maxRecDepth 100000 in
theorem apb (s : CS) : aek Tryd.prog 125 #[.agg (o3 s)] (.agg (o3 (~~~ s))) := by
 intro w
 have q0 := x4 s 0 (by omega)
 have q1 := x4 s 1 (by omega)
 have q2 := x4 s 2 (by omega)
 have q3 := x4 s 3 (by omega)
 go_enter Tryd.func125, Tryd.ntmps125
 go_wp2
 rw [aue]
 refine ajr rfl _ _ (o3 (~~~ s)) (0, 0) rfl (heap_alloc2_new _ _ _) (afb _) rfl ⟨rfl, ?_⟩
 exact ((Below.refl _ _).alloc (Nat.le_refl _) _).alloc (by simp) _
set_option maxRecDepth 100000 in
theorem ajf (w : World) (A B C : Obj) : (((w.alloc A).alloc B).alloc C).heap[w.heap.size + 1 + 1]? = some C := by
 have h := heap_alloc_new ((w.alloc A).alloc B) C
 rw [World.size_alloc, World.size_alloc] at h
 exact h
set_option maxRecDepth 100000 in
theorem arm (s t : CS) : aek Tryd.prog 180 #[.agg (o3 s), .agg (o3 t)] (.agg (o3 (s ||| t))) := by
 intro w
 have q0 := x4 s 0 (by omega)
 have q1 := x4 s 1 (by omega)
 have q2 := x4 s 2 (by omega)
 have q3 := x4 s 3 (by omega)
 have r0 := x4 t 0 (by omega)
 have r1 := x4 t 1 (by omega)
 have r2 := x4 t 2 (by omega)
 have r3 := x4 t 3 (by omega)
 go_enter Tryd.func180, Tryd.ntmps180
 go_wp2
 rw [axm]
 refine ajr rfl _ _ (o3 (s ||| t)) (0, 0) rfl (ajf _ _ _ _) (afb _) rfl ⟨rfl, ?_⟩
 exact (((Below.refl _ _).alloc (Nat.le_refl _) _).alloc (by simp) _).alloc (by simp; omega) _
set_option maxRecDepth 100000 in
theorem avg (lo hi : Nat) (h0 : lo < 256) (h1 : hi < 256) : aek Tryd.prog 176 #[.int .u8 lo, .int .u8 hi] (.agg (o3 (abv lo hi))) := by
 intro w
 have e1 : wrap64 (lo : Int) = lo := IntWalk.wrap64_in _ ⟨by omega, by omega⟩
 have e2 : wrap64 (hi : Int) = hi := IntWalk.wrap64_in _ ⟨by omega, by omega⟩
 have hz := akq
 go_enter Tryd.func176, Tryd.ntmps176
 go_wp2
 clear hz
 go_loopw [6] (fun i wr => ∃ k : Nat, i = .int .i64 k ∧ lo ≤ k ∧ (k ≤ hi + 1 ∨ k = lo) ∧ k ≤ 256 ∧ wr.heap[w.heap.size]? = some (.cells (o3 cs0) 84 (0, 0)) ∧ wr.heap[w.heap.size + 1]? = some (.cells (o3 (mkS fun i => decide (lo ≤ i) && decide (i < k))) 84 (0, 0)) ∧ Below w.heap.size w wr)
  (fun i _ => 256 - (intOf i).toNat)
 case atStart =>
  refine ⟨lo, rfl, Nat.le_refl _, .inr rfl, by omega, ?_, ?_, ?_⟩
  ·exact heap_alloc2_old _ _ _
  ·rw [show (mkS fun i => decide (lo ≤ i) && decide (i < lo)) = cs0 from ahs fun i hi => by rw [abg _ _ hi]; simp [cs0]]
   exact heap_alloc2_new _ _ _
  ·exact ((Below.refl _ _).alloc (Nat.le_refl _) _).alloc (by simp) _
 case round =>
  obtain ⟨k, rfl, hk1, hk2, hk3, hb0, hb1, hbel⟩ := hrel
  have hsz : w.heap.size + 1 < wr.heap.size := b6 hb1
  by_cases hlt : k ≤ hi
  ·have hc : ∀ i, wr.cell? ⟨w.heap.size + 1, i, none⟩ = _ := fun i => cell_of_row _ _ i _ _ _ hb1
   have hf : ∀ i, wr.frozen? ⟨w.heap.size + 1, i, none⟩ = false := fun i => frozen_of_row _ _ i _ _ hb1
   have q0 := x4 (mkS fun i => decide (lo ≤ i) && decide (i < k)) (k/64) (by omega)
   have g0 : (0 : Int) ≤ (k : Int) / 64 := by omega
   have g1 : (k : Int) / 64 < 4 := by omega
   go_wp2
   have ek : ((k : Int) / 64).toNat = k / 64 := by omega
   have em := at7 k (by omega)
   refine abr (fun w' => w' = wr.drew) 9 (by kernel_rfl) (by kernel_rfl) rfl ?_
   simp only [List.take_succ_cons, List.take_zero, List.drop_succ_cons, List.drop_zero]
   repeat
    refine ad0 ?_ rfl (fun w' hS => ?_) ?_
    rotate_left
    ·have hS' : w' = wr.drew := hS
     subst hS'
     go_simp
     try go_bits
     exact ad1 (P := Tryd.prog) rfl
    simp only [Act.put, List.setIfInBounds_toArray, List.set_cons_zero, List.set_cons_succ]
   refine aev ?_
   intro w' hS
   obtain rfl := hS
   go_wp2
   go_roundw
   case rel =>
    have hb1' : (wr.setCell ⟨w.heap.size + 1, k / 64, none⟩ (.int .u64 (bits .or .u64 (wd (mkS fun i => decide (lo ≤ i) && decide (i < k)) (k / 64)) (IntKind.u64.wrap (2 ^ (k % 64)))))).heap[w.heap.size + 1]? = some (.cells (o3 (mkS fun i => decide (lo ≤ i) && decide (i < k + 1))) 84 (0, 0)) := by
     have ea : ans (mkS fun i => decide (lo ≤ i) && decide (i < k)) k = mkS fun i => decide (lo ≤ i) && decide (i < k + 1) := by
      refine ahs fun i hi => ?_
      rw [ah0 _ _ _ (by omega), abg _ _ hi, abg _ _ hi, Bool.eq_iff_iff]
      simp; omega
     rw [heap_setCell_same _ _ _ _ _ _ hb1, ak5 _ k (by omega), ea]
    refine ⟨k + 1, by go_num, by omega, .inl (by omega), by omega, ?_, hb1', ?_⟩
    ·rw [World.drew]; show (wr.setCell _ _).heap[_]? = _
     rw [heap_setCell_other _ _ _ _ (by simp)]; exact hb0
    ·exact (hbel.setCell (by simp) _).drew
   case measure => simp [intOf]; omega
  ·have hlt' : hi < k := by omega
   have hsp : (mkS fun i => decide (lo ≤ i) && decide (i < k)) = abv lo hi := ave fun i _ => by
    rw [Bool.eq_iff_iff]; simp; omega
   rw [hsp] at hb1
   go_wp2_with ((with_reducible refine afa (d := 24) (ty := 84) (x := .tmp 5) (y := .tmp 4) _ _ _ _ hb1 hb0 (aka _ _) (afb _) (afn _) ?_ ?_ ?_ ?_); rfl; (intro _; rfl); rfl)
   refine ajr rfl _ _ _ (0, 0) rfl (aab hb0) (afb _) rfl ⟨rfl, ?_⟩
   exact below_setRow hbel (Nat.le_refl _) _
end Go.Proofs.YtohnchdnkbadaaaDoor
namespace Go.Proofs.YtohnchdnkbadaaaDoor
open Go Go.RowKit
set_option maxRecDepth 100000 in
theorem awq (l : List UInt8) (c : UInt8) : ofS (l ++ [c]) = ans (ofS l) c.toNat := by
 refine ahs fun i hi => ?_
 have hc : c.toNat < 256 := c.toNat_lt
 rw [ah0 _ _ _ hc, ofS, abg _ _ hi, ofS, abg _ _ hi, List.any_append]
 simp [List.any_cons, Bool.beq_eq_decide_eq]
set_option maxRecDepth 100000 in
theorem aut (s : ByteArray) (k : Nat) (h : k < s.size) : s.data.toList.take (k + 1) = s.data.toList.take k ++ [s[k]] := by
 rw [List.take_succ_eq_append_getElem (by simpa using h)]; rfl
set_option maxRecDepth 100000 in
theorem ayp (s : ByteArray) (hs : s.size ≤ maxLen) : aek Tryd.prog 41 #[.string s] (.agg (o3 (ofS s.data.toList))) := by
 intro w
 unfold maxLen at hs
 have hz := akq
 go_enter Tryd.func41, Tryd.ntmps41
 go_wp2
 clear hz
 go_loopw [7] (fun i wr => ∃ k : Nat, i = .int .i64 k ∧ k ≤ s.size ∧ wr.heap[w.heap.size]? = some (.cells (o3 cs0) 84 (0, 0)) ∧ wr.heap[w.heap.size + 1]? = some (.cells (o3 (ofS (s.data.toList.take k))) 84 (0, 0)) ∧ Below w.heap.size w wr)
  (fun i _ => s.size - (intOf i).toNat)
 case atStart =>
  refine ⟨0, rfl, Nat.zero_le _, ?_, ?_, ?_⟩
  ·exact heap_alloc2_old _ _ _
  ·rw [show ofS (s.data.toList.take 0) = cs0 from ahs fun i hi => by rw [ofS, abg _ _ hi]; simp [cs0]]
   exact heap_alloc2_new _ _ _
  ·exact ((Below.refl _ _).alloc (Nat.le_refl _) _).alloc (by simp) _
 case round =>
  obtain ⟨k, rfl, hk1, hb0, hb1, hbel⟩ := hrel
  have hsz : w.heap.size + 1 < wr.heap.size := b6 hb1
  by_cases hlt : k < s.size
  ·have hts := aut s k hlt
   have hsn := awq (s.data.toList.take k) s[k]
   rw [← hts] at hsn
   clear hts
   have HS : Hid (ofS (s.data.toList.take (k + 1)) = ans (ofS (s.data.toList.take k)) s[k].toNat) := hsn
   clear hsn
   generalize ofS (s.data.toList.take k) = t at hb1 HS
   have hcl : s[k].toNat < 256 := s[k].toNat_lt
   have hc : ∀ i, wr.cell? ⟨w.heap.size + 1, i, none⟩ = _ := fun i => cell_of_row _ _ i _ _ _ hb1
   have hf : ∀ i, wr.frozen? ⟨w.heap.size + 1, i, none⟩ = false := fun i => frozen_of_row _ _ i _ _ hb1
   have q0 := x4 t (s[k].toNat/64) (by omega)
   have g0 : (0 : Int) ≤ (s[k].toNat : Int) / 64 := by omega
   have g1 : (s[k].toNat : Int) / 64 < 4 := by omega
   go_wp2
   have ek : ((s[k].toNat : Int) / 64).toNat = s[k].toNat / 64 := by omega
   have em : ((s[k].toNat : Int) % 64).toNat = s[k].toNat % 64 := by omega
   refine abr (fun w' => w' = wr.drew) 13 (by kernel_rfl) (by kernel_rfl) rfl ?_
   simp only [List.take_succ_cons, List.take_zero, List.drop_succ_cons, List.drop_zero]
   repeat
    refine ad0 ?_ rfl (fun w' hS => ?_) ?_
    rotate_left
    ·have hS' : w' = wr.drew := hS
     subst hS'
     go_simp
     try go_bits
     exact ad1 (P := Tryd.prog) rfl
    simp only [Act.put, List.setIfInBounds_toArray, List.set_cons_zero, List.set_cons_succ]
   refine aev ?_
   intro w' hS
   obtain rfl := hS
   go_wp2
   go_roundw
   case rel =>
    have hb1' := heap_setCell_same _ _ (s[k].toNat / 64) _ _ (.int .u64 (bits .or .u64 (wd t (s[k].toNat / 64)) (IntKind.u64.wrap (2 ^ (s[k].toNat % 64))))) hb1
    rw [ak5 _ _ hcl, ← HS.out] at hb1'
    refine ⟨k + 1, by go_num, by omega, ?_, hb1', ?_⟩
    ·show (wr.setCell _ _).heap[_]? = _
     rw [heap_setCell_other _ _ _ _ (by simp)]; exact hb0
    ·exact (hbel.setCell (by simp) _).drew
   case measure => simp [intOf]; omega
  ·have hk : k = s.size := by omega
   subst hk
   rw [List.take_of_length_le (by simp)] at hb1
   go_wp2_with ((with_reducible refine afa (d := 24) (ty := 84) (x := .tmp 3) (y := .tmp 2) _ _ _ _ hb1 hb0 (aka _ _) (afb _) (afn _) ?_ ?_ ?_ ?_); rfl; (intro _; rfl); rfl)
   refine ajr rfl _ _ _ (0, 0) rfl (aab hb0) (afb _) rfl ⟨rfl, ?_⟩
   exact below_setRow hbel (Nat.le_refl _) _
def aqh (s : CS) (b : Nat) : Value := match aa4 s b with | some c => .tuple #[.int .u8 (c : Nat), .bool true] | none => .tuple #[.int .u8 0, .bool false]
set_option maxRecDepth 100000 in
theorem au4 (s : CS) (from_ : Int) (h0 : -9223372036854775808 ≤ from_) (h1 : from_ ≤ 9223372036854775807) : aek Tryd.prog 123 #[.agg (o3 s), .int .i64 from_] (aqh s from_.toNat) := by
 intro w
 go_enter Tryd.func123, Tryd.ntmps123
 go_wp2
 all_goals
  go_loopw [6] (fun i wr => ∃ k : Nat, i = .int .i64 k ∧ (k ≤ 256 ∨ k = from_.toNat) ∧ aa4 s k = aa4 s from_.toNat ∧ wr.heap[w.heap.size]? = some (.cells (o3 s) 84 (0, 0)) ∧ Below w.heap.size w wr)
   (fun i _ => 256 - (intOf i).toNat)
  case atStart =>
   refine ⟨from_.toNat, by congr 1; omega, .inr rfl, rfl, heap_alloc_new _ _, (Below.refl _ _).alloc (Nat.le_refl _) _⟩
  case round =>
   obtain ⟨k, rfl, hk1, hk2, hb0, hbel⟩ := hrel
   have hsz : w.heap.size < wr.heap.size := b6 hb0
   by_cases hlt : k < 256
   ·have hst := aqz (s := s) hlt
    have HS : Hid (aa4 s from_.toNat = if s.getLsbD k then some k else aa4 s (k + 1)) := by rw [← hk2]; exact hst
    clear hk2 hst
    have e1 : ((k : Int) % 256) = k := by omega
    cases hbit : s.getLsbD k
    ·have HB := Lib.hid hbit; clear hbit
     go_wp2_with (first | ((with_reducible refine o0 (d := 13) (ty := 84) (x := .tmp 2) _ _ hb0 (afb _) ?_ ?_); rfl) | (go_at_call 126; refine (aea s (k : Int) ?_ ?_ wr).mono ?_; omega; omega; rw [Int.toNat_natCast, HB.out]; rintro e w' ⟨rfl, hb⟩))
     go_roundw
     case rel =>
      refine ⟨k + 1, by go_num, .inl (by omega), ?_, blk hb hb0 hsz, hbel.trans (hb.mono (by omega))⟩
      rw [HS.out, HB.out]; rfl
     case measure => simp [intOf]; omega
    ·have HB := Lib.hid hbit; clear hbit
     go_wp2_with (first | ((with_reducible refine o0 (d := 13) (ty := 84) (x := .tmp 2) _ _ hb0 (afb _) ?_ ?_); rfl) | (go_at_call 126; refine (aea s (k : Int) ?_ ?_ wr).mono ?_; omega; omega; rw [Int.toNat_natCast, HB.out]; rintro e w' ⟨rfl, hb⟩))
     go_ret2
     refine ⟨?_, hbel.trans (hb.mono (by omega))⟩
     rw [aqh, HS.out, HB.out]; rfl
   ·have hn := avf (s := s) (b := k) (by omega)
    rw [hn] at hk2
    have HS := Lib.hid hk2; clear hk2 hn
    go_wp2
    go_ret2
    refine ⟨?_, hbel⟩
    rw [aqh, ← HS.out]; rfl
end Go.Proofs.YtohnchdnkbadaaaDoor
namespace Go.Proofs.YtohnchdnkbadaaaDoor
open Go Go.ChangeShapes Go.WideShapes Go.ChangeAt Go.RowKit
set_option maxRecDepth 100000 in
theorem aw8 : ownKnob Tryd.prog.godebug = none := by kernel_rfl
set_option maxRecDepth 100000 in
theorem axf : laidOutB Tryd.prog = true := by kernel_rfl
section
variable {H : Type} {enc : TypeId × Value → H} {P : Program}
set_option maxRecDepth 100000 in
theorem agi (hl : laidOutB P = true) {W W' : World} (hb : Below W.heap.size W W') : ∀ (ts : List TypeId) (vs : List Value) (ds : List (DataW H)) (ps : List MemPlace),
  ts.all (fun t => P.readableRec t && decide (t < P.types.size)) = true →
  DataW.TrodAll enc P W 0 (fun _ => true) true ts vs ds ps → (∀ x ∈ ps, x.block < W.heap.size) →
  DataW.TrodAll enc P W' 0 (fun b => decide (b < W.heap.size)) true ts vs ds ps
 | [], [], [], ps, _, h, _ => h
 | t :: ts, v :: vs, d :: ds, ps, hr, h, hlt => by
  obtain ⟨p, q, h1, h2, rfl⟩ := h
  simp only [List.all_cons, Bool.and_eq_true, decide_eq_true_eq] at hr
  refine ⟨p, q, Below.trod hl hr.1.1 hr.1.2 h1 hb (fun x hx => hlt x (by simp [hx])), ?_, rfl⟩
  exact agi hl hb ts vs ds q (by simpa using hr.2) h2 (fun x hx => hlt x (by simp [hx]))
 | [], [], _ :: _, _, _, h, _ => h.elim
 | [], _ :: _, _, _, _, h, _ => h.elim
 | _ :: _, [], _, _, _, h, _ => h.elim
 | _ :: _, _ :: _, [], _, _, h, _ => h.elim
set_option maxRecDepth 100000 in
theorem awl {f : Func} {s : ChangeSpec} {tb : TypeId} {W W' : World} {args : Array Value} {ds gs : List (DataW H)} {before : List MemPlace} (hl : laidOutB P = true)
  (hfr : f.resultTypes = #[tb]) (hub : P.underlying tb = some .bool) (hts : f.params.toList.all (fun t => P.readableRec t && decide (t < P.types.size)) = true) (hvars : s.vars = [])
  (hW : DataW.Whole enc P f.params.toList s.vars false W args.toList ds gs before)
  (hspec : s.fn H (ds ++ gs) = { results := [.lit (.bool true)], args := ds }) (hb : Below W.heap.size W W') : s.post enc P f false true false false W args (.bool true) W' := by
 have hW' := hW
 obtain ⟨p, q, hA, hV, rfl, _, _⟩ := hW
 rw [hvars] at hV
 obtain ⟨rfl, rfl⟩ := trodVars_none hV
 have hlt : ∀ x ∈ p ++ [], x.block < W.heap.size := fun x hx => by simpa using hW'.lt x hx
 refine ⟨ds, [], p ++ [], [], p ++ [], [], hW', ?_, ?_, ?_, hb.frame _, fun h => by cases h⟩
 ·rw [hfr, hspec]
  exact trodAll_mk1 (shut_bool hub true)
 ·rw [hspec]
  simp only [List.append_nil] at hlt ⊢
  exact agi hl hb _ _ _ _ hts hA hlt
 ·rw [hvars, hspec]; rfl
end
section
variable {H : Type} {enc : TypeId × Value → H}
end
end Go.Proofs.YtohnchdnkbadaaaDoor
namespace Go.Proofs.YtohnchdnkbadaaaDoor
open Go Go.RowKit
def nB : List Nat → Nat
 | [] => 0
 | d :: r => d + 256 * nB r
set_option maxRecDepth 100000 in
theorem afu (d e R S : Nat) (hd : d < 256) (he : e < 256) : (d + 256 * R) &&& (e + 256 * S) = (d &&& e) + 256 * (R &&& S) := by
 have hde : d &&& e < 256 := Nat.lt_of_le_of_lt Nat.and_le_left hd
 apply Nat.eq_of_testBit_eq
 intro i
 rw [show d + 256 * R = 2 ^ 8 * R + d by omega, show e + 256 * S = 2 ^ 8 * S + e by omega, show (d &&& e) + 256 * (R &&& S) = 2 ^ 8 * (R &&& S) + (d &&& e) by omega]
 rw [Nat.testBit_and, Nat.testBit_two_pow_mul_add _ hd, Nat.testBit_two_pow_mul_add _ he, Nat.testBit_two_pow_mul_add _ hde]
 by_cases h : i < 8 <;> simp [h]
def s1 (d : Nat) : Nat := (d / 2 &&& 85) + (d &&& 85)
def s2 (d : Nat) : Nat := (d / 4 &&& 51) + (d &&& 51)
def s3 (d : Nat) : Nat := (d / 16 + d) &&& 15
def rep (c : Nat) (l : List Nat) : Nat := nB (l.map fun _ => c)
set_option maxRecDepth 100000 in
theorem t1 : ∀ d, d < 256 → ∀ c, c < 2 → (d / 2 + 128 * c) &&& 85 = d / 2 &&& 85 := by decide +kernel
set_option maxRecDepth 100000 in
theorem t1b : ∀ d, d < 256 → s1 d < 256 := by decide +kernel
set_option maxRecDepth 100000 in
theorem t2 : ∀ d, d < 256 → ∀ c, c < 4 → (d / 4 + 64 * c) &&& 51 = d / 4 &&& 51 := by decide +kernel
set_option maxRecDepth 100000 in
theorem t2b : ∀ d, d < 256 → s2 (s1 d) < 256 ∧ s2 (s1 d) % 16 ≤ 4 ∧ s2 (s1 d) / 16 ≤ 4 := by decide +kernel
set_option maxRecDepth 100000 in
theorem t3 : ∀ d, d < 256 → d / 16 ≤ 4 → d % 16 ≤ 4 → ∀ c, c < 5 → (d / 16 + 16 * c + d) &&& 15 = (d / 16 + d) &&& 15 := by decide +kernel
def adt (d : Nat) : Nat := (List.range 8).countP fun i => d.testBit i
set_option maxRecDepth 100000 in
theorem azs : ∀ d, d < 256 → s3 (s2 (s1 d)) = adt d ∧ adt d ≤ 8 := by decide +kernel
set_option maxRecDepth 100000 in
theorem azx (l : List Nat) (h : ∀ d ∈ l, d < 256) : (nB l / 2 &&& rep 85 l) + (nB l &&& rep 85 l) = nB (l.map s1) := by
 induction l with
 | nil => rfl
 | cons d r ih =>
  have hd := h d (by simp)
  have ih := ih fun x hx => h x (by simp [hx])
  simp only [nB, rep, List.map_cons] at ih ⊢
  have e : (d + 256 * nB r) / 2 = (d / 2 + 128 * (nB r % 2)) + 256 * (nB r / 2) := by omega
  rw [e, afu _ _ _ _ (by omega) (by omega), afu _ _ _ _ hd (by omega), t1 d hd _ (Nat.mod_lt _ (by omega)), ← ih, s1]
  omega
set_option maxRecDepth 100000 in
theorem azh (l : List Nat) (h : ∀ d ∈ l, d < 256) : (nB l / 4 &&& rep 51 l) + (nB l &&& rep 51 l) = nB (l.map s2) := by
 induction l with
 | nil => rfl
 | cons d r ih =>
  have hd := h d (by simp)
  have ih := ih fun x hx => h x (by simp [hx])
  simp only [nB, rep, List.map_cons] at ih ⊢
  have e : (d + 256 * nB r) / 4 = (d / 4 + 64 * (nB r % 4)) + 256 * (nB r / 4) := by omega
  rw [e, afu _ _ _ _ (by omega) (by omega), afu _ _ _ _ hd (by omega), t2 d hd _ (Nat.mod_lt _ (by omega)), ← ih, s2]
  omega
set_option maxRecDepth 100000 in
theorem low (l : List Nat) (h : ∀ d ∈ l, d % 16 ≤ 4) : nB l % 16 ≤ 4 := by
 cases l with
 | nil => simp [nB]
 | cons d r => have := h d (by simp); simp only [nB]; omega
set_option maxRecDepth 100000 in
theorem azj (l : List Nat) (h : ∀ d ∈ l, d < 256 ∧ d % 16 ≤ 4 ∧ d / 16 ≤ 4) : (nB l / 16 + nB l) &&& rep 15 l = nB (l.map s3) := by
 induction l with
 | nil => rfl
 | cons d r ih =>
  have hd := h d (by simp)
  have hr : ∀ x ∈ r, x < 256 ∧ x % 16 ≤ 4 ∧ x / 16 ≤ 4 := fun x hx => h x (by simp [hx])
  have hl := low r fun x hx => (hr x hx).2.1
  have ih := ih hr
  simp only [nB, rep, List.map_cons] at ih ⊢
  have e : (d + 256 * nB r) / 16 + (d + 256 * nB r) = (d / 16 + 16 * (nB r % 16) + d) + 256 * (nB r / 16 + nB r) := by omega
  rw [e, afu _ _ _ _ (by omega) (by omega), t3 d hd.1 hd.2.2 hd.2.1 _ (by omega), ← ih, s3]
def aa6 (x : Nat) (n : Nat) : Nat := (List.range n).countP fun i => x.testBit i
set_option maxRecDepth 100000 in
theorem ab4 (x a : Nat) : aa6 x (a + 8) = aa6 x a + adt (x / 2 ^ a % 256) := by
 unfold aa6 adt
 rw [List.range_add, List.countP_append, List.countP_map]
 congr 1
 apply List.countP_congr
 intro i hi
 have hi : i < 8 := List.mem_range.1 hi
 have : (x / 2 ^ a % 256).testBit i = x.testBit (a + i) := by
  rw [show (256 : Nat) = 2 ^ 8 from rfl, Nat.testBit_mod_two_pow, Nat.testBit_div_two_pow]
  simp [hi, Nat.add_comm]
 simp [this]
def as1 (x : Nat) : List Nat := [adt (x % 256), adt (x / 256 % 256), adt (x / 65536 % 256), adt (x / 16777216 % 256), adt (x / 4294967296 % 256), adt (x / 1099511627776 % 256), adt (x / 281474976710656 % 256), adt (x / 72057594037927936 % 256)]
def abn (x : Nat) : List Nat := [x % 256, x / 256 % 256, x / 65536 % 256, x / 16777216 % 256, x / 4294967296 % 256, x / 1099511627776 % 256, x / 281474976710656 % 256, x / 72057594037927936 % 256]
set_option maxRecDepth 100000 in
theorem axb (x : Nat) (hx : x < 18446744073709551616) : nB (abn x) = x := by
 simp only [abn, nB]; omega
set_option maxRecDepth 100000 in
theorem ah8 (x : Nat) : ∀ d ∈ abn x, d < 256 := by
 intro d hd; simp only [abn, List.mem_cons, List.not_mem_nil, or_false] at hd; omega
set_option maxRecDepth 100000 in
theorem axo : ∀ (l : List Nat), (∀ d ∈ l, d < 256) → nB l < 256 ^ l.length
 | [], _ => by simp [nB]
 | d :: r, h => by
  have h1 := h d (by simp)
  have h2 := axo r fun x hx => h x (by simp [hx])
  simp only [nB, List.length_cons, Nat.pow_succ]
  omega
set_option maxRecDepth 100000 in
theorem aw3 (x : Nat) : (as1 x).sum = aa6 x 64 := by
 have e8 : aa6 x 64 = aa6 x 56 + adt (x / 72057594037927936 % 256) := ab4 x 56
 have e7 : aa6 x 56 = aa6 x 48 + adt (x / 281474976710656 % 256) := ab4 x 48
 have e6 : aa6 x 48 = aa6 x 40 + adt (x / 1099511627776 % 256) := ab4 x 40
 have e5 : aa6 x 40 = aa6 x 32 + adt (x / 4294967296 % 256) := ab4 x 32
 have e4 : aa6 x 32 = aa6 x 24 + adt (x / 16777216 % 256) := ab4 x 24
 have e3 : aa6 x 24 = aa6 x 16 + adt (x / 65536 % 256) := ab4 x 16
 have e2 : aa6 x 16 = aa6 x 8 + adt (x / 256 % 256) := ab4 x 8
 have e1 : aa6 x 8 = adt (x % 256) := by
  have := ab4 x 0
  rw [show aa6 x 0 = 0 from rfl, Nat.pow_zero, Nat.div_one, Nat.zero_add, Nat.zero_add] at this
  exact this
 simp only [as1, List.sum_cons, List.sum_nil]
 omega
set_option maxRecDepth 100000 in
theorem ayx (c : Nat) : ∀ (l : List Nat), (∀ d ∈ l, d ≤ c) → nB l ≤ rep c l
 | [], _ => by simp [nB, rep]
 | d :: r, h => by
  have h1 := h d (by simp)
  have h2 := ayx c r fun x hx => h x (by simp [hx])
  simp only [nB, rep, List.map_cons] at h2 ⊢
  omega
set_option maxRecDepth 100000 in
theorem azo (x : Nat) : rep 85 (abn x) = 6148914691236517205 := by simp [rep, abn, nB]
set_option maxRecDepth 100000 in
theorem azz (x : Nat) : rep 51 ((abn x).map s1) = 3689348814741910323 := by simp [rep, abn, nB]
set_option maxRecDepth 100000 in
theorem azw (x : Nat) : rep 15 (((abn x).map s1).map s2) = 1085102592571150095 := by simp [rep, abn, nB]
set_option maxRecDepth 100000 in
theorem azn (x : Nat) : rep 68 (((abn x).map s1).map s2) = 4919131752989213764 := by simp [rep, abn, nB]
set_option maxRecDepth 100000 in
theorem azp (x y z v : Nat) (hx : x < 18446744073709551616) (hy : y = (x / 2 &&& 6148914691236517205) + (x &&& 6148914691236517205)) (hz : z = (y / 4 &&& 3689348814741910323) + (y &&& 3689348814741910323)) (hv : v = (z / 16 + z) &&& 1085102592571150095) :
  y < 18446744073709551616 ∧ z < 18446744073709551616 ∧ z / 16 + z < 18446744073709551616 ∧ v = nB (as1 x) := by
 have ey : y = nB ((abn x).map s1) := by
  rw [hy, ← azx _ (ah8 x), axb x hx, azo]
 have hb1 : ∀ d ∈ (abn x).map s1, d < 256 := by
  intro d hd; obtain ⟨c, hc, rfl⟩ := List.mem_map.1 hd; exact t1b c (ah8 x c hc)
 have ez : z = nB (((abn x).map s1).map s2) := by
  rw [hz, ← azh _ hb1, ← ey, azz]
 have hb2 : ∀ d ∈ ((abn x).map s1).map s2, d < 256 ∧ d % 16 ≤ 4 ∧ d / 16 ≤ 4 := by
  intro d hd
  rw [List.map_map] at hd
  obtain ⟨c, hc, rfl⟩ := List.mem_map.1 hd
  exact t2b c (ah8 x c hc)
 have ev : v = nB ((((abn x).map s1).map s2).map s3) := by
  rw [hv, ← azj _ hb2, ← ez, azw]
 have hp : (((abn x).map s1).map s2).map s3 = as1 x := by
  have h := fun d hd => (azs d (ah8 x d hd)).1
  rw [List.map_map, List.map_map]
  have : (abn x).map (s3 ∘ s2 ∘ s1) = (abn x).map adt := List.map_congr_left fun d hd => h d hd
  exact this
 have ly := axo _ hb1
 have lz := axo _ fun d hd => (hb2 d hd).1
 rw [← ey] at ly
 rw [← ez] at lz
 have l1 : ((abn x).map s1).length = 8 := rfl
 have l2 : (((abn x).map s1).map s2).length = 8 := rfl
 rw [l1] at ly
 rw [l2] at lz
 have ep : (256 : Nat) ^ 8 = 18446744073709551616 := rfl
 rw [ep] at ly lz
 refine ⟨ly, lz, ?_, ?_⟩
 ·have h68 := ayx 68 _ fun d hd => by have := hb2 d hd; omega
  rw [azn, ← ez] at h68
  omega
 ·rw [ev, hp]
set_option maxRecDepth 100000 in
theorem az4 (p0 p1 p2 p3 p4 p5 p6 p7 v a b : Nat) (h0 : p0 ≤ 8) (h1 : p1 ≤ 8) (h2 : p2 ≤ 8) (h3 : p3 ≤ 8) (h4 : p4 ≤ 8) (h5 : p5 ≤ 8) (h6 : p6 ≤ 8) (h7 : p7 ≤ 8)
  (hv : v = p0 + 256 * (p1 + 256 * (p2 + 256 * (p3 + 256 * (p4 + 256 * (p5 + 256 * (p6 + 256 * p7))))))) (ha : a = v + v / 256) (hb : b = a + a / 65536) :
  a < 9223372036854775808 ∧ b < 9223372036854775808 ∧ b + b / 4294967296 < 9223372036854775808 ∧ (b + b / 4294967296) % 128 = p0 + p1 + p2 + p3 + p4 + p5 + p6 + p7 := by
 have ea : a = (p0 + p1) + 256 * ((p1 + p2) + 256 * ((p2 + p3) + 256 * ((p3 + p4) + 256 * ((p4 + p5) + 256 * ((p5 + p6) + 256 * ((p6 + p7) + 256 * p7)))))) := by omega
 have ea2 : a / 65536 = (p2 + p3) + 256 * ((p3 + p4) + 256 * ((p4 + p5) + 256 * ((p5 + p6) + 256 * ((p6 + p7) + 256 * p7)))) := by omega
 have eb : b = (p0 + p1 + p2 + p3) + 256 * ((p1 + p2 + p3 + p4) + 256 * ((p2 + p3 + p4 + p5) + 256 * ((p3 + p4 + p5 + p6) + 256 * ((p4 + p5 + p6 + p7) + 256 * ((p5 + p6 + p7) + 256 * ((p6 + p7) + 256 * p7)))))) := by omega
 have eb2 : b / 4294967296 = (p4 + p5 + p6 + p7) + 256 * ((p5 + p6 + p7) + 256 * ((p6 + p7) + 256 * p7)) := by clear ea ea2 ha hb hv; omega
 refine ⟨by clear ha hb eb eb2; omega, by clear ha hb ea ea2; omega, by clear ha hb ea ea2; omega, ?_⟩
 clear ha hb ea ea2 hv
 omega
set_option maxRecDepth 100000 in
theorem ax3 (x : Nat) : ∃ p0 p1 p2 p3 p4 p5 p6 p7 : Nat, p0 ≤ 8 ∧ p1 ≤ 8 ∧ p2 ≤ 8 ∧ p3 ≤ 8 ∧ p4 ≤ 8 ∧ p5 ≤ 8 ∧ p6 ≤ 8 ∧ p7 ≤ 8 ∧
  nB (as1 x) = p0 + 256 * (p1 + 256 * (p2 + 256 * (p3 + 256 * (p4 + 256 * (p5 + 256 * (p6 + 256 * p7)))))) ∧ p0 + p1 + p2 + p3 + p4 + p5 + p6 + p7 = aa6 x 64 := by
 have hp : ∀ d, adt (d % 256) ≤ 8 := fun d => (azs (d % 256) (Nat.mod_lt _ (by omega))).2
 refine ⟨_, _, _, _, _, _, _, _, hp x, hp (x / 256), hp (x / 65536), hp (x / 16777216), hp (x / 4294967296), hp (x / 1099511627776), hp (x / 281474976710656), hp (x / 72057594037927936), ?_, ?_⟩
 ·simp only [as1, nB, Nat.mul_zero, Nat.add_zero]
 ·rw [← aw3]; simp only [as1, List.sum_cons, List.sum_nil, Nat.add_zero, Nat.add_assoc]
set_option maxRecDepth 100000 in
theorem aug (x y z v a b c : Nat) (hx : x < 18446744073709551616) (hy : y = (x / 2 &&& 6148914691236517205) + (x &&& 6148914691236517205)) (hz : z = (y / 4 &&& 3689348814741910323) + (y &&& 3689348814741910323)) (hv : v = (z / 16 + z) &&& 1085102592571150095)
  (ha : a = v + v / 256) (hb : b = a + a / 65536) (hc : c = b + b / 4294967296) :
  y < 18446744073709551616 ∧ z < 18446744073709551616 ∧ z / 16 + z < 18446744073709551616 ∧ v < 18446744073709551616 ∧ a < 9223372036854775808 ∧ b < 9223372036854775808 ∧ c < 9223372036854775808 ∧ c % 128 = aa6 x 64 := by
 obtain ⟨s1, s2, s3, s4⟩ := azp x y z v hx hy hz hv
 obtain ⟨p0, p1, p2, p3, p4, p5, p6, p7, h0, h1, h2, h3, h4, h5, h6, h7, e, hs⟩ := ax3 x
 rw [e] at s4
 obtain ⟨f1, f2, f3, f4⟩ := az4 p0 p1 p2 p3 p4 p5 p6 p7 v a b h0 h1 h2 h3 h4 h5 h6 h7 s4 ha hb
 rw [← hc] at f3 f4
 exact ⟨s1, s2, s3, by clear f4 hy hz hv hs hb hc f3 f2 f1 s3 s2 s1 hx ha e; omega, f1, f2, f3, f4.trans hs⟩
set_option maxRecDepth 100000 in
theorem azg (k : Nat) (hk : k < 9223372036854775808) : bits .and .i64 (k : Int) 127 = ((k % 128 : Nat) : Int) := by
 have h1 : (BitVec.ofInt 64 (k : Int)).toNat = k := by rw [BitVec.ofInt_natCast]; simp; omega
 have h2 : (BitVec.ofInt 64 (127 : Int)).toNat = 127 := by decide
 show IntKind.i64.wrap ((BitVec.ofInt 64 (k : Int) &&& BitVec.ofInt 64 (127 : Int)).toNat : Int) = _
 rw [BitVec.toNat_and, h1, h2, show (127 : Nat) = 2 ^ 7 - 1 from rfl, Nat.and_two_pow_sub_one_eq_mod]
 have : k % 128 < 128 := Nat.mod_lt _ (by omega)
 exact IntWalk.i64_in _ ⟨by omega, by omega⟩
set_option maxRecDepth 100000 in
theorem avj (n : Nat) (h : n < 18446744073709551616) : IntKind.u64.wrap (n : Int) = n := IntWalk.u64_in _ ⟨by omega, by omega⟩
set_option maxRecDepth 100000 in
theorem aw7 (x : Nat) (hx : x < 18446744073709551616) (Y Z V A B C : Int)
  (hY : Y = IntKind.u64.wrap (bits .and .u64 ((x : Int) / 2) 6148914691236517205 + bits .and .u64 (x : Int) 6148914691236517205))
  (hZ : Z = IntKind.u64.wrap (bits .and .u64 (Y / 4) 3689348814741910323 + bits .and .u64 Y 3689348814741910323))
  (hV : V = bits .and .u64 (IntKind.u64.wrap (Z / 16 + Z)) 1085102592571150095)
  (hA : A = IntKind.u64.wrap (V + V / 256)) (hB : B = IntKind.u64.wrap (A + A / 65536)) (hC : C = IntKind.u64.wrap (B + B / 4294967296)) :
  bits .and .i64 (wrap64 C) 127 = (aa6 x 64 : Nat) := by
 obtain ⟨f1, f2, f3, f4, f5, f6, f7, f8⟩ := aug x _ _ _ _ _ _ hx rfl rfl rfl rfl rfl rfl
 have eY : Y = ((x / 2 &&& 6148914691236517205) + (x &&& 6148914691236517205) : Nat) := by
  rw [hY, show ((x : Int) / 2) = ((x / 2 : Nat) : Int) from rfl, show (6148914691236517205 : Int) = ((6148914691236517205 : Nat) : Int) from rfl,
   bits_and_u64_nat _ _ (by omega) (by omega), bits_and_u64_nat _ _ hx (by omega), ← Int.natCast_add, avj _ f1]
 generalize (x / 2 &&& 6148914691236517205) + (x &&& 6148914691236517205) = y at *
 have eZ : Z = ((y / 4 &&& 3689348814741910323) + (y &&& 3689348814741910323) : Nat) := by
  rw [hZ, eY, show ((y : Int) / 4) = ((y / 4 : Nat) : Int) from rfl, show (3689348814741910323 : Int) = ((3689348814741910323 : Nat) : Int) from rfl,
   bits_and_u64_nat _ _ (by omega) (by omega), bits_and_u64_nat _ _ f1 (by omega), ← Int.natCast_add, avj _ f2]
 generalize (y / 4 &&& 3689348814741910323) + (y &&& 3689348814741910323) = z at *
 have eV : V = ((z / 16 + z &&& 1085102592571150095 : Nat) : Int) := by
  rw [hV, eZ, show ((z : Int) / 16) = ((z / 16 : Nat) : Int) from rfl, ← Int.natCast_add, avj _ f3, show (1085102592571150095 : Int) = ((1085102592571150095 : Nat) : Int) from rfl,
   bits_and_u64_nat _ _ f3 (by omega)]
 generalize (z / 16 + z &&& 1085102592571150095) = v at *
 have eA : A = (v + v / 256 : Nat) := by
  rw [hA, eV, show ((v : Int) / 256) = ((v / 256 : Nat) : Int) from rfl, ← Int.natCast_add, avj _ (by omega)]
 generalize v + v / 256 = a at *
 have eB : B = (a + a / 65536 : Nat) := by
  rw [hB, eA, show ((a : Int) / 65536) = ((a / 65536 : Nat) : Int) from rfl, ← Int.natCast_add, avj _ (by omega)]
 generalize a + a / 65536 = b at *
 have eC : C = (b + b / 4294967296 : Nat) := by
  rw [hC, eB, show ((b : Int) / 4294967296) = ((b / 4294967296 : Nat) : Int) from rfl, ← Int.natCast_add, avj _ (by omega)]
 generalize b + b / 4294967296 = c at *
 rw [eC, IntWalk.wrap64_in _ ⟨by omega, by omega⟩, azg _ f7, f8]
set_option maxRecDepth 100000 in
set_option maxHeartbeats 400000 in
theorem av1 (x : Nat) (hx : x < 18446744073709551616) : aek Tryd.prog 149 #[.int .u64 x] (.int .i64 (aa6 x 64)) := by
 intro w
 rw [← aw7 x hx _ _ _ _ _ _ rfl rfl rfl rfl rfl rfl]
 clear hx
 go_enter Tryd.func149, Tryd.ntmps149
 go_wp2
 go_ret
 exact ⟨rfl, Below.refl _ _⟩
set_option maxRecDepth 100000 in
theorem agc (s : CS) (k : Nat) : aa6 (wdN s k) 64 = (List.range 64).countP fun i => s.getLsbD (64 * k + i) := by
 unfold aa6
 apply List.countP_congr
 intro i hi
 rw [af4]
 simp [List.mem_range.1 hi]
set_option maxRecDepth 100000 in
theorem aop (f : Nat → Bool) (a b : Nat) : (List.range (a + b)).countP f = (List.range a).countP f + (List.range b).countP (fun i => f (a + i)) := by
 rw [List.range_add, List.countP_append, List.countP_map]; rfl
set_option maxRecDepth 100000 in
theorem ax6 (f : Nat → Bool) : (List.range 256).countP f = (List.range 64).countP f + (List.range 64).countP (fun i => f (64 + i)) + (List.range 64).countP (fun i => f (64 * 2 + i)) + (List.range 64).countP (fun i => f (64 * 3 + i)) := by
 have e1 : (List.range 256).countP f = (List.range 192).countP f + (List.range 64).countP (fun i => f (64 * 3 + i)) := aop f 192 64
 have e2 : (List.range 192).countP f = (List.range 128).countP f + (List.range 64).countP (fun i => f (64 * 2 + i)) := aop f 128 64
 have e3 : (List.range 128).countP f = (List.range 64).countP f + (List.range 64).countP (fun i => f (64 + i)) := aop f 64 64
 rw [e1, e2, e3]
def u7 (s : CS) : Nat := (List.range 256).countP fun i => s.getLsbD i
set_option maxRecDepth 100000 in
theorem ant (s : CS) : aa6 (wdN s 0) 64 + aa6 (wdN s 1) 64 + aa6 (wdN s 2) 64 + aa6 (wdN s 3) 64 = u7 s := by
 unfold u7
 rw [ax6 s.getLsbD, agc, agc, agc, agc]
 simp only [Nat.mul_zero, Nat.zero_add, Nat.mul_one]
end Go.Proofs.YtohnchdnkbadaaaDoor
namespace Go.Proofs.YtohnchdnkbadaaaDoor
open Go Go.RowKit
def agl (s : CS) : Nat → Nat
 | 0 => 0
 | k + 1 => agl s k + aa6 (wdN s k) 64
set_option maxRecDepth 100000 in
theorem atr (x n : Nat) : aa6 x n ≤ n := by
 have := List.countP_le_length (p := fun i => x.testBit i) (l := List.range n)
 simpa [aa6] using this
set_option maxRecDepth 100000 in
theorem awx (s : CS) (k : Nat) : agl s k ≤ 64 * k := by
 induction k with
 | zero => simp [agl]
 | succ k ih => have := atr (wdN s k) 64; simp only [agl]; omega
set_option maxRecDepth 100000 in
theorem ayo (s : CS) : agl s 4 = u7 s := by
 rw [← ant]; simp only [agl]; omega
set_option maxRecDepth 100000 in
theorem alq (s : CS) : aek Tryd.prog 122 #[.agg (o3 s)] (.int .i64 (u7 s)) := by
 intro w
 have H1 := Lib.hid (heap_alloc_new w (.cells (o3 s) 84))
 have hb1 : Below w.heap.size w (w.alloc (.cells (o3 s) 84)) := (Below.refl _ _).alloc (Nat.le_refl _) _
 go_enter Tryd.func122, Tryd.ntmps122
 go_wp2_with (first | (with_reducible refine aa7 (d := 6) ?_) | fail)
 unfold Hid
 generalize w.alloc (.cells (o3 s) 84) = W1 at H1 hb1 ⊢
 refine o0 (d := 6) w.heap.size 84 H1.out (afb _) rfl ?_
 simp only [Act.put, List.setIfInBounds_toArray, List.set_cons_zero, List.set_cons_succ]
 go_wp2_with fail
 go_loopw [3, 7] (fun n i wr => ∃ k : Nat, k ≤ 4 ∧ i = .int .i64 k ∧ n = .int .i64 (agl s k) ∧ Below w.heap.size w wr)
  (fun _ i _ => 4 - (intOf i).toNat)
 case atStart => exact ⟨0, by omega, rfl, rfl, hb1⟩
 case round =>
  obtain ⟨k, hk, rfl, rfl, hbel⟩ := hrel
  have hle := awx s k
  by_cases hlt : k < 4
  ·have C1 := Lib.hid (av1 (wdN s k) (ae5 s k))
   obtain ⟨i, hi, hs1⟩ : ∃ i, Tryd.prog.info? 82 = some i ∧ i.size = 1 := ⟨_, rfl, by kernel_rfl⟩
   have hidx : ∀ W, (Instr.index 84 (.agg (o3 s)) (.int .i64 (k : Int))).run Tryd.prog W = .ok (.int .u64 (wd s k)) W := fun W => amg Tryd.underlying84 Tryd.underlying82 (by kernel_rfl) hi hs1 hlt (x4 s k hlt)
   have HS := Lib.hid (show agl s (k + 1) = agl s k + aa6 (wdN s k) 64 from rfl)
   have hcr := atr (wdN s k) 64
   clear hs1 hi
   go_wp2_with fail
   refine (C1.out wr).mono ?_
   rintro e V ⟨rfl, hv⟩
   generalize aa6 (wdN s k) 64 = cr at HS hcr ⊢
   generalize agl s k = ct at HS hle ⊢
   go_wp2
   go_roundw
   case rel => exact ⟨k + 1, by omega, by go_num, by rw [HS.out]; go_num, hbel.trans (hv.mono hbel.size)⟩
   case measure => simp [intOf] <;> omega
  ·have hk4 : k = 4 := by omega
   subst hk4
   rw [ayo]
   generalize hc : u7 s = c
   have HC := Lib.hid hc; clear hc
   go_wp2
   go_ret
   exact ⟨by rw [HC.out]; rfl, hbel⟩
end Go.Proofs.YtohnchdnkbadaaaDoor
namespace Go.Proofs
open Go.Shelf
def Tryd.lays137_ren : Go.Shelf.Ren := ⟨fun | 137 => 135 | 217 => 152 | 266 => 161 | n => n, fun | 9 => 9 | 5 => 5 | 3 => 3 | n => n, fun | n => n⟩
theorem Tryd.lays137 : Go.Proofs.Lays.n137 Tryd.prog Tryd.lays137_ren := {
 mixed := by kernel_rfl
 f137 := Tryd.func135.trans (congrArg some (by kernel_rfl))
 f217 := Tryd.func152.trans (congrArg some (by kernel_rfl))
 f266 := Tryd.func161.trans (congrArg some (by kernel_rfl))
 t3 := Tryd.underlying3
 a3 := Tryd.isAgg3
 z3 := Tryd.sizeOf3
 v3 := Tryd.zeroValue3
 t5 := Tryd.underlying5
 a5 := Tryd.isAgg5
 z5 := Tryd.sizeOf5
 v5 := Tryd.zeroValue5
 t9 := Tryd.underlying9
 a9 := Tryd.isAgg9
 z9 := Tryd.sizeOf9
 v9 := Tryd.zeroValue9 }
open Go.RowKit in
theorem Tryd.strings_IndexByte (s : ByteArray) (c : Int) (w : World) :
  Calls Tryd.prog 135 #[.string s, .int .u8 c] w fun e w' => e = .returned (.int .i64 (Lib.indexByte s.data.toList c.toNat.toUInt8)) ∧ w' = w := Any.strings_IndexByte Tryd.lays137 s c w
end Go.Proofs
namespace Go.Proofs.YtohnchdnkbadaaaDoor
open Go Go.RowKit
def bs (l : List UInt8) : ByteArray := ⟨l.toArray⟩
set_option maxRecDepth 100000 in
theorem d4 (a b : List UInt8) : bs a ++ bs b = bs (a ++ b) := ByteArray.mk_append_mk a b
set_option maxRecDepth 100000 in
theorem e9 (l : List UInt8) : (bs l).size = l.length := by simp [bs, ByteArray.size]
def aba : Array Value := #[.int .u8 110, .int .u8 10, .int .u8 114, .int .u8 13, .int .u8 116, .int .u8 9]
def Esc (w : World) : Prop := ∃ t fr, w.heap[1]? = some (.cells aba t fr)
set_option maxRecDepth 100000 in
theorem Esc.below {w w' : World} (h : Esc w) (hb : Below w.heap.size w w') : Esc w' := by
 obtain ⟨t, fr, h⟩ := h
 exact ⟨t, fr, blk hb h (b6 h)⟩
set_option maxRecDepth 100000 in
theorem Esc.alloc {w : World} (h : Esc w) (o : Obj) : Esc (w.alloc o) := h.below ((Below.refl _ _).alloc (Nat.le_refl _) _)
def aht (f : FuncId) (args : Array Value) (v : Value) : Prop := ∀ w, Esc w → Calls Tryd.prog f args w fun e w' => e = .returned v ∧ Below w.heap.size w w'
def ae0 (n : Nat) : UInt8 := if n < 10 then (48 + n).toUInt8 else (87 + n).toUInt8
def aqp (b : Nat) : Option UInt8 := if b = 10 then some 110 else if b = 13 then some 114 else if b = 9 then some 116 else none
def m5 (b : Nat) (bar : List UInt8) : List UInt8 :=
 match aqp b with
 | some c => [92, c]
 | none => if b < 32 ∨ 126 < b then [92, 120, ae0 (b / 16), ae0 (b % 16)] else if bar.contains b.toUInt8 then [92, b.toUInt8] else [b.toUInt8]
set_option maxRecDepth 100000 in
theorem ayi : RowT Tryd.prog 214 aba.size := ⟨by kernel_rfl, by kernel_rfl⟩
set_option maxRecDepth 100000 in
theorem azm : ∀ w, (Instr.index 214 (.agg aba) (.int .i64 0)).run Tryd.prog w = .ok (.agg #[.int .u8 110, .int .u8 10]) w := fun _ => by kernel_rfl
set_option maxRecDepth 100000 in
theorem az0 : ∀ w, (Instr.index 214 (.agg aba) (.int .i64 1)).run Tryd.prog w = .ok (.agg #[.int .u8 114, .int .u8 13]) w := fun _ => by kernel_rfl
set_option maxRecDepth 100000 in
theorem az1 : ∀ w, (Instr.index 214 (.agg aba) (.int .i64 2)).run Tryd.prog w = .ok (.agg #[.int .u8 116, .int .u8 9]) w := fun _ => by kernel_rfl
set_option maxRecDepth 100000 in
theorem aph (n : Nat) (hn : n < 256) (W : World) (g : Nat) (h : W.cell? ⟨g, 0, none⟩ = some (.int .u8 (n : Int))) :
  (convert 148 9 (.slice (some ⟨g, 0, none⟩) 1 1)).run Tryd.prog W = .ok (.string ⟨#[n.toUInt8]⟩) W := by
 have := run_convert_bytes_back (P := Tryd.prog) W 148 9 5 ⟨g, 0, none⟩ 1 [n.toUInt8] Tryd.underlying148 Tryd.underlying5 Tryd.underlying9 (fun j hj => by
  have hj0 : j = 0 := by simpa using hj
  subst hj0
  rw [show (⟨g, 0, none⟩ : Addr).add 0 = ⟨g, 0, none⟩ from rfl, h]
  have : n.toUInt8.toNat = n := by simp; omega
  simp [this])
 exact this
set_option maxRecDepth 100000 in
theorem al2 {b : Nat} (h1 : b ≠ 10) (h2 : b ≠ 13) (h3 : b ≠ 9) : aqp b = none := by unfold aqp; rw [if_neg h1, if_neg h2, if_neg h3]
set_option maxRecDepth 100000 in
theorem as2 (b : Nat) (hb : b = 10 ∨ b = 13 ∨ b = 9) (bar : ByteArray) : aht 124 #[.int .u8 b, .string bar] (.string (bs (m5 b bar.data.toList))) := by
 intro w hE
 obtain ⟨te, fre, hE⟩ := hE
 have H := Lib.hid hE
 clear hE
 have h0 := azm
 have h1 := az0
 have h2 := az1
 have c0 := aph 110 (by omega)
 have c1 := aph 114 (by omega)
 have c2 := aph 116 (by omega)
 rcases hb with rfl | rfl | rfl
 ·go_enter Tryd.func124, Tryd.ntmps124
  go_wp2_with (first | ((with_reducible refine o0 (d := 7) (x := .global 1) 1 _ H.out ayi ?_ ?_); rfl) | fail)
  refine wp_loop_rounds 1 ?_
  rw [rounds_succ]
  go_wp2
  go_ret
  exact ⟨rfl, ((Below.refl _ _).alloc (Nat.le_refl _) _).alloc (by simp) _⟩
 ·go_enter Tryd.func124, Tryd.ntmps124
  go_wp2_with (first | ((with_reducible refine o0 (d := 7) (x := .global 1) 1 _ H.out ayi ?_ ?_); rfl) | fail)
  refine wp_loop_rounds 2 ?_
  rw [rounds_succ]
  go_wp2
  rw [rounds_succ]
  go_wp2
  go_ret
  exact ⟨rfl, (((Below.refl _ _).alloc (Nat.le_refl _) _).alloc (by simp) _).alloc (by simp; omega) _⟩
 ·go_enter Tryd.func124, Tryd.ntmps124
  go_wp2_with (first | ((with_reducible refine o0 (d := 7) (x := .global 1) 1 _ H.out ayi ?_ ?_); rfl) | fail)
  refine wp_loop_rounds 3 ?_
  rw [rounds_succ]
  go_wp2
  rw [rounds_succ]
  go_wp2
  rw [rounds_succ]
  go_wp2
  go_ret
  exact ⟨rfl, ((((Below.refl _ _).alloc (Nat.le_refl _) _).alloc (by simp) _).alloc (by simp; omega) _).alloc (by simp; omega) _⟩
def ajg : ByteArray := ⟨#[48, 49, 50, 51, 52, 53, 54, 55, 56, 57, 97, 98, 99, 100, 101, 102]⟩
set_option maxRecDepth 100000 in
theorem aze : ∀ n, n < 16 → (ajg.extract n (n + 1)).data.toList = [ae0 n] := by decide +kernel
set_option maxRecDepth 100000 in
theorem amy (n : Nat) (hn : n < 16) (x : Int) (hx : x = n) (W : World) :
  (Instr.slice 9 (.string ajg) (some (.int .u8 x)) (some (.int .u8 (x + 1))) none).run Tryd.prog W = .ok (.string ⟨#[ae0 n]⟩) W := by
 subst hx
 have h := run_slice_string (P := Tryd.prog) W 9 ajg .u8 .u8 (n : Int) ((n : Int) + 1) Tryd.underlying9 (by omega) (by omega) (by show (n : Int) + 1 ≤ 16; omega)
 rw [h, show ((n : Int)).toNat = n from rfl, show ((n : Int) + 1).toNat = n + 1 from by omega]
 congr 2
 apply ByteArray.ext
 apply Array.toList_inj.1
 rw [aze n hn]
set_option maxRecDepth 100000 in
theorem aef (l : List UInt8) (c : UInt8) : (0 ≤ Lib.indexByte l c) ↔ l.contains c = true := by
 induction l with
 | nil => simp [Lib.indexByte]
 | cons b l ih =>
  have hge := Lib.indexByte_ge l c
  rw [List.contains_cons]
  simp only [Lib.indexByte]
  by_cases h : b = c
  ·subst h; simp
  ·have h1 : ¬ (b == c) = true := by simpa using h
   have h2 : (c == b) = false := by simpa using fun e : c = b => h e.symm
   rw [if_neg h1, h2, Bool.false_or, ← ih]
   by_cases h3 : Lib.indexByte l c = -1
   ·simp [h3]
   ·have h4 : ¬ (Lib.indexByte l c == -1) = true := by simpa using h3
    rw [if_neg h4]
    omega
set_option maxRecDepth 100000 in
theorem aov {w : World} (x y z : Obj) : Below w.heap.size w (((w.alloc x).alloc y).alloc z) := (((Below.refl _ _).alloc (Nat.le_refl _) _).alloc (by simp) _).alloc (by simp; omega) _
set_option maxRecDepth 100000 in
theorem anz (b : Nat) (hb : b < 256) (e1 : b ≠ 10) (e2 : b ≠ 13) (e3 : b ≠ 9) (bar : ByteArray) : aht 124 #[.int .u8 b, .string bar] (.string (bs (m5 b bar.data.toList))) := by
 intro w hE
 obtain ⟨te, fre, hE⟩ := hE
 have H := Lib.hid hE
 clear hE
 have h0 := azm
 have h1 := az0
 have h2 := az1
 have d1 : ((10 : Int) == (b : Int)) = false := by simp; omega
 have d2 : ((13 : Int) == (b : Int)) = false := by simp; omega
 have d3 : ((9 : Int) == (b : Int)) = false := by simp; omega
 have HN := Lib.hid (al2 e1 e2 e3)
 clear e1 e2 e3
 go_enter Tryd.func124, Tryd.ntmps124
 go_wp2_with (first | ((with_reducible refine o0 (d := 7) (x := .global 1) 1 _ H.out ayi ?_ ?_); rfl) | fail)
 refine wp_loop_rounds 4 ?_
 rw [rounds_succ]
 go_wp2
 rw [rounds_succ]
 go_wp2
 rw [rounds_succ]
 go_wp2
 rw [rounds_succ]
 have hbel := aov (w := w) (.cells #[.int .u8 110, .int .u8 10] 213) (.cells #[.int .u8 114, .int .u8 13] 213) (.cells #[.int .u8 116, .int .u8 9] 213)
 by_cases hout : b < 32 ∨ 126 < b
 ·have hfin : m5 b bar.data.toList = [92, 120, ae0 (b / 16), ae0 (b % 16)] := by unfold m5; rw [HN.out]; simp [hout]
  have HF := Lib.hid hfin
  clear hfin
  have hs1 := amy (b / 16) (by omega) ((b : Int) / 16) (by omega)
  have hs2 := amy (b % 16) (by omega) ((b : Int) % 16) (by omega)
  unfold ajg at hs1 hs2
  clear d1 d2 d3
  rcases hout with hlo | hhi
  all_goals
   go_wp2
   generalize ((w.alloc (.cells #[.int .u8 110, .int .u8 10] 213)).alloc (.cells #[.int .u8 114, .int .u8 13] 213)).alloc (.cells #[.int .u8 116, .int .u8 9] 213) = W at hbel ⊢
   refine ale (fun w' => w' = W.drew) (by kernel_rfl) (by kernel_rfl) rfl ?_
   repeat
    refine ad0 ?_ rfl (fun w' hS => ?_) ?_
    rotate_left
    ·have hS' : w' = W.drew := hS
     subst hS'
     go_simp
     try go_bits
     exact ad1 (P := Tryd.prog) rfl
    simp only [Act.put, List.setIfInBounds_toArray, List.set_cons_zero, List.set_cons_succ]
   refine aev ?_
   intro w' hS
   obtain rfl := hS
   go_wp2
   go_ret
   refine ⟨?_, hbel.drew⟩
   rw [HF.out]
   show Ending.returned (.string (ByteArray.mk [92, 120].toArray ++ ByteArray.mk [ae0 (b / 16)].toArray ++ ByteArray.mk [ae0 (b % 16)].toArray)) = _
   rw [ByteArray.mk_append_mk, ByteArray.mk_append_mk]
   rfl
 ·have n1 : ¬ b < 32 := by omega
  have n2 : ¬ 126 < b := by omega
  have hu : ((b : Int)).toNat.toUInt8 = b.toUInt8 := by simp
  have hix := aef bar.data.toList b.toUInt8
  have C := Lib.hid (Tryd.strings_IndexByte bar (b : Int))
  have cb := aph b hb
  cases hc : bar.data.toList.contains b.toUInt8
  ·have HF := Lib.hid (show m5 b bar.data.toList = [b.toUInt8] by unfold m5; rw [HN.out]; simp only; rw [if_neg hout, hc]; rfl)
   rw [hc] at hix
   have HX := Lib.hid hix
   clear hix hc hout
   go_wp2_with fail
   generalize ((w.alloc (.cells #[.int .u8 110, .int .u8 10] 213)).alloc (.cells #[.int .u8 114, .int .u8 13] 213)).alloc (.cells #[.int .u8 116, .int .u8 9] 213) = W at hbel ⊢
   refine (C.out W).mono ?_
   rw [hu]
   rintro e w' ⟨rfl, rfl⟩
   have hd := HX.out
   generalize Lib.indexByte bar.data.toList b.toUInt8 = ix at hd ⊢
   have hd' : ¬ (0 : Int) ≤ ix := fun h => by have := hd.1 h; cases this
   clear hd hu
   go_wp2
   go_ret
   exact ⟨by rw [HF.out]; rfl, hbel.alloc hbel.size _⟩
  ·have HF := Lib.hid (show m5 b bar.data.toList = [92, b.toUInt8] by unfold m5; rw [HN.out]; simp only; rw [if_neg hout, hc]; rfl)
   rw [hc] at hix
   have HX := Lib.hid hix
   clear hix hc hout
   go_wp2_with fail
   generalize ((w.alloc (.cells #[.int .u8 110, .int .u8 10] 213)).alloc (.cells #[.int .u8 114, .int .u8 13] 213)).alloc (.cells #[.int .u8 116, .int .u8 9] 213) = W at hbel ⊢
   refine (C.out W).mono ?_
   rw [hu]
   rintro e w' ⟨rfl, rfl⟩
   have hd := HX.out
   generalize Lib.indexByte bar.data.toList b.toUInt8 = ix at hd ⊢
   have hd' : (0 : Int) ≤ ix := hd.2 trivial
   clear hd hu
   go_wp2
   go_ret
   exact ⟨by rw [HF.out]; rfl, hbel.alloc hbel.size _⟩
set_option maxRecDepth 100000 in
theorem aak (b : Nat) (hb : b < 256) (bar : ByteArray) : aht 124 #[.int .u8 b, .string bar] (.string (bs (m5 b bar.data.toList))) := by
 by_cases h : b = 10 ∨ b = 13 ∨ b = 9
 ·exact as2 b h bar
 ·exact anz b hb (by omega) (by omega) (by omega) bar
end Go.Proofs.YtohnchdnkbadaaaDoor
namespace Go.Proofs.YtohnchdnkbadaaaDoor
open Go Go.ChangeShapes Go.WideShapes Go.RowKit
abbrev adw : List (String × DataW Unit) := [("loupe/class.escapes", Rows.laid_loupe_class_escapes)]
set_option maxRecDepth 100000 in
theorem aj8 : Tryd.prog.globalNamed "loupe/class.escapes" = some 1 := by kernel_rfl
set_option maxRecDepth 100000 in
theorem aw4 : (Tryd.prog.globals[1]?).map (·.type) = some 214 := by kernel_rfl
set_option maxRecDepth 100000 in
theorem akr (W : World) : laidMetH Tryd.prog adw W = laidMet Tryd.prog adw W := by kernel_rfl
set_option maxRecDepth 100000 in
theorem aja {H : Type} {enc : TypeId × Value → H} {P : Program} {w : World} {base : Nat} {sp : Nat → Bool} {held : Bool} {fuel : Nat} {t : TypeId} {k : IntKind} {c : Value} {y : DataW H × List MemPlace}
  (ht : P.underlying t = some (.int k)) (h : DataW.trod enc P w base sp held fuel t [c] = some y) : ∃ n, c = .int k n ∧ y = (.lit (.int k n), []) := by
 cases fuel with
 | zero => simp [DataW.trod] at h
 | succ fuel =>
  cases c <;> simp [DataW.trod, ht] at h
  rename_i k' n
  obtain ⟨⟨rfl, _⟩, rfl⟩ := h
  exact ⟨n, rfl, rfl⟩
set_option maxRecDepth 100000 in
theorem ay5 : Tryd.prog.cellsOf 214 = 6 := by kernel_rfl
set_option maxRecDepth 100000 in
theorem aws : Tryd.prog.cellsOf 213 = 2 := by kernel_rfl
set_option maxRecDepth 100000 in
theorem ay8 : Tryd.prog.cellsOf 5 = 1 := by kernel_rfl
set_option maxRecDepth 100000 in
theorem aes {W : World} {fuel : Nat} {a b : Value} {y : DataW Unit × List MemPlace}
  (h : DataW.trod (fun _ => ()) Tryd.prog W 0 (fun _ => true) false fuel 213 [a, b] = some y) : ∃ n m, a = .int .u8 n ∧ b = .int .u8 m ∧ y = (.agg [.lit (.int .u8 n), .lit (.int .u8 m)], []) := by
 cases fuel with
 | zero => simp [DataW.trod] at h
 | succ fuel =>
  simp only [DataW.trod, Tryd.underlying213] at h
  rw [if_pos (by rw [aws]; rfl)] at h
  simp only [Option.map_eq_some_iff, List.mapM_cons, List.mapM_nil, Option.bind_eq_bind, Option.bind_eq_some_iff, Option.pure_def, Option.some.injEq, ay8] at h
  obtain ⟨xs, ⟨y0, h0, _, ⟨y1, h1, _, rfl, rfl⟩, rfl⟩, hx⟩ := h
  obtain ⟨n, rfl, rfl⟩ := aja Tryd.underlying5 h0
  obtain ⟨m, rfl, rfl⟩ := aja Tryd.underlying5 h1
  exact ⟨n, m, rfl, rfl, hx.symm⟩
set_option maxRecDepth 100000 in
theorem amf {W : World} (h : laidMet Tryd.prog adw W) : W.var? Tryd.prog "loupe/class.escapes" = some aba := by
 obtain ⟨ps, ⟨g, t, cs, fuel, p, q, hg, ht, hvar, hd, _, _⟩, _⟩ := h
 obtain rfl := Option.some.inj (aj8.symm.trans hg)
 obtain rfl := Option.some.inj (aw4.symm.trans ht)
 rw [hvar]
 congr 1
 obtain ⟨l⟩ := cs
 cases fuel with
 | zero => simp [DataW.trod] at hd
 | succ fuel =>
  simp only [DataW.trod, Tryd.underlying214, ay5, aws] at hd
  split at hd
  ·rename_i hl
   obtain ⟨c0, c1, c2, c3, c4, c5, rfl⟩ : ∃ c0 c1 c2 c3 c4 c5, l = [c0, c1, c2, c3, c4, c5] := by
    match l, hl with
    | [a, b, c, d, e, f], _ => exact ⟨a, b, c, d, e, f, rfl⟩
   have e : List.range 3 = [0, 1, 2] := rfl
   rw [e] at hd
   simp only [Option.map_eq_some_iff, List.mapM_cons, List.mapM_nil, Option.bind_eq_bind, Option.bind_eq_some_iff, Option.pure_def, Option.some.injEq] at hd
   obtain ⟨xs, ⟨y0, h0, _, ⟨y1, h1, _, ⟨y2, h2, _, rfl, rfl⟩, rfl⟩, rfl⟩, hx⟩ := hd
   obtain ⟨n0, m0, rfl, rfl, rfl⟩ := aes h0
   obtain ⟨n1, m1, rfl, rfl, rfl⟩ := aes h1
   obtain ⟨n2, m2, rfl, rfl, rfl⟩ := aes h2
   simp [Rows.laid_loupe_class_escapes] at hx
   obtain ⟨⟨⟨rfl, rfl⟩, ⟨rfl, rfl⟩, rfl, rfl⟩, _⟩ := hx
   rfl
  ·cases hd
set_option maxRecDepth 100000 in
theorem ap7 {W : World} (h : laidMetH Tryd.prog adw W) : Esc W := by
 rw [akr] at h
 have hc := amf h
 unfold World.var? at hc
 rw [aj8] at hc
 simp only [Option.bind_some] at hc
 split at hc
 ·rename_i cs t fr hg
  obtain rfl := Option.some.inj hc
  exact ⟨t, fr, hg⟩
 ·cases hc
noncomputable def aik (os : Os) : World :=
 { World.holding Tryd.prog os ⟨#[], #[], []⟩ with heap := (World.holding Tryd.prog os ⟨#[], #[], []⟩).heap.modify 1 fun
   | .cells _ t frozen => .cells aba t frozen
   | o => o }
set_option maxRecDepth 100000 in
theorem agn (os : Os) (args : Array Value) : ((aik os).forCall (fun _ _ => 0) ⟨#[], args, []⟩).memory.heap[1]? = some (.cells aba 214 (0, 0)) := by kernel_rfl
end Go.Proofs.YtohnchdnkbadaaaDoor
namespace Go.Proofs.YtohnchdnkbadaaaDoor
open Go Go.RowKit
abbrev o7 := Nat → Nat
abbrev Fam := o7 → Act
def Fam.put (A : Fam) (d : Option Tmp) (v : o7 → Value) : Fam := fun β => (A β).put d (v β)
section
variable {P : Program} {ops : Array Oper} {md : Region.Mode} {B : Nat} {w0 : World} {Zs : Nat → Option Obj}
def ain (P : Program) (v : Value) (w : World) : Result Next → Prop
 | .ok (.value u) w' => u = v ∧ Below w.heap.size w w'
 | .ok .skip w' => undef = v ∧ Below w.heap.size w w'
 | .ok (.enter f args) w' => Calls P f args w' fun e w'' => e = .returned v ∧ Below w.heap.size w w''
 | _ => False
def s6 (P : Program) (ops : Array Oper) (B : Nat) (w0 : World) (Zs : Nat → Option Obj) (i : Nat) (o : Oper) (v : o7 → Value) (A : Fam) : Prop :=
 (∃ Z, ∃ f : Nat → Value, Zs i = some Z ∧ v = (fun β => f (β i)) ∧ ∀ β, Region.wanted o (yielded ops (A β).tmps) = true ∧ ∀ w, Below B w0 w → (execOp (A β).eval o).run P w = .ok (.value (f w.heap.size)) (w.alloc Z)) ∨
 (Zs i = none ∧ ∃ u, v = (fun _ => u) ∧ ∀ β, (Region.wanted o (yielded ops (A β).tmps) = true ∧ ∀ w, Below B w0 w → ain P u w ((execOp (A β).eval o).run P w)) ∨
  (Region.wanted o (yielded ops (A β).tmps) = false ∧ u = undef))
theorem s6.of_same {i : Nat} {o : Oper} {v : o7 → Value} {A A' : Fam} (hy : s6 P ops B w0 Zs i o v A) (he : ∀ β, execOp (A' β).eval o = execOp (A β).eval o)
  (hw : ∀ β, Region.wanted o (yielded ops (A' β).tmps) = Region.wanted o (yielded ops (A β).tmps)) : s6 P ops B w0 Zs i o v A' := by
 unfold s6 at *; simp only [he, hw]; exact hy
def flOpA (P : Program) (ops : Array Oper) (B : Nat) (w0 : World) (Zs : Nat → Option Obj) (i : Nat) (K : Fam → Prop) (A : Fam) : Prop :=
 match ops[i]? with
 | none => K A
 | some o => ∃ v, s6 P ops B w0 Zs i o v A ∧ K (A.put o.dst v)
theorem ahf {i : Nat} {A : Fam} {K K' : Fam → Prop} (h : ∀ A, K A → K' A) (hh : flOpA P ops B w0 Zs i K A) : flOpA P ops B w0 Zs i K' A := by
 unfold flOpA at *
 split
 ·exact h _ (by simpa [*] using hh)
 ·rename_i o ho
  simp only [ho] at hh
  obtain ⟨v, hy, hk⟩ := hh
  exact ⟨v, hy, h _ hk⟩
theorem s6.flOpA {i : Nat} {o : Oper} {v : o7 → Value} {A : Fam} (hi : ops[i]? = some o) (hy : s6 P ops B w0 Zs i o v A) {K : Fam → Prop} (h : K (A.put o.dst v)) : flOpA P ops B w0 Zs i K A := by
 unfold YtohnchdnkbadaaaDoor.flOpA; simp only [hi]; exact ⟨v, hy, h⟩
theorem aiv {i j : Nat} {oi oj : Oper} {v : o7 → Value} (hj : ops[j]? = some oj) (hap : oi.apart ops oj = true)
  (hsi : ∀ cs b, oi.op ≠ .select cs b) (hsj : ∀ cs b, oj.op ≠ .select cs b) {K : Fam → Prop} {A : Fam}
  (hy : s6 P ops B w0 Zs i oi v A) (h : flOpA P ops B w0 Zs j K (A.put oi.dst v)) :
  flOpA P ops B w0 Zs j (fun A' => s6 P ops B w0 Zs i oi v A' ∧ K (A'.put oi.dst v)) A := by
 obtain ⟨h1, h2, h3⟩ := Oper.apart_spec hap
 unfold flOpA at *
 simp only [hj] at *
 obtain ⟨u, hu, hk⟩ := h
 refine ⟨u, hu.of_same (fun β => (execOp_put oj hsj (A β) oi.dst (v β) h1).symm) (fun β => (wanted_put oj (A β) oi.dst (v β) h1).symm), ?_, ?_⟩
 ·exact hy.of_same (fun β => execOp_put oi hsi (A β) oj.dst (u β) h3) (fun β => wanted_put oi (A β) oj.dst (u β) h3)
 ·have e : (A.put oj.dst u).put oi.dst v = (A.put oi.dst v).put oj.dst u := by funext β; exact (Act.put_comm (A β) (v β) (u β) h2).symm
  rw [e]; exact hk
structure Facts (B : Nat) (w0 : World) (Zs : Nat → Option Obj) (listed : Array Bool) (γ : o7) (w : World) : Prop where
 below : Below B w0 w
 blk : ∀ i Z, Zs i = some Z → listed.getD i false = true → w.heap[γ i]? = some Z ∧ B ≤ γ i
 inj : ∀ i j Z Z', Zs i = some Z → Zs j = some Z' → listed.getD i false = true → listed.getD j false = true → γ i = γ j → i = j
def ab7 (P : Program) (md : Region.Mode) (ops : Array Oper) (B : Nat) (w0 : World) (Zs : Nat → Option Obj) (n : Nat) (L : Array Bool → Fam → Prop) : Nat → Array Bool → Fam → Prop
 | 0, listed, A => L listed A
 | f + 1, listed, A =>
  Region.ready md ops listed ≠ [] ∧ ∀ i ∈ Region.ready md ops listed, i < n ∧ flOpA P ops B w0 Zs i (ab7 P md ops B w0 Zs n L f (listed.setIfInBounds i true)) A
theorem s7 {l : Array Bool} {i j : Nat} : (l.setIfInBounds i true).getD j false = true → l.getD j false = true ∨ j = i := by
 intro h
 by_cases e : i = j
 ·exact .inr e.symm
 ·rw [getD_set_ne false e] at h; exact .inl h
theorem Facts.plain {listed : Array Bool} {γ : o7} {w w' : World} {i : Nat} (hf : Facts B w0 Zs listed γ w) (hB : B ≤ w0.heap.size) (hz : Zs i = none) (hb : Below w.heap.size w w') : Facts B w0 Zs (listed.setIfInBounds i true) γ w' := by
 have old : ∀ j Z, Zs j = some Z → (listed.setIfInBounds i true).getD j false = true → listed.getD j false = true := fun j Z hj hl => by
  rcases s7 hl with h | h
  ·exact h
  ·rw [h, hz] at hj; cases hj
 refine ⟨hf.below.trans (hb.mono (Nat.le_trans hB hf.below.size)), fun j Z hj hl => ?_, fun j k Z Z' hj hk hl hl' => hf.inj j k Z Z' hj hk (old j Z hj hl) (old k Z' hk hl')⟩
 obtain ⟨h1, h2⟩ := hf.blk j Z hj (old j Z hj hl)
 exact ⟨YtohnchdnkbadaaaDoor.blk hb h1 (b6 h1), h2⟩
theorem Facts.made {listed : Array Bool} {γ : o7} {w : World} {i : Nat} {Z : Obj} (hf : Facts B w0 Zs listed γ w) (hB : B ≤ w0.heap.size) (hz : Zs i = some Z) (hun : listed.getD i false = false) :
  Facts B w0 Zs (listed.setIfInBounds i true) (fun j => if j = i then w.heap.size else γ j) (w.alloc Z) := by
 have hbw : B ≤ w.heap.size := Nat.le_trans hB hf.below.size
 refine ⟨hf.below.alloc hbw Z, fun j Z' hj hl => ?_, fun j k Z1 Z2 hj hk hl hl' he => ?_⟩
 ·by_cases hji : j = i
  ·subst hji
   rw [hz] at hj
   obtain rfl := Option.some.inj hj
   simp only [if_pos]
   exact ⟨heap_alloc_new w Z, hbw⟩
  ·simp only [if_neg hji]
   rcases s7 hl with h | h
   ·obtain ⟨h1, h2⟩ := hf.blk j Z' hj h
    exact ⟨by rw [heap_alloc_old _ _ (h := b6 h1)]; exact h1, h2⟩
   ·exact absurd h hji
 ·have lt : ∀ j Z', Zs j = some Z' → (listed.setIfInBounds i true).getD j false = true → j ≠ i → γ j < w.heap.size := fun j Z' hj hl hn => by
   rcases s7 hl with h | h
   ·exact b6 (hf.blk j Z' hj h).1
   ·exact absurd h hn
  by_cases h1 : j = i <;> by_cases h2 : k = i
  ·rw [h1, h2]
  ·rw [if_pos h1, if_neg h2] at he
   have := lt k Z2 hk hl' h2
   omega
  ·rw [if_neg h1, if_pos h2] at he
   have := lt j Z1 hj hl h1
   omega
  ·rw [if_neg h1, if_neg h2] at he
   rcases s7 hl with h3 | h3
   ·rcases s7 hl' with h4 | h4
    ·exact hf.inj j k Z1 Z2 hj hk h3 h4 he
    ·exact absurd h4 h2
   ·exact absurd h3 h1
def ae1 (listed : Array Bool) (A : Fam) : Prop := ∀ β β' : o7, (∀ j, listed.getD j false = true → β j = β' j) → A β = A β'
theorem o9 {n g : Nat} {L : Array Bool → Fam → Prop} {Q' : Exit → Act → World → Prop} (hB : B ≤ w0.heap.size)
  (hL : ∀ listed A γ w, Facts B w0 Zs listed γ w → L listed A → wpAny P md ops Q' g listed (A γ) w) :
  ∀ (f : Nat) (listed : Array Bool) (A : Fam) (γ : o7) (w : World), listed.size = ops.size → ae1 listed A → Facts B w0 Zs listed γ w → ab7 P md ops B w0 Zs n L f listed A → wpAny P md ops Q' (f + g) listed (A γ) w
 | 0, listed, A, γ, w, _, _, hF, h => by rw [Nat.zero_add]; exact hL _ _ _ _ hF h
 | f + 1, listed, A, γ, w, hsz, hA, hF, h => by
  rw [show f + 1 + g = (f + g) + 1 by omega]
  refine ⟨fun h0 => absurd h0 h.1, fun i hi => ?_⟩
  have hh := (h.2 i hi).2
  obtain ⟨hun, o, ho, _⟩ := mem_ready.1 hi
  have hin : i < ops.size := (Array.getElem?_eq_some_iff.1 ho).1
  have hnow : ∀ j, listed.getD j false = true → (listed.setIfInBounds i true).getD j false = true := fun j hj => by
   by_cases e : i = j
   ·subst e; simp [Array.getD, hsz, hin]
   ·rw [getD_set_ne false e]; exact hj
  have hset : (listed.setIfInBounds i true).getD i false = true := by simp [Array.getD, hsz, hin]
  have hsz' : (listed.setIfInBounds i true).size = ops.size := by simpa using hsz
  unfold flOpA at hh
  unfold wpOp
  simp only [ho] at hh ⊢
  obtain ⟨v, hv, hk⟩ := hh
  rcases hv with ⟨Z, fv, hz, rfl, hg⟩ | ⟨hz, u, rfl, hg⟩
  ·obtain ⟨hw, hx⟩ := hg γ
   simp only [hw, if_true]
   refine .inl ?_
   unfold Oper.wp
   rw [hx w hF.below]
   simp only [Oper.upon]
   have hF' := hF.made hB hz (getD_both hun)
   have hA' : ae1 (listed.setIfInBounds i true) (A.put o.dst (fun β => fv (β i))) := fun β β' hb => by
    show (A β).put o.dst (fv (β i)) = (A β').put o.dst (fv (β' i))
    rw [hA β β' (fun j hj => hb j (hnow j hj)), hb i hset]
   have := o9 hB hL f _ _ _ _ hsz' hA' hF' hk
   have e : (A.put o.dst (fun β => fv (β i))) (fun j => if j = i then w.heap.size else γ j) = (A γ).put o.dst (fv w.heap.size) := by
    show (A _).put o.dst _ = _
    rw [hA _ γ (fun j hj => by
     by_cases e : j = i
     ·subst e; rw [getD_both hun] at hj; cases hj
     ·simp [e])]
    simp
   rw [e] at this
   exact this
  ·have hA' : ae1 (listed.setIfInBounds i true) (A.put o.dst (fun _ => u)) := fun β β' hb => by
    show (A β).put o.dst u = (A β').put o.dst u
    rw [hA β β' (fun j hj => hb j (hnow j hj))]
   rcases hg γ with ⟨hw, hx⟩ | ⟨hw, rfl⟩
   ·simp only [hw, if_true]
    refine .inl ?_
    unfold Oper.wp
    have hg' := hx w hF.below
    generalize (execOp (A γ).eval o).run P w = r at hg' ⊢
    cases r with
    | ok m w' =>
     cases m <;> simp only [ain] at hg' <;> simp only [Oper.upon]
     case enter f' args => exact hg'.mono fun e w'' ⟨he, hs⟩ => by subst he; exact o9 hB hL f _ _ _ _ hsz' hA' (hF.plain hB hz hs) hk
     all_goals (obtain ⟨rfl, hs⟩ := hg'; exact o9 hB hL f _ _ _ _ hsz' hA' (hF.plain hB hz hs) hk)
    | halt x w' => simp only [ain] at hg'
   ·simp only [hw, Bool.false_eq_true, if_false]
    exact o9 hB hL f _ _ _ _ hsz' hA' (hF.plain hB hz (Below.refl _ _)) hk
theorem ad7 {n i : Nat} {oi : Oper} {v : o7 → Value} {L : Array Bool → Fam → Prop} {Inv : Array Bool → Prop} (hi : ops[i]? = some oi) (hsel : ∀ (j : Nat) (o : Oper) cs b, ops[j]? = some o → o.op ≠ .select cs b)
  (hr : HeadRule md ops n Inv) (hin : i < n) (hdone : ∀ listed A, L listed A → ∀ j ∈ Region.ready md ops listed, n ≤ j) :
  ∀ (f : Nat) (listed : Array Bool) (A : Fam), Inv listed →
   (∀ j oj, ops[j]? = some oj → j ≠ i → listed.getD j true = false → (∀ e ∈ oj.after, Region.binds md e = true → e.on ≠ i) → oi.apart ops oj = true) →
   i ∈ Region.ready md ops listed → s6 P ops B w0 Zs i oi v A →
   ab7 P md ops B w0 Zs n L f (listed.setIfInBounds i true) (A.put oi.dst v) → ab7 P md ops B w0 Zs n L (f + 1) listed A := by
 intro f
 induction f with
 | zero =>
  intro listed A inv _ hri hy H
  refine ⟨fun h => (by rw [h] at hri; cases hri), fun j hj => ?_⟩
  have hjn := hr.first listed i inv hin (mem_ready.1 hri).1 j hj
  refine ⟨hjn, ?_⟩
  by_cases hji : j = i
  ·subst hji; exact hy.flOpA hi H
  ·have := hdone _ _ H j (ready_mono hj hji)
   omega
 | succ f ih =>
  intro listed A inv hfree hri hy H
  refine ⟨fun h => (by rw [h] at hri; cases hri), fun j hj => ?_⟩
  have hjn := hr.first listed i inv hin (mem_ready.1 hri).1 j hj
  refine ⟨hjn, ?_⟩
  by_cases hji : j = i
  ·subst hji; exact hy.flOpA hi H
  ·have h1 := (H.2 j (ready_mono hj hji)).2
   obtain ⟨hjun, oj, hoj, hall⟩ := mem_ready.1 hj
   have hnot : ∀ e ∈ oj.after, Region.binds md e = true → e.on ≠ i := fun e he hb heq => by
    have h1 := hall e he hb
    rw [heq, getD_both (mem_ready.1 hri).1] at h1
    cases h1
   have h2 := aiv hoj (hfree j oj hoj hji hjun hnot) (fun cs b => hsel i oi cs b hi) (fun cs b => hsel j oj cs b hoj) hy h1
   refine ahf (fun A' h3 => ih (listed.setIfInBounds j true) A' (hr.step _ _ inv hj hjn) ?_ (ready_mono hri (Ne.symm hji)) h3.1 ?_) h2
   ·intro k ok hk hki hun hno
    refine hfree k ok hk hki ?_ hno
    by_cases hjk : j = k
    ·subst hjk; exact hjun
    ·rw [getD_set_ne true hjk] at hun; exact hun
   ·rw [Array.setIfInBounds_comm _ _ hji]
    exact h3.2
def wpFlowA (P : Program) (ops : Array Oper) (B : Nat) (w0 : World) (Zs : Nat → Option Obj) (Q : Fam → Prop) : List Oper → Nat → Fam → Prop
 | [], _, A => Q A
 | o :: rest, k, A => ∃ v, s6 P ops B w0 Zs k o v A ∧ wpFlowA P ops B w0 Zs Q rest (k + 1) (A.put o.dst v)
theorem ab1 {n g : Nat} {L : Array Bool → Fam → Prop} {Lq : Fam → Prop} {Inv : Array Bool → Prop} (hsel : Region.noSelect ops = true) (hr : HeadRule md ops n Inv)
  (hdone : ∀ listed A, L listed A → ∀ j ∈ Region.ready md ops listed, n ≤ j)
  (hend : ∀ listed A, Region.seqB md ops g n listed = true → (∀ j, j < n → listed.getD j false = true) → Lq A → L listed A) :
  ∀ (l : List Oper) (k : Nat) (listed : Array Bool) (A : Fam), (∀ j, j < l.length → l[j]? = ops[k + j]?) → k + l.length = n → Inv listed → listed.size = ops.size → (∀ j, j < k → listed.getD j false = true) →
  Region.lexHead md ops g l.length k listed = true → wpFlowA P ops B w0 Zs Lq l k A → ab7 P md ops B w0 Zs n L l.length listed A
 | [], k, listed, A, _, hk, _, _, hls, hB, h => by
  have : k = n := by simpa using hk
  subst this
  exact hend _ _ (by simpa [Region.lexHead] using hB) hls h
 | o :: l, k, listed, A, hl, hk, inv, hsz, hls, hB, h => by
  have h0 : ops[k]? = some o := by simpa using (hl 0 (by simp)).symm
  have hin : k < ops.size := (Array.getElem?_eq_some_iff.1 h0).1
  simp only [List.length_cons, Region.lexHead, Bool.and_eq_true] at hB
  obtain ⟨⟨hrd, hf⟩, hB'⟩ := hB
  have hkn : k < n := by simp only [List.length_cons] at hk; omega
  have hr' : k ∈ Region.ready md ops listed := by simpa using hrd
  obtain ⟨v, hy, hK⟩ := h
  refine ad7 h0 (Region.noSelect_spec hsel) hr hkn hdone l.length listed A inv (Region.free_spec h0 hf) hr' hy
   (ab1 hsel hr hdone hend l (k + 1) _ _ (fun j hj => by have := hl (j + 1) (by simp; omega); simpa [Nat.add_assoc, Nat.add_comm 1 j] using this) (by simp only [List.length_cons] at hk; omega) (hr.step _ _ inv hr' hkn) (by simpa using hsz) (fun j hj => ?_) hB' hK)
  by_cases e : k = j
  ·subst e; simp [Array.getD, hsz, hin]
  ·rw [getD_set_ne false e]; exact hls j (by omega)
structure Made (B : Nat) (w0 : World) (Zs : Nat → Option Obj) (n : Nat) (γ : o7) (w : World) : Prop where
 below : Below B w0 w
 blk : ∀ i Z, i < n → Zs i = some Z → w.heap[γ i]? = some Z ∧ B ≤ γ i
 inj : ∀ i j Z Z', i < n → j < n → Zs i = some Z → Zs j = some Z' → γ i = γ j → i = j
theorem ajh {id : Nat} {Q : Exit → Act → World → Prop} {a : Act} {w : World} {l : List Oper} (Zs : Nat → Option Obj) (n : Nat) (hm : P.follows .mixedOrders = true) (hB : Region.lexTailB .any l.toArray n = true)
  (h : wpFlowA P l.toArray w.drew.heap.size w.drew Zs (fun A => ∀ γ w', Made w.drew.heap.size w.drew Zs n γ w' → wpList P l.toArray Q (l.drop n) (A γ) w') (l.take n) 0 (fun _ => a)) : (Code.region id l.toArray true).wp P Q a w := by
 simp only [Region.lexTailB, Bool.and_eq_true, decide_eq_true_eq] at hB
 obtain ⟨⟨⟨⟨hsel, hn⟩, hs⟩, hc⟩, hlex⟩ := hB
 have hn' : n < l.length := by simpa using hn
 have htl : (l.take n).length = n := by simp; omega
 have hdl : (l.drop n).length = l.toArray.size - n := by simp
 have inv0 : HeadInv .any l.toArray n (Array.replicate l.toArray.size false) :=
  ⟨by simp, fun j oj _ hl => (by rw [getD_replicate_false] at hl; cases hl), fun t _ ht => getD_in (by simpa using ht) (getD_replicate_false _ _)⟩
 have H := ab1 (md := .any) (n := n) (g := l.toArray.size - n)
  (L := fun listed' A' => Region.seqB .any l.toArray (l.toArray.size - n) n listed' = true ∧ (∀ j, j < n → listed'.getD j false = true) ∧ ∀ γ w', Made w.drew.heap.size w.drew Zs n γ w' → wpList P l.toArray Q (l.drop n) (A' γ) w')
  (Inv := HeadInv .any l.toArray n) hsel
  ⟨fun _ _ inv hi hin => inv.set hi hin, fun listed i inv hin hun j hj => by
   rcases Nat.lt_or_ge j n with h | h
   ·exact h
   ·exact absurd hj (tail_waits hs hc hn inv _ i rfl hin hun j h)⟩
  (fun listed' A' hL => seqB_ready hL.1) (fun listed A hs hls hq => ⟨hs, hls, hq⟩)
  (l.take n) 0 _ (fun _ => a) (fun j hj => by
   have hj' : j < n := by rw [htl] at hj; exact hj
   simp [hj']) (by simpa using htl) inv0 (by simp) (fun j hj => by omega) (by rw [htl]; exact hlex) h
 refine wp_region_any hm ?_
 have := o9 (Q' := Q) (g := l.toArray.size - n) (Nat.le_refl _) (fun listed' A' γ w' hF hL => by
  have hM : Made w.drew.heap.size w.drew Zs n γ w' := ⟨hF.below, fun i Z hi hz => hF.blk i Z hz (hL.2.1 i hi), fun i j Z Z' hi hj hz hz' => hF.inj i j Z Z' hz hz' (hL.2.1 i hi) (hL.2.1 j hj)⟩
  have := wpAny_of_seq (md := .any) (Q' := Q) (l.drop n) n listed' (A' γ) w' (fun j => by simp [List.getElem?_drop]) (by rw [hdl]; exact hL.1) (hL.2.2 γ w' hM)
  rwa [hdl] at this) _ _ _ (fun _ => 0) _ (by simp) (fun _ _ _ => rfl)
  ⟨Below.refl _ _, fun i Z _ hl => (by rw [getD_replicate_false] at hl; cases hl), fun i j Z Z' _ _ hl => (by rw [getD_replicate_false] at hl; cases hl)⟩ H
 rw [htl, show n + (l.toArray.size - n) = l.toArray.size by omega] at this
 exact this
theorem wp_region_flowA_all {id : Nat} {Q : Exit → Act → World → Prop} {a : Act} {w : World} {l : List Oper} (Zs : Nat → Option Obj) (hm : P.follows .mixedOrders = true) (hB : ai9 l.toArray = true)
  (h : wpFlowA P l.toArray w.drew.heap.size w.drew Zs (fun A => ∀ γ w', Made w.drew.heap.size w.drew Zs l.length γ w' → Q .normal (A γ) w') l 0 (fun _ => a)) : (Code.region id l.toArray true).wp P Q a w := by
 simp only [ai9, Bool.and_eq_true] at hB
 refine wp_region_any hm ?_
 have H := ab1 (md := .any) (n := l.toArray.size) (g := 0)
  (L := fun listed a' => Region.ready .any l.toArray listed = [] ∧ (∀ j, j < l.length → listed.getD j false = true) ∧ ∀ γ w', Made w.drew.heap.size w.drew Zs l.length γ w' → Q .normal (a' γ) w') (Inv := fun _ => True) hB.1
  ⟨fun _ _ _ _ _ => trivial, fun listed i _ _ _ j hj => by obtain ⟨_, o, ho, _⟩ := mem_ready.1 hj; exact (Array.getElem?_eq_some_iff.1 ho).1⟩
  (fun listed a' hL j hj => by rw [hL.1] at hj; cases hj)
  (fun listed a' hs hls hq => ⟨by simpa [Region.seqB] using hs, fun j hj => hls j (by simpa using hj), hq⟩)
  l 0 (Array.replicate l.toArray.size false) (fun _ => a) (fun j hj => by simp) (by simp) trivial (by simp) (fun j hj => by omega) (by simpa using hB.2) h
 have := o9 (Q' := Q) (g := 0) (Nat.le_refl _) (fun listed' A' γ w' hF hL => by
  have hM : Made w.drew.heap.size w.drew Zs l.length γ w' := ⟨hF.below, fun i Z hi hz => hF.blk i Z hz (hL.2.1 i hi), fun i j Z Z' hi hj hz hz' => hF.inj i j Z Z' hz hz' (hL.2.1 i hi) (hL.2.1 j hj)⟩
  exact ⟨hL.1, hL.2.2 γ w' hM⟩) _ _ _ (fun _ => 0) _ (by simp) (fun _ _ _ => rfl)
  ⟨Below.refl _ _, fun i Z _ hl => (by rw [getD_replicate_false] at hl; cases hl), fun i j Z Z' _ _ hl => (by rw [getD_replicate_false] at hl; cases hl)⟩ H
 simpa using this
end
end Go.Proofs.YtohnchdnkbadaaaDoor
namespace Go.Proofs.YtohnchdnkbadaaaDoor
open Go Go.RowKit
abbrev Sl := List (Nat × Value)
def Sl.get : Sl → Nat → Option Value
 | [], _ => none
 | p :: r, i => bif Nat.beq p.1 i then some p.2 else Sl.get r i
def ev (L : Sl) : Operand → Option Value
 | .tmp t => L.get t
 | .const v => some v
 | .global g => some (.pointer (some ⟨g, 0, none⟩))
 | .func f => some (.func (.func f) #[] #[])
def Sub (L : Sl) : Sl → Prop
 | [] => True
 | p :: r => L.get p.1 = some p.2 ∧ Sub L r
structure Cx where
 n : Nat
 D : List Deferred
 w0 : World
 M : List Nat
 R : List (Nat × Obj)
structure Fr (C : Cx) (L : Sl) (a : Act) : Prop where
 defers : a.defers = C.D
 size : C.n ≤ a.tmps.size
 get : ∀ i v, L.get i = some v → a.tmps[i]? = some v
theorem Sl.get_mem {L : Sl} {i : Nat} {v : Value} (h : L.get i = some v) : (i, v) ∈ L := by
 induction L with
 | nil => cases h
 | cons p r ih =>
  unfold Sl.get at h
  cases hb : Nat.beq p.1 i with
  | true =>
   rw [hb] at h
   have e : p.1 = i := Nat.eq_of_beq_eq_true hb
   have e2 : p.2 = v := by simpa using h
   rw [← e, ← e2]; exact List.mem_cons_self ..
  | false => rw [hb] at h; exact List.mem_cons_of_mem _ (ih h)
theorem Sub.get {L L' : Sl} (h : Sub L L') {p : Nat × Value} (hp : p ∈ L') : L.get p.1 = some p.2 := by
 induction L' with
 | nil => cases hp
 | cons q r ih =>
  rcases List.mem_cons.1 hp with rfl | hp
  ·exact h.1
  ·exact ih h.2 hp
variable {C : Cx} {L : Sl} {a : Act}
theorem Fr.sub {L' : Sl} (h : Fr C L a) (hs : Sub L L') : Fr C L' a :=
 ⟨h.defers, h.size, fun _ _ hg => h.get _ _ (hs.get (Sl.get_mem hg))⟩
theorem Fr.ev (h : Fr C L a) {x : Operand} {v : Value} (hx : ev L x = some v) : a.eval x = v := by
 cases x with
 | tmp t => simp only [Act.eval, Array.getD_eq_getD_getElem?, h.get t v hx, Option.getD_some]
 | const c => exact Option.some.inj hx
 | global g => exact Option.some.inj hx
 | func f => exact Option.some.inj hx
theorem Fr.put (h : Fr C L a) {d : Nat} (hn : Nat.blt d C.n = true) (v : Value) : Fr C ((d, v) :: L) (a.put (some d) v) := by
 have hd : d < C.n := Nat.blt_eq ▸ hn
 refine ⟨h.defers, by simpa [Act.put] using h.size, fun i u hg => ?_⟩
 have hsz := h.size
 unfold Sl.get at hg
 cases hb : Nat.beq d i with
 | true =>
  obtain rfl : d = i := Nat.eq_of_beq_eq_true hb
  simp only [hb, cond_true, Option.some.injEq] at hg
  subst hg
  simp [Act.put, show d < a.tmps.size by omega]
 | false =>
  simp only [hb, cond_false] at hg
  have hne : d ≠ i := fun e => by subst e; simp at hb
  simpa [Act.put, Array.getElem?_setIfInBounds_ne hne] using h.get i u hg
theorem Fr.put0 (h : Fr C L a) (v : Value) : Fr C L (a.put none v) := h
def ayy (p : World → List Nat → Prop) : Prop := ∀ w w' F, p w F → (∀ k ∈ F, w'.heap[k]? = w.heap[k]?) → p w' F
inductive HA where
 | blk (b : Nat) (o : Obj)
 | row (v : Value) (t : TypeId) (sz n : Nat) (xs : List Value)
 | gen (p : World → List Nat → Prop) (h : ayy p)
def HA.at (w : World) : HA → List Nat → Prop
 | .blk b o, F => F = [b] ∧ w.heap[b]? = some o
 | .gen p _, F => p w F
 | .row v t sz n xs, F => F = v.ownBlock.toList ∧ w.ownsRow 0 t sz v n xs
def Own (w : World) : List HA → List Nat → Prop
 | [], F => F = []
 | h :: H, F => ∃ F1 F2, F = F1 ++ F2 ∧ h.at w F1 ∧ Own w H F2
structure Hp (C : Cx) (H : List HA) (w : World) : Prop where
 os : w.os = C.w0.os
 tape : w.tape = C.w0.tape
 output : w.output = C.w0.output
 size : C.w0.heap.size ≤ w.heap.size
 keep : ∀ k, k < C.w0.heap.size → k ∉ C.M → w.heap[k]? = C.w0.heap[k]?
 ro : ∀ p ∈ C.R, C.w0.heap[p.1]? = some p.2 ∧ p.1 ∉ C.M
 own : ∃ F, Own w H F ∧ F.Nodup ∧ ∀ k ∈ F, k < w.heap.size ∧ (C.w0.heap.size ≤ k ∨ k ∈ C.M)
theorem HA.at_keep {w w' : World} {h : HA} {F : List Nat} (hh : h.at w F) (hk : ∀ k ∈ F, w'.heap[k]? = w.heap[k]?) : h.at w' F := by
 cases h with
 | blk b o => obtain ⟨rfl, hb⟩ := hh; exact ⟨rfl, by rw [hk b (by simp)]; exact hb⟩
 | gen p h => exact h w w' F hh hk
 | row v t sz n xs =>
  obtain ⟨rfl, h1, hh⟩ := hh
  refine ⟨rfl, h1, ?_⟩
  rcases hh with hh | ⟨b, cap, cur, rfl, h2, hb, h3⟩
  ·exact .inl hh
  ·exact .inr ⟨b, cap, cur, rfl, h2, by rw [hk b (by simp [Value.ownBlock])]; exact hb, h3⟩
theorem Own.keep {w w' : World} : ∀ {H : List HA} {F : List Nat}, Own w H F → (∀ k ∈ F, w'.heap[k]? = w.heap[k]?) → Own w' H F
 | [], _, h, _ => h
 | _ :: _, _, ⟨F1, F2, hF, h1, h2⟩, hk =>
  ⟨F1, F2, hF, HA.at_keep h1 fun k hm => hk k (by rw [hF]; simp [hm]), h2.keep fun k hm => hk k (by rw [hF]; simp [hm])⟩
theorem Own.append {w : World} : ∀ {A B : List HA} {F G : List Nat}, Own w A F → Own w B G → Own w (A ++ B) (F ++ G)
 | [], _, _, _, h, h' => by have : _ = [] := h; subst this; simpa using h'
 | _ :: _, _, _, _, ⟨F1, F2, hF, h1, h2⟩, h' => ⟨F1, F2 ++ _, by rw [hF, List.append_assoc], h1, h2.append h'⟩
theorem Own.split {w : World} : ∀ {A B : List HA} {F : List Nat}, Own w (A ++ B) F → ∃ F1 F2, F = F1 ++ F2 ∧ Own w A F1 ∧ Own w B F2
 | [], _, F, h => ⟨[], F, rfl, rfl, h⟩
 | _ :: _, _, _, ⟨F1, F2, hF, h1, h2⟩ => by
  obtain ⟨G1, G2, rfl, h3, h4⟩ := h2.split
  exact ⟨F1 ++ G1, G2, by rw [hF, List.append_assoc], ⟨F1, G1, rfl, h1, h3⟩, h4⟩
def sel (H : List HA) : List Nat → List HA
 | [] => []
 | i :: r => match H[i]? with
  | some h => h :: sel H r
  | none => sel H r
theorem Own.parts {w : World} : ∀ {H : List HA} {F : List Nat}, Own w H F → ∃ Fs : List (List Nat), Fs.length = H.length ∧ Fs.flatten = F ∧ ∀ (i : Nat) (h : HA) (f : List Nat), H[i]? = some h → Fs[i]? = some f → h.at w f
 | [], _, h => ⟨[], rfl, by have : _ = [] := h; simp [this], fun i h f hh _ => by simp at hh⟩
 | h0 :: H, _, ⟨F1, F2, hF, h1, h2⟩ => by
  obtain ⟨Fs, hl, hf, hall⟩ := h2.parts
  refine ⟨F1 :: Fs, by simp [hl], by simp [hf, hF], fun i h f hh hff => ?_⟩
  cases i with
  | zero => simp at hh hff; subst hh; subst hff; exact h1
  | succ i => simp at hh hff; exact hall i h f hh hff
theorem ad8 : ∀ {Fs : List (List Nat)}, Fs.flatten.Nodup → ∀ {i j : Nat} {f g : List Nat}, Fs[i]? = some f → Fs[j]? = some g → i ≠ j → ∀ k ∈ f, k ∉ g := by
 intro Fs
 induction Fs with
 | nil => intro _ i j f g h; simp at h
 | cons F Fs ih =>
  intro hn i j f g hf hg hij k hk hk'
  rw [List.flatten_cons, List.nodup_append] at hn
  obtain ⟨_, h2, h3⟩ := hn
  cases i with
  | zero =>
   cases j with
   | zero => exact hij rfl
   | succ j =>
    simp at hf hg; subst hf
    exact h3 k hk k (List.mem_flatten.2 ⟨g, List.mem_of_getElem? hg, hk'⟩) rfl
  | succ i =>
   cases j with
   | zero =>
    simp at hf hg; subst hg
    exact h3 k hk' k (List.mem_flatten.2 ⟨f, List.mem_of_getElem? hf, hk⟩) rfl
   | succ j => simp at hf hg; exact ih h2 hf hg (by omega) k hk hk'
theorem alb {Fs : List (List Nat)} (h : Fs.flatten.Nodup) {i : Nat} {f : List Nat} (hf : Fs[i]? = some f) : f.Nodup := by
 induction Fs generalizing i with
 | nil => simp at hf
 | cons F Fs ih =>
  rw [List.flatten_cons, List.nodup_append] at h
  cases i with
  | zero => simp at hf; subst hf; exact h.1
  | succ i => simp at hf; exact ih h.2.1 hf
theorem atz {w : World} {H : List HA} {Fs : List (List Nat)} (hl : Fs.length = H.length) (hall : ∀ (i : Nat) (h : HA) (f : List Nat), H[i]? = some h → Fs[i]? = some f → h.at w f) (hn : Fs.flatten.Nodup) :
  ∀ {idx : List Nat}, idx.Nodup → ∃ G, Own w (sel H idx) G ∧ G.Nodup ∧ ∀ k ∈ G, ∃ i ∈ idx, ∃ f, Fs[i]? = some f ∧ k ∈ f
 | [], _ => ⟨[], rfl, List.nodup_nil, fun k hk => by cases hk⟩
 | i :: r, hi => by
  rw [List.nodup_cons] at hi
  obtain ⟨G, h1, h2, h3⟩ := atz hl hall hn hi.2
  unfold sel
  cases hh : H[i]? with
  | none => exact ⟨G, h1, h2, fun k hk => by obtain ⟨j, hj, f, hf⟩ := h3 k hk; exact ⟨j, by simp [hj], f, hf⟩⟩
  | some h =>
   have hlt : i < Fs.length := by rw [hl]; exact (List.getElem?_eq_some_iff.1 hh).1
   have hf : Fs[i]? = some Fs[i] := List.getElem?_eq_getElem hlt
   refine ⟨Fs[i] ++ G, ⟨Fs[i], G, rfl, hall i h _ hh hf, h1⟩, ?_, fun k hk => ?_⟩
   ·rw [List.nodup_append]
    refine ⟨alb hn hf, h2, fun x hx y hy e => ?_⟩
    subst e
    obtain ⟨j, hj, f, hf', hk⟩ := h3 _ hy
    exact ad8 hn hf hf' (fun e => hi.1 (e ▸ hj)) _ hx hk
   ·rcases List.mem_append.1 hk with hk | hk
    ·exact ⟨i, by simp, _, hf, hk⟩
    ·obtain ⟨j, hj, f, hf'⟩ := h3 k hk; exact ⟨j, by simp [hj], f, hf'⟩
def x5 : List Nat → Bool
 | [] => true
 | i :: r => !r.contains i && x5 r
theorem aa8 : ∀ {l : List Nat}, x5 l = true → l.Nodup
 | [], _ => List.nodup_nil
 | i :: r, h => by
  simp only [x5, Bool.and_eq_true, Bool.not_eq_true', List.contains_eq_mem, decide_eq_false_iff_not] at h
  exact List.nodup_cons.2 ⟨h.1, aa8 h.2⟩
variable {H : List HA} {w : World}
theorem Hp.pick (h : Hp C H w) (idx : List Nat) (hi : x5 idx = true) : Hp C (sel H idx) w := by
 obtain ⟨F, h1, h2, h3⟩ := h.own
 obtain ⟨Fs, hl, rfl, hall⟩ := h1.parts
 obtain ⟨G, g1, g2, g3⟩ := atz hl hall h2 (aa8 hi)
 exact ⟨h.os, h.tape, h.output, h.size, h.keep, h.ro, G, g1, g2, fun k hk => by
  obtain ⟨i, _, f, hf, hk⟩ := g3 k hk
  exact h3 k (List.mem_flatten.2 ⟨f, List.mem_of_getElem? hf, hk⟩)⟩
theorem Hp.start (n : Nat) (D : List Deferred) (w : World) {H : List HA} {M : List Nat} {R : List (Nat × Obj)} (h : Own w H M) (hn : M.Nodup) (hlt : ∀ k ∈ M, k < w.heap.size) (hR : ∀ p ∈ R, w.heap[p.1]? = some p.2 ∧ p.1 ∉ M) : Hp ⟨n, D, w, M, R⟩ H w :=
 ⟨rfl, rfl, rfl, Nat.le_refl _, fun _ _ _ => rfl, hR, M, h, hn, fun k hk => ⟨hlt k hk, .inr hk⟩⟩
theorem Hp.ctx {n n' : Nat} {D D' : List Deferred} {w0 w : World} {M : List Nat} {R : List (Nat × Obj)} {H : List HA} (h : Hp ⟨n, D, w0, M, R⟩ H w) : Hp ⟨n', D', w0, M, R⟩ H w := ⟨h.os, h.tape, h.output, h.size, h.keep, h.ro, h.own⟩
theorem Hp.blk (h : Hp C H w) {i b : Nat} {o : Obj} (hi : H[i]? = some (.blk b o)) : w.heap[b]? = some o := by
 obtain ⟨F, h1, _, _⟩ := h.own
 obtain ⟨Fs, hl, _, hall⟩ := h1.parts
 have hlt : i < Fs.length := by rw [hl]; exact (List.getElem?_eq_some_iff.1 hi).1
 exact (hall i _ _ hi (List.getElem?_eq_getElem hlt)).2
theorem Hp.old (h : Hp C H w) {b : Nat} {o : Obj} (hb : (b, o) ∈ C.R) : w.heap[b]? = some o := by
 obtain ⟨h1, h2⟩ := h.ro _ hb
 rw [h.keep b (b6 h1) h2]; exact h1
theorem Hp.alloc (h : Hp C H w) (o : Obj) : Hp C (.blk w.heap.size o :: H) (w.alloc o) := by
 obtain ⟨F, h1, h2, h3⟩ := h.own
 refine ⟨h.os, h.tape, h.output, ?_, fun k hk hM => ?_, h.ro, w.heap.size :: F, ⟨[w.heap.size], F, rfl, ⟨rfl, heap_alloc_new _ _⟩, h1.keep fun k hk => ?_⟩, ?_, fun k hk => ?_⟩
 ·rw [World.size_alloc]; have := h.size; omega
 ·rw [heap_alloc_old _ _ (h := by have := h.size; omega)]; exact h.keep k hk hM
 ·exact heap_alloc_old _ _ (h := (h3 k hk).1)
 ·exact List.nodup_cons.2 ⟨fun hm => by have := (h3 _ hm).1; omega, h2⟩
 ·rw [World.size_alloc]
  rcases List.mem_cons.1 hk with rfl | hk
  ·exact ⟨by omega, .inl h.size⟩
  ·exact ⟨by have := (h3 k hk).1; omega, (h3 k hk).2⟩
theorem Hp.below (h : Hp C H w) {w' : World} (hb : Below w.heap.size w w') : Hp C H w' := by
 obtain ⟨F, h1, h2, h3⟩ := h.own
 exact ⟨hb.os.trans h.os, hb.tape.trans h.tape, hb.output.trans h.output, Nat.le_trans h.size hb.size,
  fun k hk hM => by rw [hb.block k (by have := h.size; omega)]; exact h.keep k hk hM, h.ro,
  F, h1.keep (fun k hk => hb.block k (h3 k hk).1), h2, fun k hk => ⟨Nat.lt_of_lt_of_le (h3 k hk).1 hb.size, (h3 k hk).2⟩⟩
theorem Hp.drew (h : Hp C H w) : Hp C H w.drew := h.below (Below.refl _ _).drew
theorem Hp.toBelow {n : Nat} {D : List Deferred} {w0 : World} {R : List (Nat × Obj)} (h : Hp ⟨n, D, w0, [], R⟩ H w) : Below w0.heap.size w0 w :=
 ⟨h.os, h.tape, h.output, h.size, fun k hk => h.keep k hk (by simp)⟩
theorem aux {Fs : List (List Nat)} {H : List HA} {w : World} {i : Nat} {x : HA} (hl : Fs.length = H.length) (hall : ∀ (j : Nat) (h : HA) (f : List Nat), H[j]? = some h → j ≠ i → Fs[j]? = some f → h.at w f)
  (hx : ∀ f, Fs[i]? = some f → x.at w f) : Own w (H.set i x) Fs.flatten := by
 induction H generalizing Fs i with
 | nil => cases Fs with
  | nil => exact rfl
  | cons _ _ => simp at hl
 | cons h0 H ih =>
  cases Fs with
  | nil => simp at hl
  | cons F Fs =>
   have hl' : Fs.length = H.length := by simpa using hl
   cases i with
   | zero =>
    refine ⟨F, Fs.flatten, by simp, hx F (by simp), ?_⟩
    have : Own w (H.set H.length x) Fs.flatten := ih hl' (fun j h f hh _ hf => hall (j + 1) h f (by simpa using hh) (by omega) (by simpa using hf)) (fun f hf => by
     have := (List.getElem?_eq_some_iff.1 hf).1; omega)
    rwa [List.set_eq_of_length_le (Nat.le_refl _)] at this
   | succ i =>
    refine ⟨F, Fs.flatten, by simp, hall 0 h0 F (by simp) (by omega) (by simp), ?_⟩
    exact ih hl' (fun j h f hh hn hf => hall (j + 1) h f (by simpa using hh) (by omega) (by simpa using hf)) (fun f hf => hx f (by simpa using hf))
theorem Hp.set (h : Hp C H w) {i b : Nat} {o o' : Obj} (hi : H[i]? = some (.blk b o)) {w' : World} (hos : w'.os = w.os) (htape : w'.tape = w.tape) (hout : w'.output = w.output)
  (hsz : w'.heap.size = w.heap.size) (hoth : ∀ k, k ≠ b → w'.heap[k]? = w.heap[k]?) (hb : w'.heap[b]? = some o') : Hp C (H.set i (.blk b o')) w' := by
 obtain ⟨F, h1, h2, h3⟩ := h.own
 obtain ⟨Fs, hl, rfl, hall⟩ := h1.parts
 have hlt : i < Fs.length := by rw [hl]; exact (List.getElem?_eq_some_iff.1 hi).1
 have hfi : Fs[i]? = some Fs[i] := List.getElem?_eq_getElem hlt
 have hF := (hall i _ _ hi hfi).1
 have hmem : b ∈ Fs.flatten := List.mem_flatten.2 ⟨Fs[i], List.getElem_mem _, by rw [hF]; simp⟩
 refine ⟨hos.trans h.os, htape.trans h.tape, hout.trans h.output, by rw [hsz]; exact h.size, fun k hk hM => ?_, h.ro, Fs.flatten, ?_, h2, fun k hk => by rw [hsz]; exact h3 k hk⟩
 ·rw [hoth k (fun e => by subst e; rcases (h3 _ hmem).2 with h4 | h4 <;> first | omega | exact hM h4)]
  exact h.keep k hk hM
 ·refine aux hl (fun j x f hj hne hf => ?_) (fun f hf => ?_)
  ·refine HA.at_keep (hall j x f hj hf) fun k hk => hoth k fun e => ?_
   subst e
   exact ad8 h2 hf hfi hne _ hk (by rw [hF]; simp)
  ·rw [hfi] at hf
   cases hf
   exact ⟨hF, hb⟩
theorem Hp.call {A R A' : List HA} {w' : World} {n' : Nat} {D' : List Deferred} {F1 F2 : List Nat} {R' : List (Nat × Obj)} (h : Hp C (A ++ R) w) (hR : Own w R F2) (h2 : (F1 ++ F2).Nodup)
  (h3 : ∀ k ∈ F1 ++ F2, k < w.heap.size ∧ (C.w0.heap.size ≤ k ∨ k ∈ C.M)) (hc : Hp ⟨n', D', w, F1, R'⟩ A' w') : Hp C (A' ++ R) w' := by
 have hM : ∀ k ∈ F1, k ∈ F1 := fun _ h => h
 obtain ⟨G, g1, g2, g3⟩ := hc.own
 rw [List.nodup_append] at h2
 have hcs := hc.size
 simp only at hcs g3
 refine ⟨hc.os.trans h.os, hc.tape.trans h.tape, hc.output.trans h.output, Nat.le_trans h.size hc.size, fun k hk hkM => ?_, h.ro, G ++ F2, g1.append (hR.keep fun k hk => ?_), ?_, fun k hk => ?_⟩
 ·have hk' : k < w.heap.size := by have := h.size; omega
  rw [hc.keep k hk' (fun hm => by
   have h4 := (h3 k (List.mem_append.2 (.inl (hM k hm)))).2
   rcases h4 with h4 | h4
   ·omega
   ·exact hkM h4)]
  exact h.keep k hk hkM
 ·exact hc.keep k (h3 k (List.mem_append.2 (.inr hk))).1 (fun hm => h2.2.2 k (hM k hm) k hk rfl)
 ·rw [List.nodup_append]
  refine ⟨g2, h2.2.1, fun x hx y hy e => ?_⟩
  subst e
  rcases (g3 x hx).2 with h4 | h4
  ·have := (h3 x (List.mem_append.2 (.inr hy))).1; omega
  ·exact h2.2.2 x (hM x h4) x hy rfl
 ·rcases List.mem_append.1 hk with hk | hk
  ·refine ⟨(g3 k hk).1, ?_⟩
   rcases (g3 k hk).2 with h4 | h4
   ·exact .inl (Nat.le_trans h.size h4)
   ·exact (h3 k (List.mem_append.2 (.inl (hM k h4)))).2
  ·exact ⟨Nat.lt_of_lt_of_le (h3 k (List.mem_append.2 (.inr hk))).1 hcs, (h3 k (List.mem_append.2 (.inr hk))).2⟩
end Go.Proofs.YtohnchdnkbadaaaDoor
namespace Go.Proofs.YtohnchdnkbadaaaDoor
open Go Go.RowKit
variable {P : Program} {ops : Array Oper} {Q : Exit → Act → World → Prop} {C : Cx} {L : Sl} {H : List HA} {rest : List Oper} {o : Oper}
def WL (P : Program) (ops : Array Oper) (Q : Exit → Act → World → Prop) (C : Cx) (L : Sl) (H : List HA) (l : List Oper) : Prop := ∀ a w, Fr C L a → Hp C H w → wpList P ops Q l a w
def WC (P : Program) (c : Code) (Q : Exit → Act → World → Prop) (C : Cx) (L : Sl) (H : List HA) : Prop := ∀ a w, Fr C L a → Hp C H w → c.wp P Q a w
def QX (Q : Exit → Act → World → Prop) (e : Exit) (C : Cx) (L : Sl) (H : List HA) : Prop := ∀ a w, Fr C L a → Hp C H w → Q e a w
abbrev KX (K : Act → World → Prop) (C : Cx) (L : Sl) (H : List HA) : Prop := ∀ a w, Fr C L a → Hp C H w → K a w
theorem WC.weak {c : Code} {L' : Sl} (hs : Sub L L') (h : WC P c Q C L' H) : WC P c Q C L H := fun a w hf hp => h a w (hf.sub hs) hp
theorem WC.pick {c : Code} (idx : List Nat) (hi : x5 idx = true) {H' : List HA} (he : sel H idx = H') (h : WC P c Q C L H') : WC P c Q C L H := fun a w hf hp => h a w hf (he ▸ hp.pick idx hi)
theorem WL.weak {l : List Oper} {L' : Sl} (hs : Sub L L') (h : WL P ops Q C L' H l) : WL P ops Q C L H l := fun a w hf hp => h a w (hf.sub hs) hp
theorem WL.pick {l : List Oper} (idx : List Nat) (hi : x5 idx = true) {H' : List HA} (he : sel H idx = H') (h : WL P ops Q C L H' l) : WL P ops Q C L H l := fun a w hf hp => h a w hf (he ▸ hp.pick idx hi)
theorem KX.go {K : Act → World → Prop} {L' : Sl} (h : KX K C L' H) (hs : Sub L L') : KX K C L H := fun a w hf hp => h a w (hf.sub hs) hp
theorem KX.goH {K : Act → World → Prop} {L' : Sl} {H' : List HA} (h : KX K C L' H') (hs : Sub L L') (idx : List Nat) (hi : x5 idx = true) (he : sel H idx = H') : KX K C L H := fun a w hf hp => h a w (hf.sub hs) (he ▸ hp.pick idx hi)
theorem WL.set {l : List Oper} (i : Nat) {v u : Value} (hL : L.get i = some v) (hv : v = u) (h : WL P ops Q C ((i, u) :: L) H l) : WL P ops Q C L H l := fun a w hf hp => h a w ⟨hf.defers, hf.size, fun j x hj => by
 unfold Sl.get at hj
 cases hb : Nat.beq i j with
 | true =>
  obtain rfl : i = j := Nat.eq_of_beq_eq_true hb
  simp only [hb, cond_true, Option.some.injEq] at hj
  rw [← hj, ← hv]; exact hf.get _ _ hL
 | false => simp only [hb, cond_false] at hj; exact hf.get _ _ hj⟩ hp
theorem a6 {x y : Code} (h : ∀ K : Act → World → Prop, (∀ L H, WC P y Q C L H → KX K C L H) → WC P x (Exit.then K Q) C L H) : WC P (.seq x y) Q C L H :=
 fun a w hf hp => wp_seq (h _ (fun _ _ hy => hy) a w hf hp)
theorem m7 {x y : Code} {X : Type} (V : X → Prop) (Lj : X → Sl) (Hj : X → List HA) (hy : ∀ s, V s → WC P y Q C (Lj s) (Hj s))
  (h : ∀ K : Act → World → Prop, (∀ s, V s → KX K C (Lj s) (Hj s)) → WC P x (Exit.then K Q) C L H) : WC P (.seq x y) Q C L H :=
 fun a w hf hp => wp_seq (h _ (fun s hs => hy s hs) a w hf hp)
theorem b7 (h : QX Q .normal C L H) : WC P .skip Q C L H := fun a w hf hp => wp_skip (h a w hf hp)
theorem b9 (h : QX Q .ret C L H) : WC P .ret Q C L H := fun a w hf hp => wp_ret (h a w hf hp)
theorem t8 {id : Nat} (h : QX Q (.exit id) C L H) : WC P (.exit id) Q C L H := fun a w hf hp => wp_exit (h a w hf hp)
theorem g8 {id : Nat} {c : Code} (h : WC P c (Exit.inBlock id Q) C L H) : WC P (.block id c) Q C L H := fun a w hf hp => wp_block (h a w hf hp)
theorem b5 {c : Operand} {x y : Code} {b : Bool} (hc : ev L c = some (.bool b)) (ht : b = true → WC P x Q C L H) (hf : b = false → WC P y Q C L H) : WC P (.cond c x y) Q C L H :=
 fun a w hfr hp => wp_cond_split (hfr.ev hc) (fun h => ht h a w hfr hp) (fun h => hf h a w hfr hp)
theorem aai {c : Operand} {x y : Code} (hc : ev L c = some (.bool true)) (ht : WC P x Q C L H) : WC P (.cond c x y) Q C L H := fun a w hfr hp => wp_cond_true (hfr.ev hc) (ht a w hfr hp)
theorem n6 {c : Operand} {x y : Code} (hc : ev L c = some (.bool false)) (ht : WC P y Q C L H) : WC P (.cond c x y) Q C L H := fun a w hfr hp => wp_cond_false (hfr.ev hc) (ht a w hfr hp)
theorem a4 {id : Nat} {l : List Oper} (h : WL P l.toArray Q C L H l) : WC P (.region id l.toArray false) Q C L H := fun a w hf hp => wp_region_lit (h a w hf hp)
theorem ami {S : Type} {c : Code} {Q : Exit → Act → World → Prop} {a : Act} {w : World} (I : S → Act → World → Prop) (μ : S → Nat) (s0 : S) (h0 : I s0 a w)
  (round : ∀ s a w, I s a w → c.wp P (Exit.then (fun a' w' => ∃ s', I s' a' w' ∧ μ s' < μ s) Q) a w) : (Code.loop c).wp P Q a w := by
 intro b k cs
 have key : ∀ n s a w, μ s = n → I s a w →
   ∃ e a' w', Q e a' w' ∧ Arrives P (lone (b.at a (.code c :: .inLoop c :: k)) cs w) b k cs e a' w' := by
  intro n
  induction n using Nat.strongRecOn with
  | _ n ih =>
   intro s a w hn hI
   obtain ⟨e, a₁, w₁, hq, harr⟩ := round s a w hI b (.inLoop c :: k) cs
   cases e with
   | normal =>
    obtain ⟨s', hI₁, hlt⟩ := hq
    obtain ⟨e₂, a₂, w₂, hq₂, harr₂⟩ := ih (μ s') (hn ▸ hlt) s' a₁ w₁ rfl hI₁
    exact ⟨e₂, a₂, w₂, hq₂, .of_steps (Steps.trans harr (.one step_inLoop)) harr₂⟩
   | exit id => exact ⟨_, a₁, w₁, hq, .pass (x := .inLoop c) rfl (fun _ _ => .inl (by simp)) harr⟩
   | goto l => exact ⟨_, a₁, w₁, hq, .pass (x := .inLoop c) rfl (fun _ _ => .inl (by simp)) harr⟩
   | ret => exact ⟨_, a₁, w₁, hq, .pass (x := .inLoop c) rfl (fun _ _ => .inl (by simp)) harr⟩
   | panic ch => exact ⟨_, a₁, w₁, hq, .pass (x := .inLoop c) rfl (fun _ _ => .inl (by simp)) harr⟩
   | outgrown => exact ⟨_, a₁, w₁, hq, .pass (x := .inLoop c) rfl (fun _ _ => .inl (by simp)) harr⟩
 obtain ⟨e, a', w', hq, harr⟩ := key _ s0 a w rfl h0
 exact ⟨e, a', w', hq, .of_steps (.one step_loop) harr⟩
theorem aaj {S : Type} {c : Code} (I : S → Prop) (μ : S → Nat) (Ls : S → Sl) (Hs : S → List HA) (s0 : S) (h0 : I s0) (hs : Sub L (Ls s0)) (hH : H = Hs s0)
  (round : ∀ s, I s → ∀ K : Act → World → Prop, (∀ s', I s' → μ s' < μ s → KX K C (Ls s') (Hs s')) → WC P c (Exit.then K Q) C (Ls s) (Hs s)) : WC P (.loop c) Q C L H :=
 fun _ _ hf hp => ami (fun s a w => I s ∧ Fr C (Ls s) a ∧ Hp C (Hs s) w) μ s0 ⟨h0, hf.sub hs, hH ▸ hp⟩
  fun s _ _ ⟨hI, hf, hp⟩ => round s hI _ (fun s' hI' hlt _ _ hf' hp' => ⟨s', ⟨hI', hf', hp'⟩, hlt⟩) _ _ hf hp
def r9 (ops : Array Oper) (L : Sl) (o : Oper) : Option Bool :=
 match o.guard with
 | none => some true
 | some (j, b) => match ops[j]? with
  | some oj => match oj.dst with
   | some d => match L.get d with
    | some (.bool c) => some (c == b)
    | some (.tuple _) => some false
    | _ => none
   | none => none
  | none => none
theorem m3 {a : Act} {b : Bool} (hf : Fr C L a) (h : r9 ops L o = some b) : Region.wanted o (yielded ops a.tmps) = b := by
 unfold r9 at h
 unfold Region.wanted
 split at h
 ·rename_i hg; rw [hg]; simpa using h
 ·rename_i j b' hg
  rw [hg]
  split at h
  ·rename_i oj hoj
   split at h
   ·rename_i d hd
    split at h
    ·rename_i c hc
     have := hf.get d _ hc
     simp only [yielded, hoj, hd, Option.bind_some, this]
     cases c <;> cases b' <;> simpa using h
    ·rename_i vs hc
     have := hf.get d _ hc
     simp only [yielded, hoj, hd, Option.bind_some, this]
     simpa using h
    ·cases h
   ·cases h
  ·cases h
theorem w8 {Q : Exit → Act → World → Prop} {a : Act} {w : World} (hw : Region.wanted o (yielded ops a.tmps) = true) (h : o.wp P a w (wpList P ops Q rest) Q) : wpList P ops Q (o :: rest) a w := by
 unfold wpList; rw [if_pos hw]; exact .inl h
def OV (P : Program) (C : Cx) (L : Sl) (H : List HA) (o : Oper) (v : Value) : Prop := ∀ a w, Fr C L a → Hp C H w → (execOp a.eval o).run P w = .ok (.value v) w
theorem WL.val {v : Value} {d : Nat} (hv : OV P C L H o v) (hw : r9 ops L o = some true) (hd : o.dst = some d) (hn : Nat.blt d C.n = true) (h : WL P ops Q C ((d, v) :: L) H rest) : WL P ops Q C L H (o :: rest) := by
 intro a w hf hp
 refine w8 (m3 hf hw) ?_
 unfold Oper.wp
 rw [hv a w hf hp]
 simp only [Oper.upon, hd]
 exact h _ _ (hf.put hn v) hp
theorem WL.skip {d : Nat} (hw : r9 ops L o = some false) (hd : o.dst = some d) (hn : Nat.blt d C.n = true) (h : WL P ops Q C ((d, undef) :: L) H rest) : WL P ops Q C L H (o :: rest) := by
 intro a w hf hp
 unfold wpList
 rw [m3 hf hw]
 simp only [Bool.false_eq_true, if_false, hd]
 exact h _ _ (hf.put hn undef) hp
theorem WL.nil (h : QX Q .normal C L H) : WL P ops Q C L H [] := fun a w hf hp => h a w hf hp
theorem WL.end_ {K : Act → World → Prop} (h : KX K C L H) : WL P ops (Exit.then K Q) C L H [] := fun a w hf hp => h a w hf hp
theorem alk {Q : Exit → Act → World → Prop} {l2 : List Oper} : ∀ {l1 : List Oper} {a : Act} {w : World}, wpList P ops (Exit.then (wpList P ops Q l2) Q) l1 a w → wpList P ops Q (l1 ++ l2) a w
 | [], _, _, h => h
 | o :: l1, a, w, h => by
  have ih : ∀ {a w}, wpList P ops (Exit.then (wpList P ops Q l2) Q) l1 a w → wpList P ops Q (l1 ++ l2) a w := alk
  rw [List.cons_append]
  unfold wpList at h ⊢
  split
  ·rename_i hw
   rw [if_pos hw] at h
   rcases h with h | ⟨h1, h2⟩
   ·left
    unfold Oper.wp at h ⊢
    generalize (execOp a.eval o).run P w = r at h ⊢
    cases r with
    | ok m w' =>
     cases m <;> simp only [Oper.upon] at h ⊢ <;>
      first
       | exact ih h
       | exact Calls.mono h (fun e w'' he => by cases e <;> first | exact ih he | exact he | (obtain ⟨a0, w0, h0⟩ := he; exact ⟨a0, w0, h0⟩))
       | exact Rows.mono h (fun _ _ he => ih he)
    | halt x w' => cases x <;> simp only [Oper.upon] at h ⊢ <;> exact h
   ·exact .inr ⟨h1, by obtain ⟨a0, w0, h0⟩ := h2; exact ⟨a0, w0, h0⟩⟩
  ·rename_i hw
   rw [if_neg hw] at h
   exact ih h
theorem WL.cut {l : List Oper} (k : Nat) (Lj : Sl) (hj : WL P ops Q C Lj H (l.drop k)) (h : ∀ K : Act → World → Prop, KX K C Lj H → WL P ops (Exit.then K Q) C L H (l.take k)) : WL P ops Q C L H l := by
 intro a w hf hp
 have := alk (P := P) (ops := ops) (Q := Q) (l1 := l.take k) (l2 := l.drop k) (h _ hj a w hf hp)
 rwa [List.take_append_drop] at this
theorem WL.split {l : List Oper} (b : Bool) (ht : b = true → WL P ops Q C L H l) (hf : b = false → WL P ops Q C L H l) : WL P ops Q C L H l := by
 cases b
 ·exact hf rfl
 ·exact ht rfl
section ov
variable {x y z : Operand} {u v : Value} {t t' ty : TypeId} {d : Option Tmp} {p : String} {e : Array Edge} {g : Option (Nat × Bool)} {n m : Int} {k k' : IntKind}
theorem OV.move (hx : ev L x = some v) : OV P C L H ⟨d, .move x, ty, p, e, g⟩ v := fun a w hf _ => by simp [execOp, hf.ev hx]
theorem OV.assign (hx : ev L x = some v) : OV P C L H ⟨d, .assign x, ty, p, e, g⟩ v := fun a w hf _ => by simp [execOp, hf.ev hx]
theorem OV.pick {b : Bool} (hc : ev L x = some (.bool b)) (hy : ev L y = some u) (hz : ev L z = some v) {r : Value} (hr : (if b then u else v) = r) : OV P C L H ⟨d, .pick x y z, ty, p, e, g⟩ r := fun a w hf _ => by
 subst hr; cases b <;> simp [execOp, hf.ev hc, hf.ev hy, hf.ev hz, asBool]
theorem OV.pickT (hc : ev L x = some (.bool true)) (hy : ev L y = some u) : OV P C L H ⟨d, .pick x y z, ty, p, e, g⟩ u := fun a w hf _ => by simp [execOp, hf.ev hc, hf.ev hy, asBool]
theorem OV.pickF (hc : ev L x = some (.bool false)) (hz : ev L z = some v) : OV P C L H ⟨d, .pick x y z, ty, p, e, g⟩ v := fun a w hf _ => by simp [execOp, hf.ev hc, hf.ev hz, asBool]
theorem OV.not {b : Bool} (hx : ev L x = some (.bool b)) : OV P C L H ⟨d, .unOp .not t x, ty, p, e, g⟩ (.bool (!b)) := fun a w hf _ => by simp [execOp, hf.ev hx, Op.unary]
def I64 (n : Int) : Prop := -9223372036854775808 ≤ n ∧ n ≤ 9223372036854775807
theorem I64.wrap {n : Int} (h : I64 n) : IntKind.i64.wrap n = n := IntWalk.i64_in _ ⟨by have := h.1; omega, by have := h.2; omega⟩
theorem OV.add (hx : ev L x = some (.int .i64 n)) (hy : ev L y = some (.int .i64 m)) (hb : I64 (n + m)) : OV P C L H ⟨d, .binOp .add t x y t', ty, p, e, g⟩ (.int .i64 (n + m)) := fun a w hf _ => by
 simp [execOp, hf.ev hx, hf.ev hy, eqGuard, binOp, Op.intArith, hb.wrap]
theorem OV.sub (hx : ev L x = some (.int .i64 n)) (hy : ev L y = some (.int .i64 m)) (hb : I64 (n - m)) : OV P C L H ⟨d, .binOp .sub t x y t', ty, p, e, g⟩ (.int .i64 (n - m)) := fun a w hf _ => by
 simp [execOp, hf.ev hx, hf.ev hy, eqGuard, binOp, Op.intArith, hb.wrap]
theorem OV.mul (hx : ev L x = some (.int .i64 n)) (hy : ev L y = some (.int .i64 m)) (hb : I64 (n * m)) : OV P C L H ⟨d, .binOp .mul t x y t', ty, p, e, g⟩ (.int .i64 (n * m)) := fun a w hf _ => by
 simp [execOp, hf.ev hx, hf.ev hy, eqGuard, binOp, Op.intArith, hb.wrap]
theorem OV.subW (hx : ev L x = some (.int k n)) (hy : ev L y = some (.int k m)) : OV P C L H ⟨d, .binOp .sub t x y t', ty, p, e, g⟩ (.int k (k.wrap (n - m))) := fun a w hf _ => by
 simp [execOp, hf.ev hx, hf.ev hy, eqGuard, binOp, Op.intArith]
theorem OV.lss (hx : ev L x = some (.int k n)) (hy : ev L y = some (.int k m)) : OV P C L H ⟨d, .binOp .lss t x y t', ty, p, e, g⟩ (.bool (decide (n < m))) := fun a w hf _ => by
 simp [execOp, hf.ev hx, hf.ev hy, eqGuard, binOp, Op.intCmp]
theorem OV.leq (hx : ev L x = some (.int k n)) (hy : ev L y = some (.int k m)) : OV P C L H ⟨d, .binOp .leq t x y t', ty, p, e, g⟩ (.bool (decide (n ≤ m))) := fun a w hf _ => by
 simp [execOp, hf.ev hx, hf.ev hy, eqGuard, binOp, Op.intCmp]
theorem OV.gtr (hx : ev L x = some (.int k n)) (hy : ev L y = some (.int k m)) : OV P C L H ⟨d, .binOp .gtr t x y t', ty, p, e, g⟩ (.bool (decide (m < n))) := fun a w hf _ => by
 simp [execOp, hf.ev hx, hf.ev hy, eqGuard, binOp, Op.intCmp]
theorem OV.geq (hx : ev L x = some (.int k n)) (hy : ev L y = some (.int k m)) : OV P C L H ⟨d, .binOp .geq t x y t', ty, p, e, g⟩ (.bool (decide (m ≤ n))) := fun a w hf _ => by
 simp [execOp, hf.ev hx, hf.ev hy, eqGuard, binOp, Op.intCmp]
theorem OV.eql (hx : ev L x = some (.int k n)) (hy : ev L y = some (.int k m)) : OV P C L H ⟨d, .binOp .eql t x y t', ty, p, e, g⟩ (.bool (decide (n = m))) := fun a w hf _ => by
 have : (n == m) = decide (n = m) := by rw [Bool.eq_iff_iff]; simp
 simp [execOp, hf.ev hx, hf.ev hy, eqGuard, binOp, Op.intCmp, this]
theorem OV.neq (hx : ev L x = some (.int k n)) (hy : ev L y = some (.int k m)) : OV P C L H ⟨d, .binOp .neq t x y t', ty, p, e, g⟩ (.bool (!decide (n = m))) := fun a w hf _ => by
 have : (n != m) = !decide (n = m) := by rw [Bool.eq_iff_iff]; simp
 simp [execOp, hf.ev hx, hf.ev hy, eqGuard, binOp, Op.intCmp, this]
theorem r8 {t : TypeId} {dd : TypeDesc} (h : P.underlying t = some dd) (w : World) : (underlying t).run P w = .ok dd w := run_underlying h w
theorem ax7 {t : TypeId} {b c : Bool} (ht : P.underlying t = some .bool) (w : World) : (Op.equal t (.bool b) (.bool c)).run P w = .ok (b == c) w := by
 unfold Op.equal Op.maxDepth Op.equalIn
 rw [Sem.run_bind, r8 ht]; rfl
theorem OV.eqlB {b c : Bool} (hx : ev L x = some (.bool b)) (hy : ev L y = some (.bool c)) (ht : P.underlying t = some .bool) : OV P C L H ⟨d, .binOp .eql t x y t', ty, p, e, g⟩ (.bool (b == c)) := fun a w hf _ => by
 have h : binOp .eql t (.bool b) (.bool c) = (do pure (.bool (← Op.equal t (.bool b) (.bool c)))) := rfl
 simp only [execOp, hf.ev hx, hf.ev hy, eqGuard_at_bool, h, Sem.run_bind, Sem.run_pure, Result.andThen_ok, ax7 ht]
theorem apq {t t' : TypeId} {k k' : IntKind} {n : Int} (hs : (P.underlying t).isSome = true) (ht : P.underlying t' = some (.int k)) (w : World) : (convert t t' (.int k' n)).run P w = .ok (.int k (k.wrap n)) w := by
 obtain ⟨ds, hd⟩ := Option.isSome_iff_exists.1 hs
 unfold convert
 rw [Sem.run_bind, r8 hd, Result.andThen_ok, Sem.run_bind, r8 ht, Result.andThen_ok]
 rfl
theorem OV.conv (hx : ev L x = some (.int k' n)) (hs : (P.underlying t).isSome = true) (ht : P.underlying t' = some (.int k)) : OV P C L H ⟨d, .convert t t' x, ty, p, e, g⟩ (.int k (k.wrap n)) := fun a w hf _ => by
 simp [execOp, hf.ev hx, apq hs ht]
theorem OV.conv64 (hx : ev L x = some (.int k' n)) (hs : (P.underlying t).isSome = true) (ht : P.underlying t' = some (.int .i64)) (hb : I64 n) : OV P C L H ⟨d, .convert t t' x, ty, p, e, g⟩ (.int .i64 n) := fun a w hf _ => by
 simp [execOp, hf.ev hx, apq hs ht, hb.wrap]
theorem OV.extract {vs : Array Value} (i : Nat) (hx : ev L x = some (.tuple vs)) (hi : vs[i]? = some v) : OV P C L H ⟨d, .extract x i, ty, p, e, g⟩ v := fun a w hf _ => by
 simp [execOp, hf.ev hx, Instr.extract, hi]
theorem OV.nilCheck {ad : Addr} (hx : ev L x = some (.pointer (some ad))) : OV P C L H ⟨d, .nilCheck x, ty, p, e, g⟩ (.pointer (some ad)) := fun a w hf _ => by
 simp [execOp, hf.ev hx]
theorem OV.iface (hx : ev L x = some v) (ht : P.concrete t = true) : OV P C L H ⟨d, .makeInterface t x, ty, p, e, g⟩ (.iface t v) := fun a w hf _ => by
 simp [execOp, hf.ev hx, run_makeInterface w t v ht]
end ov
end Go.Proofs.YtohnchdnkbadaaaDoor
namespace Go.Proofs.YtohnchdnkbadaaaDoor
open Go Go.RowKit
variable {P : Program} {ops : Array Oper} {Q : Exit → Act → World → Prop} {C : Cx} {L : Sl} {H : List HA} {rest : List Oper} {o : Oper}
abbrev st (l : List UInt8) : Value := .string ⟨l.toArray⟩
def arr (n : Nat) (g : Nat → Value) : List Value := (List.range n).map g
theorem d7 (n : Nat) (g : Nat → Value) : (arr n g).length = n := by simp [arr]
theorem acr {n i : Nat} {g : Nat → Value} (h : i < n) : (arr n g)[i]? = some (g i) := by simp [arr, h]
theorem ays {n i : Nat} {g : Nat → Value} {v : Value} : (arr n g).set i v = arr n (fun j => if j = i then v else g j) := by
 apply List.ext_getElem?
 intro j
 rw [List.getElem?_set]
 simp only [arr, List.length_map, List.length_range, List.getElem?_map]
 by_cases hj : j < n
 ·rw [List.getElem?_eq_getElem (by simpa using hj)]
  by_cases e : i = j
  ·subst e; simp [hj]
  ·rw [if_neg e]; simp [show ¬ j = i from fun h => e h.symm]
 ·rw [List.getElem?_eq_none (by simpa using hj)]
  split <;> simp_all
theorem avd {n : Nat} {g g' : Nat → Value} (h : ∀ i, i < n → g i = g' i) : arr n g = arr n g' := by
 unfold arr; exact List.map_congr_left fun i hi => h i (List.mem_range.1 hi)
def At (C : Cx) (H : List HA) (b : Nat) (o : Obj) : Prop := ∀ w, Hp C H w → w.heap[b]? = some o
theorem At.own {b : Nat} {ob : Obj} (i : Nat) (hi : H[i]? = some (.blk b ob)) : At C H b ob := fun _ hp => hp.blk hi
theorem At.ro {b : Nat} {ob : Obj} (i : Nat) (hi : C.R[i]? = some (b, ob)) : At C H b ob := fun _ hp => hp.old (List.mem_of_getElem? hi)
theorem At.old {b : Nat} {ob : Obj} (hb : (b, ob) ∈ C.R) : At C H b ob := fun _ hp => hp.old hb
def abw (P : Program) (t : TypeId) : Bool := match P.underlying t with | some d => !d.isRow | none => false
def l9 (P : Program) (t : TypeId) (i : Nat) : Option Nat := match P.underlying t with
 | some (.struct fs) => match fs[i]? with
  | some f => match (P.info? f.type).map (·.size) with
   | some n => if n = 0 then none else some f.offset
   | none => none
  | none => none
 | _ => none
def s8 (P : Program) (t : TypeId) (n : Nat) : Bool := (P.info? t).map (·.size) == some n
theorem ab5 {t : TypeId} {n : Nat} (h : s8 P t n = true) (w : World) : (sizeOf t).run P w = .ok n w := by
 unfold s8 at h
 cases hq : P.info? t with
 | none => simp [hq] at h
 | some i => simp [hq] at h; simp [sizeOf, typeInfo, hq, h]
theorem ab9 {t : TypeId} (h : abw P t = true) (w : World) : (isAgg t).run P w = .ok false w := by
 unfold abw at h
 split at h
 ·rename_i d hd
  unfold isAgg
  rw [Sem.run_bind, r8 hd]
  cases d <;> simp_all
 ·cases h
def ao5 (P : Program) (t e : TypeId) (n sz : Nat) : Bool := (match P.underlying t with | some (.array m f) => m == n && f == e | _ => false) && s8 P e sz
def slB (P : Program) (t e : TypeId) (sz : Nat) : Bool := (match P.underlying t with | some (.slice f) => f == e | _ => false) && s8 P e sz
theorem am8 {t e : TypeId} {n sz : Nat} (h : ao5 P t e n sz = true) : P.underlying t = some (.array n e) ∧ s8 P e sz = true := by
 unfold ao5 at h
 rw [Bool.and_eq_true] at h
 refine ⟨?_, h.2⟩
 have h1 := h.1
 split at h1
 ·rename_i m f hd; simp at h1; rw [hd, h1.1, h1.2]
 ·cases h1
theorem aau {t e : TypeId} {sz : Nat} (h : slB P t e sz = true) : P.underlying t = some (.slice e) ∧ s8 P e sz = true := by
 unfold slB at h
 rw [Bool.and_eq_true] at h
 refine ⟨?_, h.2⟩
 have h1 := h.1
 split at h1
 ·rename_i f hd; simp at h1; rw [hd, h1]
 ·cases h1
def axd (P : Program) (t : TypeId) : Bool := match P.underlying t with | some .string => true | _ => false
theorem amz {t : TypeId} (h : axd P t = true) : P.underlying t = some .string := by
 unfold axd at h; split at h
 ·assumption
 ·cases h
section ov
variable {x y z : Operand} {u v : Value} {t t' ty e' : TypeId} {d : Option Tmp} {p : String} {e : Array Edge} {g : Option (Nat × Bool)} {n m : Int} {k k' : IntKind} {b off sz : Nat}
theorem OV.fieldAddr {i f : Nat} (hx : ev L x = some (.pointer (some ⟨b, off, none⟩))) (hf : l9 P t i = some f) : OV P C L H ⟨d, .fieldAddr t x i, ty, p, e, g⟩ (.pointer (some ⟨b, off + f, none⟩)) := fun a w hfr _ => by
 unfold l9 at hf
 split at hf
 ·rename_i fs hu
  split at hf
  ·rename_i fl hfl
   split at hf
   ·rename_i nn hs
    have hsz : (sizeOf fl.type).run P w = .ok nn w := ab5 (by unfold s8; rw [hs]; simp) w
    split at hf
    ·cases hf
    ·rename_i hnz
     have hf' : fl.offset = f := by simpa using hf
     simp [execOp, hfr.ev hx, Instr.fieldAt, r8 hu, hfl, Instr.sureAddr, fieldPlace, hsz, hnz, hf', Addr.add_mid]
   ·cases hf
  ·cases hf
 ·cases hf
theorem OV.fieldAddr0 {i : Nat} (hx : ev L x = some (.pointer (some ⟨b, 0, none⟩))) {f : Nat} (hf : l9 P t i = some f) : OV P C L H ⟨d, .fieldAddr t x i, ty, p, e, g⟩ (.pointer (some ⟨b, f, none⟩)) := by
 have := OV.fieldAddr (C := C) (H := H) (d := d) (ty := ty) (p := p) (e := e) (g := g) hx hf
 rwa [Nat.zero_add] at this
theorem OV.indexAddr {nn : Nat} {i : Int} (hx : ev L x = some (.pointer (some ⟨b, off, none⟩))) (hy : ev L y = some (.int k i)) (ht : ao5 P t e' nn sz = true) (hb : 0 ≤ i ∧ i < nn) {off' : Nat} (he : off + i.toNat * sz = off') :
  OV P C L H ⟨d, .indexAddr t x y, ty, p, e, g⟩ (.pointer (some ⟨b, off', none⟩)) := fun a w hfr _ => by
 obtain ⟨hu, hs⟩ := am8 ht
 subst he
 simp [execOp, hfr.ev hx, hfr.ev hy, Instr.indexAt, r8 hu, asIntOf, Instr.sureAddr, hb, ab5 hs, Addr.add_mid]
theorem OV.indexAddr1 {nn : Nat} {i : Int} (hx : ev L x = some (.pointer (some ⟨b, 0, none⟩))) (hy : ev L y = some (.int k i)) (ht : ao5 P t e' nn 1 = true) (hb : 0 ≤ i ∧ i < nn) :
  OV P C L H ⟨d, .indexAddr t x y, ty, p, e, g⟩ (.pointer (some ⟨b, i.toNat, none⟩)) := OV.indexAddr hx hy ht hb (by omega)
theorem OV.indexSl {nn cap : Nat} {i : Int} (hx : ev L x = some (.slice (some ⟨b, off, none⟩) nn cap)) (hy : ev L y = some (.int k i)) (ht : slB P t e' sz = true) (hb : 0 ≤ i ∧ i < nn) {off' : Nat} (he : off + i.toNat * sz = off') :
  OV P C L H ⟨d, .indexAddr t x y, ty, p, e, g⟩ (.pointer (some ⟨b, off', none⟩)) := fun a w hfr _ => by
 obtain ⟨hu, hs⟩ := aau ht
 subst he
 simp [execOp, hfr.ev hx, hfr.ev hy, Instr.indexAt, r8 hu, asIntOf, hb, ab5 hs, Addr.add_mid]
theorem OV.load {cs : List Value} {T : TypeId} {fr : Nat × Nat} (hx : ev L x = some (.pointer (some ⟨b, off, none⟩))) (hb : At C H b (.cells cs.toArray T fr)) (hc : cs[off]? = some v) (ht : abw P t = true) :
  OV P C L H ⟨d, .load t x, ty, p, e, g⟩ v := fun a w hfr hp => by
 have hcell : w.cell? ⟨b, off, none⟩ = some v := by simp [World.cell?, hb w hp, hc]
 simp [execOp, hfr.ev hx, Instr.loadAt, Instr.sureAddr, loadVar, ab9 ht, hcell]
theorem as6 {cs : List Value} {T : TypeId} {fr : Nat × Nat} {w : World} (hb : w.heap[b]? = some (.cells cs.toArray T fr)) {vs : List Value} (hv : (cs.drop off).take vs.length = vs) : w.rangeAt b off vs := fun j u hj => by
 have hlt : j < vs.length := (List.getElem?_eq_some_iff.1 hj).1
 have : cs[off + j]? = some u := by
  rw [← hv] at hj
  rw [List.getElem?_take, if_pos hlt, List.getElem?_drop] at hj
  exact hj
 simp [World.cell?, hb, this]
theorem OV.loadM {cs vs : List Value} {T : TypeId} {fr : Nat × Nat} (hx : ev L x = some (.pointer (some ⟨b, off, none⟩))) (hb : At C H b (.cells cs.toArray T fr)) (hv : (cs.drop off).take vs.length = vs) (ht : RowT P t vs.length) :
  OV P C L H ⟨d, .load t x, ty, p, e, g⟩ (.agg vs.toArray) := fun a w hfr hp => by
 obtain ⟨dd, hu, hd⟩ : ∃ dd, P.underlying t = some dd ∧ dd.isRow = true := by
  rcases ht.desc with ⟨_, h⟩ | ⟨_, _, h⟩ <;> exact ⟨_, h, rfl⟩
 simp [execOp, hfr.ev hx, run_loadAt_mid w b off t vs dd (as6 (hb w hp) hv) hu hd ht.size]
theorem OV.loadR {cs : List Value} {T : TypeId} {fr : Nat × Nat} (hx : ev L x = some (.pointer (some ⟨b, 0, none⟩))) (hb : At C H b (.cells cs.toArray T fr)) (ht : RowT P t cs.length) :
  OV P C L H ⟨d, .load t x, ty, p, e, g⟩ (.agg cs.toArray) := OV.loadM hx hb (by simp) ht
theorem OV.index {l : List UInt8} {i : Int} (hx : ev L x = some (st l)) (hy : ev L y = some (.int k i)) (ht : axd P t = true) (hb : 0 ≤ i ∧ i < l.length) : OV P C L H ⟨d, .index t x y, ty, p, e, g⟩ (.int .u8 ((l.getD i.toNat 0).toNat : Int)) := fun a w hf _ => by
 have hlt : i.toNat < l.length := by omega
 have hc : 0 ≤ i ∧ i < (ByteArray.size ⟨l.toArray⟩ : Nat) := by simpa [ByteArray.size] using hb
 have hg : (ByteArray.mk l.toArray)[i.toNat]'(by simpa [ByteArray.size] using hlt) = l.getD i.toNat 0 := by
  rw [List.getD_eq_getElem?_getD, List.getElem?_eq_getElem hlt]
  show l.toArray[i.toNat]'_ = _
  simp
 simp only [execOp, hf.ev hx, hf.ev hy, Sem.run_bind, run_index_string w t _ k i (amz ht), dif_pos hc, hg, Result.andThen_ok, Sem.run_pure]
theorem OV.len {l : List UInt8} (hx : ev L x = some (st l)) (ht : axd P t = true) : OV P C L H ⟨d, .call ⟨.builtin .len, #[x], #[t]⟩, ty, p, e, g⟩ (.int .i64 (l.length : Int)) := fun a w hf _ => by
 have := run_len_string (P := P) w t ty ⟨l.toArray⟩ (amz ht)
 simp only [execOp, resolve, invoke, builtin, Sem.run_bind, Sem.run_pure, Result.andThen_ok, List.map_toArray, List.map_cons, List.map_nil, hf.ev hx, this]
 simp [goInt, ByteArray.size]
theorem OV.lenS {a0 : Option Addr} {nn cap : Nat} (hx : ev L x = some (.slice a0 nn cap)) (ht : slB P t e' sz = true) : OV P C L H ⟨d, .call ⟨.builtin .len, #[x], #[t]⟩, ty, p, e, g⟩ (.int .i64 (nn : Int)) := fun a w hf _ => by
 have hu := (aau ht).1
 have : (Builtin.len_ #[t] ty #[.slice a0 nn cap]).run P w = .ok (goInt nn) w := by simp [Builtin.len_, r8 hu]
 simp only [execOp, resolve, invoke, builtin, Sem.run_bind, Sem.run_pure, Result.andThen_ok, List.map_toArray, List.map_cons, List.map_nil, hf.ev hx, this]
 rfl
theorem OV.cat {l r : List UInt8} (hx : ev L x = some (st l)) (hy : ev L y = some (st r)) (hb : l.length + r.length ≤ 9223372036854775807) : OV P C L H ⟨d, .binOp .add t x y t', ty, p, e, g⟩ (st (l ++ r)) := fun a w hf _ => by
 have h1 := run_string_add_sum (P := P) w ⟨l.toArray⟩ ⟨r.toArray⟩ (by simpa [ByteArray.size] using hb)
 have h2 : binOp .add t (st l) (st r) = Op.stringOp .add ⟨l.toArray⟩ ⟨r.toArray⟩ := rfl
 simp only [execOp, hf.ev hx, hf.ev hy, eqGuard_add, Sem.run_bind, Sem.run_pure, Result.andThen_ok, h2, h1]
 rw [ByteArray.mk_append_mk]
theorem OV.eqlS {l r : List UInt8} (hx : ev L x = some (st l)) (hy : ev L y = some (st r)) : OV P C L H ⟨d, .binOp .eql t x y t', ty, p, e, g⟩ (.bool (decide (l = r))) := fun a w hf _ => by
 have h2 : binOp .eql t (st l) (st r) = pure (.bool ((⟨l.toArray⟩ : ByteArray).toList == (⟨r.toArray⟩ : ByteArray).toList)) := rfl
 have h3 : ((⟨l.toArray⟩ : ByteArray).toList == (⟨r.toArray⟩ : ByteArray).toList) = decide (l = r) := by
  rw [ByteArray.toList_eq, ByteArray.toList_eq, Bool.eq_iff_iff]; simp
 simp only [execOp, hf.ev hx, hf.ev hy, eqGuard_at_string, Sem.run_bind, Sem.run_pure, Result.andThen_ok, h2, h3]
theorem OV.neqS {l r : List UInt8} (hx : ev L x = some (st l)) (hy : ev L y = some (st r)) : OV P C L H ⟨d, .binOp .neq t x y t', ty, p, e, g⟩ (.bool (!decide (l = r))) := fun a w hf _ => by
 have h2 : binOp .neq t (st l) (st r) = pure (.bool (!((⟨l.toArray⟩ : ByteArray).toList == (⟨r.toArray⟩ : ByteArray).toList))) := rfl
 have h3 : ((⟨l.toArray⟩ : ByteArray).toList == (⟨r.toArray⟩ : ByteArray).toList) = decide (l = r) := by
  rw [ByteArray.toList_eq, ByteArray.toList_eq, Bool.eq_iff_iff]; simp
 simp only [execOp, hf.ev hx, hf.ev hy, eqGuard_at_string, Sem.run_bind, Sem.run_pure, Result.andThen_ok, h2, h3]
end ov
end Go.Proofs.YtohnchdnkbadaaaDoor
