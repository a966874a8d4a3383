/-
  A region whose order is drawn, where every operation of its head gives one value in every world of a class S and stays in S, may be walked in the order of the text.
-/
import Derived.StillTail
import Derived.Below
import Derived.WalkKit
namespace Go.Proofs.YtlfolgbaageknaaDoor
open Go Go.RowKit

section
variable {P : Program} {ops : Array Oper} {md : Region.Mode} {S : World → Prop}

/-- The result of an operation: the value v, in a world of the class. -/
def Gives (P : Program) (S : World → Prop) (v : Value) : Result Next → Prop
  | .ok (.value u) w' => u = v ∧ S w'
  | .ok .skip w' => undef = v ∧ S w'
  | .ok (.enter f args) w' => Calls P f args w' fun e w'' => e = .returned v ∧ S w''
  | _ => False

/-- In the state a, from every world of the class, the operation gives v. -/
def FlowGives (P : Program) (ops : Array Oper) (S : World → Prop) (o : Oper) (v : Value) (a : Act) : Prop :=
  (Region.wanted o (yielded ops a.tmps) = true ∧ ∀ w, S w → Gives P S v ((execOp a.eval o).run P w)) ∨
  (Region.wanted o (yielded ops a.tmps) = false ∧ v = undef)

theorem FlowGives.of_same {o : Oper} {v : Value} {a a' : Act} (hy : FlowGives P ops S o v a) (he : execOp a'.eval o = execOp a.eval o)
    (hw : Region.wanted o (yielded ops a'.tmps) = Region.wanted o (yielded ops a.tmps)) : FlowGives P ops S o v a' := by
  unfold FlowGives at *; rw [he, hw]; exact hy

/-- One operation by its number. -/
def flOp (P : Program) (ops : Array Oper) (S : World → Prop) (i : Nat) (K : Act → Prop) (a : Act) : Prop :=
  match ops[i]? with
  | none => K a
  | some o => ∃ v, FlowGives P ops S o v a ∧ K (a.put o.dst v)

theorem flOp_mono {i : Nat} {a : Act} {K K' : Act → Prop} (h : ∀ a, K a → K' a) (hh : flOp P ops S i K a) : flOp P ops S i K' a := by
  unfold flOp at *
  split
  · exact h _ (by simpa [*] using hh)
  · rename_i o ho
    simp only [ho] at hh
    obtain ⟨v, hy, hk⟩ := hh
    exact ⟨v, hy, h _ hk⟩

theorem FlowGives.flOp {i : Nat} {o : Oper} {v : Value} {a : Act} (hi : ops[i]? = some o) (hy : FlowGives P ops S o v a) {K : Act → Prop} (h : K (a.put o.dst v)) : flOp P ops S i K a := by
  unfold YtlfolgbaageknaaDoor.flOp; simp only [hi]; exact ⟨v, hy, h⟩

theorem flOp_put {j : Nat} {oi oj : Oper} {v : Value} (hj : ops[j]? = some oj) (hap : oi.apart ops oj = true)
    (hsi : ∀ cs b, oi.op ≠ .select cs b) (hsj : ∀ cs b, oj.op ≠ .select cs b) {K : Act → Prop} {a : Act}
    (hy : FlowGives P ops S oi v a) (h : flOp P ops S j K (a.put oi.dst v)) :
    flOp P ops S j (fun a' => FlowGives P ops S oi v a' ∧ K (a'.put oi.dst v)) a := by
  obtain ⟨h1, h2, h3⟩ := Oper.apart_spec hap
  unfold flOp at *
  simp only [hj] at *
  obtain ⟨u, hu, hk⟩ := h
  refine ⟨u, hu.of_same (execOp_put oj hsj a oi.dst v h1).symm (wanted_put oj a oi.dst v h1).symm, ?_, ?_⟩
  · exact hy.of_same (execOp_put oi hsi a oj.dst u h3) (wanted_put oi a oj.dst u h3)
  · rw [← Act.put_comm a v u h2]; exact hk

theorem wpOp_of_flOp {i : Nat} {a : Act} {w : World} {K : Act → Prop} {K' : Act → World → Prop} {Q' : Exit → Act → World → Prop} (hS : S w) (h : ∀ a w, S w → K a → K' a w) (hh : flOp P ops S i K a) : wpOp P ops Q' i K' a w := by
  unfold flOp at hh
  unfold wpOp
  split
  · rename_i ho; simp only [ho] at hh; exact h _ _ hS hh
  · rename_i o ho
    simp only [ho] at hh
    obtain ⟨v, hv, hk⟩ := hh
    rcases hv with ⟨hw, hg⟩ | ⟨hw, rfl⟩
    · simp only [hw, if_true]
      refine .inl ?_
      unfold Oper.wp
      have hg' := hg w hS
      generalize (execOp a.eval o).run P w = r at hg' ⊢
      cases r with
      | ok n w' =>
        cases n <;> simp only [Gives] at hg' <;> simp only [Oper.upon]
        case enter f args => exact hg'.mono fun e w'' ⟨he, hs⟩ => by subst he; exact h _ _ hs hk
        all_goals (obtain ⟨rfl, hs⟩ := hg'; exact h _ _ hs hk)
      | halt x w' => simp only [Gives] at hg'
    · simp only [hw, Bool.false_eq_true, if_false]
      exact h _ _ hS hk

/-- The walk in the order of the text. -/
def wpFlow (P : Program) (ops : Array Oper) (S : World → Prop) (Q : Act → Prop) : List Oper → Act → Prop
  | [], a => Q a
  | o :: rest, a => ∃ v, FlowGives P ops S o v a ∧ wpFlow P ops S Q rest (a.put o.dst v)

/-- f operations of the head, in whatever order, then L. -/
def wpAnyF (P : Program) (md : Region.Mode) (ops : Array Oper) (S : World → Prop) (n : Nat) (L : Array Bool → Act → Prop) : Nat → Array Bool → Act → Prop
  | 0, listed, a => L listed a
  | f + 1, listed, a =>
    Region.ready md ops listed ≠ [] ∧ ∀ i ∈ Region.ready md ops listed, i < n ∧ flOp P ops S i (wpAnyF P md ops S n L f (listed.setIfInBounds i true)) a

theorem wpAny_of_flow {n g : Nat} {L : Array Bool → Act → Prop} {Q' : Exit → Act → World → Prop} (hL : ∀ listed a w, S w → L listed a → wpAny P md ops Q' g listed a w) :
    ∀ (f : Nat) (listed : Array Bool) (a : Act) (w : World), S w → wpAnyF P md ops S n L f listed a → wpAny P md ops Q' (f + g) listed a w
  | 0, listed, a, w, hS, h => by rw [Nat.zero_add]; exact hL _ _ _ hS h
  | f + 1, listed, a, w, hS, h => by
    rw [show f + 1 + g = (f + g) + 1 by omega]
    exact ⟨fun h0 => absurd h0 h.1, fun i hi => wpOp_of_flOp hS (fun a' w' hS' h' => wpAny_of_flow hL f _ a' w' hS' h') (h.2 i hi).2⟩

/-- What the order of listing keeps: Inv; while a number of the head is not listed, none behind the head is ready. -/
structure HeadRule (md : Region.Mode) (ops : Array Oper) (n : Nat) (Inv : Array Bool → Prop) : Prop where
  step : ∀ listed i, Inv listed → i ∈ Region.ready md ops listed → i < n → Inv (listed.setIfInBounds i true)
  first : ∀ listed i, Inv listed → i < n → listed.getD i true = false → ∀ j ∈ Region.ready md ops listed, j < n

theorem wpAnyF_first {n i : Nat} {oi : Oper} {v : Value} {L : Array Bool → Act → Prop} {Inv : Array Bool → Prop} (hi : ops[i]? = some oi) (hsel : ∀ (j : Nat) (o : Oper) cs b, ops[j]? = some o → o.op ≠ .select cs b)
    (hr : HeadRule md ops n Inv) (hin : i < n) (hdone : ∀ listed a, L listed a → ∀ j ∈ Region.ready md ops listed, n ≤ j) :
    ∀ (f : Nat) (listed : Array Bool) (a : Act), Inv listed →
      (∀ j oj, ops[j]? = some oj → j ≠ i → listed.getD j true = false → (∀ e ∈ oj.after, Region.binds md e = true → e.on ≠ i) → oi.apart ops oj = true) →
      i ∈ Region.ready md ops listed → FlowGives P ops S oi v a →
      wpAnyF P md ops S n L f (listed.setIfInBounds i true) (a.put oi.dst v) → wpAnyF P md ops S n L (f + 1) listed a := by
  intro f
  induction f with
  | zero =>
    intro listed a inv _ hri hy H
    refine ⟨fun h => (by rw [h] at hri; cases hri), fun j hj => ?_⟩
    have hjn := hr.first listed i inv hin (mem_ready.1 hri).1 j hj
    refine ⟨hjn, ?_⟩
    by_cases hji : j = i
    · subst hji; exact hy.flOp hi H
    · have := hdone _ _ H j (ready_mono hj hji)
      omega
  | succ f ih =>
    intro listed a inv hfree hri hy H
    refine ⟨fun h => (by rw [h] at hri; cases hri), fun j hj => ?_⟩
    have hjn := hr.first listed i inv hin (mem_ready.1 hri).1 j hj
    refine ⟨hjn, ?_⟩
    by_cases hji : j = i
    · subst hji; exact hy.flOp hi H
    · have h1 := (H.2 j (ready_mono hj hji)).2
      obtain ⟨hjun, oj, hoj, hall⟩ := mem_ready.1 hj
      have hnot : ∀ e ∈ oj.after, Region.binds md e = true → e.on ≠ i := fun e he hb heq => by
        have h1 := hall e he hb
        rw [heq, getD_both (mem_ready.1 hri).1] at h1
        cases h1
      have h2 := flOp_put hoj (hfree j oj hoj hji hjun hnot) (fun cs b => hsel i oi cs b hi) (fun cs b => hsel j oj cs b hoj) hy h1
      refine flOp_mono (fun a' h3 => ih (listed.setIfInBounds j true) a' (hr.step _ _ inv hj hjn) ?_ (ready_mono hri (Ne.symm hji)) h3.1 ?_) h2
      · intro k ok hk hki hun hno
        refine hfree k ok hk hki ?_ hno
        by_cases hjk : j = k
        · subst hjk; exact hjun
        · rw [getD_set_ne true hjk] at hun; exact hun
      · rw [Array.setIfInBounds_comm _ _ hji]
        exact h3.2

theorem wpAnyF_lex {n g : Nat} {L : Array Bool → Act → Prop} {Lq : Act → Prop} {Inv : Array Bool → Prop} (hsel : Region.noSelect ops = true) (hr : HeadRule md ops n Inv)
    (hdone : ∀ listed a, L listed a → ∀ j ∈ Region.ready md ops listed, n ≤ j)
    (hend : ∀ listed a, Region.seqB md ops g n listed = true → Lq a → L listed a) :
    ∀ (l : List Oper) (k : Nat) (listed : Array Bool) (a : Act), (∀ j, j < l.length → l[j]? = ops[k + j]?) → k + l.length = n → Inv listed →
    Region.lexHead md ops g l.length k listed = true → wpFlow P ops S Lq l a → wpAnyF P md ops S n L l.length listed a
  | [], k, listed, a, _, hk, _, hB, h => by
    have : k = n := by simpa using hk
    subst this
    exact hend _ _ (by simpa [Region.lexHead] using hB) h
  | o :: l, k, listed, a, hl, hk, inv, hB, h => by
    have h0 : ops[k]? = some o := by simpa using (hl 0 (by simp)).symm
    simp only [List.length_cons, Region.lexHead, Bool.and_eq_true] at hB
    obtain ⟨⟨hrd, hf⟩, hB'⟩ := hB
    have hkn : k < n := by simp only [List.length_cons] at hk; omega
    have hr' : k ∈ Region.ready md ops listed := by simpa using hrd
    obtain ⟨v, hy, hK⟩ := h
    exact wpAnyF_first h0 (Region.noSelect_spec hsel) hr hkn hdone l.length listed a inv (Region.free_spec h0 hf) hr' hy
      (wpAnyF_lex hsel hr hdone hend l (k + 1) _ _ (fun j hj => by have := hl (j + 1) (by simp; omega); simpa [Nat.add_assoc, Nat.add_comm 1 j] using this) (by simp only [List.length_cons] at hk; omega) (hr.step _ _ inv hr' hkn) hB' hK)

/-- A whole region in the order of the text. -/
def flowB (ops : Array Oper) : Bool := Region.noSelect ops && Region.lexHead .any ops 0 ops.size 0 (Array.replicate ops.size false)

theorem wp_region_flow {id : Nat} {Q : Exit → Act → World → Prop} {a : Act} {w : World} {l : List Oper} (S : World → Prop) (hm : P.follows .mixedOrders = true) (hB : flowB l.toArray = true)
    (hS : S w.drew) (h : wpFlow P l.toArray S (fun a' => ∀ w', S w' → Q .normal a' w') l a) : (Code.region id l.toArray true).wp P Q a w := by
  simp only [flowB, Bool.and_eq_true] at hB
  refine wp_region_any hm ?_
  have H := wpAnyF_lex (md := .any) (n := l.toArray.size) (g := 0) (L := fun listed a' => Region.ready .any l.toArray listed = [] ∧ ∀ w', S w' → Q .normal a' w') (Inv := fun _ => True) hB.1
    ⟨fun _ _ _ _ _ => trivial, fun listed i _ _ _ j hj => by obtain ⟨_, o, ho, _⟩ := mem_ready.1 hj; exact (Array.getElem?_eq_some_iff.1 ho).1⟩
    (fun listed a' hL j hj => by rw [hL.1] at hj; cases hj)
    (fun listed a' hs hq => ⟨by simpa [Region.seqB] using hs, hq⟩)
    l 0 (Array.replicate l.toArray.size false) a (fun j hj => by simp) (by simp) trivial (by simpa using hB.2) h
  have := wpAny_of_flow (Q' := Q) (g := 0) (fun listed a' w' hS' hL => ⟨hL.1, hL.2 w' hS'⟩) _ _ _ _ hS H
  simpa using this

/-- The first n operations in the order of the text, whatever order was drawn; then the rest, whose order is forced. -/
theorem wp_region_flow_tail {id : Nat} {Q : Exit → Act → World → Prop} {a : Act} {w : World} {l : List Oper} (S : World → Prop) (n : Nat) (hm : P.follows .mixedOrders = true) (hB : Region.lexTailB .any l.toArray n = true)
    (hS : S w.drew) (h : wpFlow P l.toArray S (fun a' => ∀ w', S w' → wpList P l.toArray Q (l.drop n) a' w') (l.take n) a) : (Code.region id l.toArray true).wp P Q a w := by
  simp only [Region.lexTailB, Bool.and_eq_true, decide_eq_true_eq] at hB
  obtain ⟨⟨⟨⟨hsel, hn⟩, hs⟩, hc⟩, hlex⟩ := hB
  have hn' : n < l.length := by simpa using hn
  have htl : (l.take n).length = n := by simp; omega
  have hdl : (l.drop n).length = l.toArray.size - n := by simp
  have inv0 : HeadInv .any l.toArray n (Array.replicate l.toArray.size false) :=
    ⟨by simp, fun j oj _ hl => (by rw [getD_replicate_false] at hl; cases hl), fun t _ ht => getD_in (by simpa using ht) (getD_replicate_false _ _)⟩
  have H := wpAnyF_lex (md := .any) (n := n) (g := l.toArray.size - n) (L := fun listed' a' => Region.seqB .any l.toArray (l.toArray.size - n) n listed' = true ∧ ∀ w', S w' → wpList P l.toArray Q (l.drop n) a' w')
    (Inv := HeadInv .any l.toArray n) hsel
    ⟨fun _ _ inv hi hin => inv.set hi hin, fun listed i inv hin hun j hj => by
      rcases Nat.lt_or_ge j n with h | h
      · exact h
      · exact absurd hj (tail_waits hs hc hn inv _ i rfl hin hun j h)⟩
    (fun listed' a' hL => seqB_ready hL.1) (fun listed a' hs hq => ⟨hs, hq⟩)
    (l.take n) 0 _ a (fun j hj => by
      have hj' : j < n := by rw [htl] at hj; exact hj
      simp [hj']) (by simpa using htl) inv0 (by rw [htl]; exact hlex) h
  refine wp_region_any hm ?_
  have := wpAny_of_flow (Q' := Q) (g := l.toArray.size - n) (fun listed a' w' hS' hL => by
    have := wpAny_of_seq (md := .any) (Q' := Q) (l.drop n) n listed a' w' (fun j => by simp [List.getElem?_drop]) (by rw [hdl]; exact hL.1) (hL.2 w' hS')
    rwa [hdl] at this) _ _ _ _ hS H
  rw [htl, show n + (l.toArray.size - n) = l.toArray.size by omega] at this
  exact this

/-! ### the steps of such a walk -/

theorem wpFlow_nil {Q : Act → Prop} {a : Act} (h : Q a) : wpFlow P ops S Q [] a := h

theorem wpFlow_step {Q : Act → Prop} {a : Act} {o : Oper} {rest : List Oper} (v : Value) (hw : Region.wanted o (yielded ops a.tmps) = true)
    (hv : ∀ w, S w → Gives P S v ((execOp a.eval o).run P w)) (h : wpFlow P ops S Q rest (a.put o.dst v)) : wpFlow P ops S Q (o :: rest) a := ⟨v, .inl ⟨hw, hv⟩, h⟩

theorem wpFlow_skip {Q : Act → Prop} {a : Act} {o : Oper} {rest : List Oper} (hw : Region.wanted o (yielded ops a.tmps) = false)
    (h : wpFlow P ops S Q rest (a.put o.dst undef)) : wpFlow P ops S Q (o :: rest) a := ⟨undef, .inr ⟨hw, rfl⟩, h⟩

theorem gives_value {v : Value} {w : World} (h : S w) : Gives P S v (.ok (.value v) w) := ⟨rfl, h⟩
theorem gives_skip {w : World} (h : S w) : Gives P S undef (.ok .skip w) := ⟨rfl, h⟩
theorem gives_enter {f : FuncId} {args : Array Value} {v : Value} {w : World} (h : Calls P f args w fun e w'' => e = .returned v ∧ S w'') : Gives P S v (.ok (.enter f args) w) := h
end

/-- A call that makes memory alone and hands back one value. -/
def Pure (P : Program) (f : FuncId) (args : Array Value) (v : Value) : Prop := ∀ w, Calls P f args w fun e w' => e = .returned v ∧ Below w.heap.size w w'

theorem Pure.below {P : Program} {f : FuncId} {args : Array Value} {v : Value} (h : Pure P f args v) {B : Nat} {w0 w : World} (hb : Below B w0 w) (hB : B ≤ w0.heap.size) : Calls P f args w fun e w'' => e = .returned v ∧ Below B w0 w'' :=
  (h w).mono fun _ _ ⟨he, hw⟩ => ⟨he, hb.trans (hw.mono (Nat.le_trans hB hb.size))⟩

end Go.Proofs.YtlfolgbaageknaaDoor
