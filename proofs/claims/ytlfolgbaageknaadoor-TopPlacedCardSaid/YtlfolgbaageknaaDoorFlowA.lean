/-
  A region whose order is drawn, with allocations among its head: as the text Flow, with families of frames over the numbers of the blocks.
-/
import Derived.Test.YtlfolgbaageknaaDoorRow
namespace Go.Proofs.YtlfolgbaageknaaDoor
open Go Go.RowKit

abbrev Blocks := Nat → Nat
abbrev Fam := Blocks → Act
def Fam.put (A : Fam) (d : Option Tmp) (v : Blocks → Value) : Fam := fun β => (A β).put d (v β)
def blkPtr (i : Nat) : Blocks → Value := fun β => .pointer (some ⟨β i, 0, none⟩)

section
variable {P : Program} {ops : Array Oper} {md : Region.Mode} {B : Nat} {w0 : World} {Zs : Nat → Option Obj}

def GivesB (P : Program) (v : Value) (w : World) : Result Next → Prop
  | .ok (.value u) w' => u = v ∧ Below w.heap.size w w'
  | .ok .skip w' => undef = v ∧ Below w.heap.size w w'
  | .ok (.enter f args) w' => Calls P f args w' fun e w'' => e = .returned v ∧ Below w.heap.size w w''
  | _ => False

/-- What an operation gives in a family of frames. -/
def FamGives (P : Program) (ops : Array Oper) (B : Nat) (w0 : World) (Zs : Nat → Option Obj) (i : Nat) (o : Oper) (v : Blocks → Value) (A : Fam) : Prop :=
  (∃ Z, ∃ f : Nat → Value, Zs i = some Z ∧ v = (fun β => f (β i)) ∧ ∀ β, Region.wanted o (yielded ops (A β).tmps) = true ∧ ∀ w, Below B w0 w → (execOp (A β).eval o).run P w = .ok (.value (f w.heap.size)) (w.alloc Z)) ∨
  (Zs i = none ∧ ∃ u, v = (fun _ => u) ∧ ∀ β, (Region.wanted o (yielded ops (A β).tmps) = true ∧ ∀ w, Below B w0 w → GivesB P u w ((execOp (A β).eval o).run P w)) ∨
    (Region.wanted o (yielded ops (A β).tmps) = false ∧ u = undef))

theorem FamGives.of_same {i : Nat} {o : Oper} {v : Blocks → Value} {A A' : Fam} (hy : FamGives P ops B w0 Zs i o v A) (he : ∀ β, execOp (A' β).eval o = execOp (A β).eval o)
    (hw : ∀ β, Region.wanted o (yielded ops (A' β).tmps) = Region.wanted o (yielded ops (A β).tmps)) : FamGives P ops B w0 Zs i o v A' := by
  unfold FamGives at *; simp only [he, hw]; exact hy

def flOpA (P : Program) (ops : Array Oper) (B : Nat) (w0 : World) (Zs : Nat → Option Obj) (i : Nat) (K : Fam → Prop) (A : Fam) : Prop :=
  match ops[i]? with
  | none => K A
  | some o => ∃ v, FamGives P ops B w0 Zs i o v A ∧ K (A.put o.dst v)

theorem flOpA_mono {i : Nat} {A : Fam} {K K' : Fam → Prop} (h : ∀ A, K A → K' A) (hh : flOpA P ops B w0 Zs i K A) : flOpA P ops B w0 Zs i K' A := by
  unfold flOpA at *
  split
  · exact h _ (by simpa [*] using hh)
  · rename_i o ho
    simp only [ho] at hh
    obtain ⟨v, hy, hk⟩ := hh
    exact ⟨v, hy, h _ hk⟩

theorem FamGives.flOpA {i : Nat} {o : Oper} {v : Blocks → Value} {A : Fam} (hi : ops[i]? = some o) (hy : FamGives P ops B w0 Zs i o v A) {K : Fam → Prop} (h : K (A.put o.dst v)) : flOpA P ops B w0 Zs i K A := by
  unfold YtlfolgbaageknaaDoor.flOpA; simp only [hi]; exact ⟨v, hy, h⟩

theorem flOpA_put {i j : Nat} {oi oj : Oper} {v : Blocks → Value} (hj : ops[j]? = some oj) (hap : oi.apart ops oj = true)
    (hsi : ∀ cs b, oi.op ≠ .select cs b) (hsj : ∀ cs b, oj.op ≠ .select cs b) {K : Fam → Prop} {A : Fam}
    (hy : FamGives P ops B w0 Zs i oi v A) (h : flOpA P ops B w0 Zs j K (A.put oi.dst v)) :
    flOpA P ops B w0 Zs j (fun A' => FamGives P ops B w0 Zs i oi v A' ∧ K (A'.put oi.dst v)) A := by
  obtain ⟨h1, h2, h3⟩ := Oper.apart_spec hap
  unfold flOpA at *
  simp only [hj] at *
  obtain ⟨u, hu, hk⟩ := h
  refine ⟨u, hu.of_same (fun β => (execOp_put oj hsj (A β) oi.dst (v β) h1).symm) (fun β => (wanted_put oj (A β) oi.dst (v β) h1).symm), ?_, ?_⟩
  · exact hy.of_same (fun β => execOp_put oi hsi (A β) oj.dst (u β) h3) (fun β => wanted_put oi (A β) oj.dst (u β) h3)
  · have e : (A.put oj.dst u).put oi.dst v = (A.put oi.dst v).put oj.dst u := by funext β; exact (Act.put_comm (A β) (v β) (u β) h2).symm
    rw [e]; exact hk

/-- What is known of the world after some operations of the head. -/
structure Facts (B : Nat) (w0 : World) (Zs : Nat → Option Obj) (listed : Array Bool) (γ : Blocks) (w : World) : Prop where
  below : Below B w0 w
  blk : ∀ i Z, Zs i = some Z → listed.getD i false = true → w.heap[γ i]? = some Z ∧ B ≤ γ i
  inj : ∀ i j Z Z', Zs i = some Z → Zs j = some Z' → listed.getD i false = true → listed.getD j false = true → γ i = γ j → i = j

def wpAnyFA (P : Program) (md : Region.Mode) (ops : Array Oper) (B : Nat) (w0 : World) (Zs : Nat → Option Obj) (n : Nat) (L : Array Bool → Fam → Prop) : Nat → Array Bool → Fam → Prop
  | 0, listed, A => L listed A
  | f + 1, listed, A =>
    Region.ready md ops listed ≠ [] ∧ ∀ i ∈ Region.ready md ops listed, i < n ∧ flOpA P ops B w0 Zs i (wpAnyFA P md ops B w0 Zs n L f (listed.setIfInBounds i true)) A

theorem getD_set_iff {l : Array Bool} {i j : Nat} : (l.setIfInBounds i true).getD j false = true → l.getD j false = true ∨ j = i := by
  intro h
  by_cases e : i = j
  · exact .inr e.symm
  · rw [getD_set_ne false e] at h; exact .inl h

theorem Facts.plain {listed : Array Bool} {γ : Blocks} {w w' : World} {i : Nat} (hf : Facts B w0 Zs listed γ w) (hB : B ≤ w0.heap.size) (hz : Zs i = none) (hb : Below w.heap.size w w') : Facts B w0 Zs (listed.setIfInBounds i true) γ w' := by
  have old : ∀ j Z, Zs j = some Z → (listed.setIfInBounds i true).getD j false = true → listed.getD j false = true := fun j Z hj hl => by
    rcases getD_set_iff hl with h | h
    · exact h
    · rw [h, hz] at hj; cases hj
  refine ⟨hf.below.trans (hb.mono (Nat.le_trans hB hf.below.size)), fun j Z hj hl => ?_, fun j k Z Z' hj hk hl hl' => hf.inj j k Z Z' hj hk (old j Z hj hl) (old k Z' hk hl')⟩
  obtain ⟨h1, h2⟩ := hf.blk j Z hj (old j Z hj hl)
  exact ⟨YtlfolgbaageknaaDoor.blk hb h1 (lt_of_blk h1), h2⟩

theorem Facts.made {listed : Array Bool} {γ : Blocks} {w : World} {i : Nat} {Z : Obj} (hf : Facts B w0 Zs listed γ w) (hB : B ≤ w0.heap.size) (hz : Zs i = some Z) (hun : listed.getD i false = false) :
    Facts B w0 Zs (listed.setIfInBounds i true) (fun j => if j = i then w.heap.size else γ j) (w.alloc Z) := by
  have hbw : B ≤ w.heap.size := Nat.le_trans hB hf.below.size
  refine ⟨hf.below.alloc hbw Z, fun j Z' hj hl => ?_, fun j k Z1 Z2 hj hk hl hl' he => ?_⟩
  · by_cases hji : j = i
    · subst hji
      rw [hz] at hj
      obtain rfl := Option.some.inj hj
      simp only [if_pos]
      exact ⟨heap_alloc_new w Z, hbw⟩
    · simp only [if_neg hji]
      rcases getD_set_iff hl with h | h
      · obtain ⟨h1, h2⟩ := hf.blk j Z' hj h
        exact ⟨by rw [heap_alloc_old _ _ (h := lt_of_blk h1)]; exact h1, h2⟩
      · exact absurd h hji
  · have lt : ∀ j Z', Zs j = some Z' → (listed.setIfInBounds i true).getD j false = true → j ≠ i → γ j < w.heap.size := fun j Z' hj hl hn => by
      rcases getD_set_iff hl with h | h
      · exact lt_of_blk (hf.blk j Z' hj h).1
      · exact absurd h hn
    by_cases h1 : j = i <;> by_cases h2 : k = i
    · rw [h1, h2]
    · rw [if_pos h1, if_neg h2] at he
      have := lt k Z2 hk hl' h2
      omega
    · rw [if_neg h1, if_pos h2] at he
      have := lt j Z1 hj hl h1
      omega
    · rw [if_neg h1, if_neg h2] at he
      rcases getD_set_iff hl with h3 | h3
      · rcases getD_set_iff hl' with h4 | h4
        · exact hf.inj j k Z1 Z2 hj hk h3 h4 he
        · exact absurd h4 h2
      · exact absurd h3 h1

/-- The family hangs on no block that is not made yet. -/
def Settled (listed : Array Bool) (A : Fam) : Prop := ∀ β β' : Blocks, (∀ j, listed.getD j false = true → β j = β' j) → A β = A β'

theorem wpAny_of_flowA {n g : Nat} {L : Array Bool → Fam → Prop} {Q' : Exit → Act → World → Prop} (hB : B ≤ w0.heap.size)
    (hL : ∀ listed A γ w, Facts B w0 Zs listed γ w → L listed A → wpAny P md ops Q' g listed (A γ) w) :
    ∀ (f : Nat) (listed : Array Bool) (A : Fam) (γ : Blocks) (w : World), listed.size = ops.size → Settled listed A → Facts B w0 Zs listed γ w → wpAnyFA P md ops B w0 Zs n L f listed A → wpAny P md ops Q' (f + g) listed (A γ) w
  | 0, listed, A, γ, w, _, _, hF, h => by rw [Nat.zero_add]; exact hL _ _ _ _ hF h
  | f + 1, listed, A, γ, w, hsz, hA, hF, h => by
    rw [show f + 1 + g = (f + g) + 1 by omega]
    refine ⟨fun h0 => absurd h0 h.1, fun i hi => ?_⟩
    have hh := (h.2 i hi).2
    obtain ⟨hun, o, ho, _⟩ := mem_ready.1 hi
    have hin : i < ops.size := (Array.getElem?_eq_some_iff.1 ho).1
    have hnow : ∀ j, listed.getD j false = true → (listed.setIfInBounds i true).getD j false = true := fun j hj => by
      by_cases e : i = j
      · subst e; simp [Array.getD, hsz, hin]
      · rw [getD_set_ne false e]; exact hj
    have hset : (listed.setIfInBounds i true).getD i false = true := by simp [Array.getD, hsz, hin]
    have hsz' : (listed.setIfInBounds i true).size = ops.size := by simpa using hsz
    unfold flOpA at hh
    unfold wpOp
    simp only [ho] at hh ⊢
    obtain ⟨v, hv, hk⟩ := hh
    rcases hv with ⟨Z, fv, hz, rfl, hg⟩ | ⟨hz, u, rfl, hg⟩
    · obtain ⟨hw, hx⟩ := hg γ
      simp only [hw, if_true]
      refine .inl ?_
      unfold Oper.wp
      rw [hx w hF.below]
      simp only [Oper.upon]
      have hF' := hF.made hB hz (getD_both hun)
      have hA' : Settled (listed.setIfInBounds i true) (A.put o.dst (fun β => fv (β i))) := fun β β' hb => by
        show (A β).put o.dst (fv (β i)) = (A β').put o.dst (fv (β' i))
        rw [hA β β' (fun j hj => hb j (hnow j hj)), hb i hset]
      have := wpAny_of_flowA hB hL f _ _ _ _ hsz' hA' hF' hk
      have e : (A.put o.dst (fun β => fv (β i))) (fun j => if j = i then w.heap.size else γ j) = (A γ).put o.dst (fv w.heap.size) := by
        show (A _).put o.dst _ = _
        rw [hA _ γ (fun j hj => by
          by_cases e : j = i
          · subst e; rw [getD_both hun] at hj; cases hj
          · simp [e])]
        simp
      rw [e] at this
      exact this
    · have hA' : Settled (listed.setIfInBounds i true) (A.put o.dst (fun _ => u)) := fun β β' hb => by
        show (A β).put o.dst u = (A β').put o.dst u
        rw [hA β β' (fun j hj => hb j (hnow j hj))]
      rcases hg γ with ⟨hw, hx⟩ | ⟨hw, rfl⟩
      · simp only [hw, if_true]
        refine .inl ?_
        unfold Oper.wp
        have hg' := hx w hF.below
        generalize (execOp (A γ).eval o).run P w = r at hg' ⊢
        cases r with
        | ok m w' =>
          cases m <;> simp only [GivesB] at hg' <;> simp only [Oper.upon]
          case enter f' args => exact hg'.mono fun e w'' ⟨he, hs⟩ => by subst he; exact wpAny_of_flowA hB hL f _ _ _ _ hsz' hA' (hF.plain hB hz hs) hk
          all_goals (obtain ⟨rfl, hs⟩ := hg'; exact wpAny_of_flowA hB hL f _ _ _ _ hsz' hA' (hF.plain hB hz hs) hk)
        | halt x w' => simp only [GivesB] at hg'
      · simp only [hw, Bool.false_eq_true, if_false]
        exact wpAny_of_flowA hB hL f _ _ _ _ hsz' hA' (hF.plain hB hz (Below.refl _ _)) hk

theorem wpAnyFA_first {n i : Nat} {oi : Oper} {v : Blocks → Value} {L : Array Bool → Fam → Prop} {Inv : Array Bool → Prop} (hi : ops[i]? = some oi) (hsel : ∀ (j : Nat) (o : Oper) cs b, ops[j]? = some o → o.op ≠ .select cs b)
    (hr : HeadRule md ops n Inv) (hin : i < n) (hdone : ∀ listed A, L listed A → ∀ j ∈ Region.ready md ops listed, n ≤ j) :
    ∀ (f : Nat) (listed : Array Bool) (A : Fam), Inv listed →
      (∀ j oj, ops[j]? = some oj → j ≠ i → listed.getD j true = false → (∀ e ∈ oj.after, Region.binds md e = true → e.on ≠ i) → oi.apart ops oj = true) →
      i ∈ Region.ready md ops listed → FamGives P ops B w0 Zs i oi v A →
      wpAnyFA P md ops B w0 Zs n L f (listed.setIfInBounds i true) (A.put oi.dst v) → wpAnyFA P md ops B w0 Zs n L (f + 1) listed A := by
  intro f
  induction f with
  | zero =>
    intro listed A inv _ hri hy H
    refine ⟨fun h => (by rw [h] at hri; cases hri), fun j hj => ?_⟩
    have hjn := hr.first listed i inv hin (mem_ready.1 hri).1 j hj
    refine ⟨hjn, ?_⟩
    by_cases hji : j = i
    · subst hji; exact hy.flOpA hi H
    · have := hdone _ _ H j (ready_mono hj hji)
      omega
  | succ f ih =>
    intro listed A inv hfree hri hy H
    refine ⟨fun h => (by rw [h] at hri; cases hri), fun j hj => ?_⟩
    have hjn := hr.first listed i inv hin (mem_ready.1 hri).1 j hj
    refine ⟨hjn, ?_⟩
    by_cases hji : j = i
    · subst hji; exact hy.flOpA hi H
    · have h1 := (H.2 j (ready_mono hj hji)).2
      obtain ⟨hjun, oj, hoj, hall⟩ := mem_ready.1 hj
      have hnot : ∀ e ∈ oj.after, Region.binds md e = true → e.on ≠ i := fun e he hb heq => by
        have h1 := hall e he hb
        rw [heq, getD_both (mem_ready.1 hri).1] at h1
        cases h1
      have h2 := flOpA_put hoj (hfree j oj hoj hji hjun hnot) (fun cs b => hsel i oi cs b hi) (fun cs b => hsel j oj cs b hoj) hy h1
      refine flOpA_mono (fun A' h3 => ih (listed.setIfInBounds j true) A' (hr.step _ _ inv hj hjn) ?_ (ready_mono hri (Ne.symm hji)) h3.1 ?_) h2
      · intro k ok hk hki hun hno
        refine hfree k ok hk hki ?_ hno
        by_cases hjk : j = k
        · subst hjk; exact hjun
        · rw [getD_set_ne true hjk] at hun; exact hun
      · rw [Array.setIfInBounds_comm _ _ hji]
        exact h3.2

/-- The walk in the order of the text; k numbers the operations. -/
def wpFlowA (P : Program) (ops : Array Oper) (B : Nat) (w0 : World) (Zs : Nat → Option Obj) (Q : Fam → Prop) : List Oper → Nat → Fam → Prop
  | [], _, A => Q A
  | o :: rest, k, A => ∃ v, FamGives P ops B w0 Zs k o v A ∧ wpFlowA P ops B w0 Zs Q rest (k + 1) (A.put o.dst v)

theorem wpAnyFA_lex {n g : Nat} {L : Array Bool → Fam → Prop} {Lq : Fam → Prop} {Inv : Array Bool → Prop} (hsel : Region.noSelect ops = true) (hr : HeadRule md ops n Inv)
    (hdone : ∀ listed A, L listed A → ∀ j ∈ Region.ready md ops listed, n ≤ j)
    (hend : ∀ listed A, Region.seqB md ops g n listed = true → (∀ j, j < n → listed.getD j false = true) → Lq A → L listed A) :
    ∀ (l : List Oper) (k : Nat) (listed : Array Bool) (A : Fam), (∀ j, j < l.length → l[j]? = ops[k + j]?) → k + l.length = n → Inv listed → listed.size = ops.size → (∀ j, j < k → listed.getD j false = true) →
    Region.lexHead md ops g l.length k listed = true → wpFlowA P ops B w0 Zs Lq l k A → wpAnyFA P md ops B w0 Zs n L l.length listed A
  | [], k, listed, A, _, hk, _, _, hls, hB, h => by
    have : k = n := by simpa using hk
    subst this
    exact hend _ _ (by simpa [Region.lexHead] using hB) hls h
  | o :: l, k, listed, A, hl, hk, inv, hsz, hls, hB, h => by
    have h0 : ops[k]? = some o := by simpa using (hl 0 (by simp)).symm
    have hin : k < ops.size := (Array.getElem?_eq_some_iff.1 h0).1
    simp only [List.length_cons, Region.lexHead, Bool.and_eq_true] at hB
    obtain ⟨⟨hrd, hf⟩, hB'⟩ := hB
    have hkn : k < n := by simp only [List.length_cons] at hk; omega
    have hr' : k ∈ Region.ready md ops listed := by simpa using hrd
    obtain ⟨v, hy, hK⟩ := h
    refine wpAnyFA_first h0 (Region.noSelect_spec hsel) hr hkn hdone l.length listed A inv (Region.free_spec h0 hf) hr' hy
      (wpAnyFA_lex hsel hr hdone hend l (k + 1) _ _ (fun j hj => by have := hl (j + 1) (by simp; omega); simpa [Nat.add_assoc, Nat.add_comm 1 j] using this) (by simp only [List.length_cons] at hk; omega) (hr.step _ _ inv hr' hkn) (by simpa using hsz) (fun j hj => ?_) hB' hK)
    by_cases e : k = j
    · subst e; simp [Array.getD, hsz, hin]
    · rw [getD_set_ne false e]; exact hls j (by omega)

/-- What is known behind the head. -/
structure Made (B : Nat) (w0 : World) (Zs : Nat → Option Obj) (n : Nat) (γ : Blocks) (w : World) : Prop where
  below : Below B w0 w
  blk : ∀ i Z, i < n → Zs i = some Z → w.heap[γ i]? = some Z ∧ B ≤ γ i
  inj : ∀ i j Z Z', i < n → j < n → Zs i = some Z → Zs j = some Z' → γ i = γ j → i = j

/-- The first n operations in the order of the text, whatever order was drawn; then the rest, whose order is forced. -/
theorem wp_region_flowA {id : Nat} {Q : Exit → Act → World → Prop} {a : Act} {w : World} {l : List Oper} (Zs : Nat → Option Obj) (n : Nat) (hm : P.follows .mixedOrders = true) (hB : Region.lexTailB .any l.toArray n = true)
    (h : wpFlowA P l.toArray w.drew.heap.size w.drew Zs (fun A => ∀ γ w', Made w.drew.heap.size w.drew Zs n γ w' → wpList P l.toArray Q (l.drop n) (A γ) w') (l.take n) 0 (fun _ => a)) : (Code.region id l.toArray true).wp P Q a w := by
  simp only [Region.lexTailB, Bool.and_eq_true, decide_eq_true_eq] at hB
  obtain ⟨⟨⟨⟨hsel, hn⟩, hs⟩, hc⟩, hlex⟩ := hB
  have hn' : n < l.length := by simpa using hn
  have htl : (l.take n).length = n := by simp; omega
  have hdl : (l.drop n).length = l.toArray.size - n := by simp
  have inv0 : HeadInv .any l.toArray n (Array.replicate l.toArray.size false) :=
    ⟨by simp, fun j oj _ hl => (by rw [getD_replicate_false] at hl; cases hl), fun t _ ht => getD_in (by simpa using ht) (getD_replicate_false _ _)⟩
  have H := wpAnyFA_lex (md := .any) (n := n) (g := l.toArray.size - n)
    (L := fun listed' A' => Region.seqB .any l.toArray (l.toArray.size - n) n listed' = true ∧ (∀ j, j < n → listed'.getD j false = true) ∧ ∀ γ w', Made w.drew.heap.size w.drew Zs n γ w' → wpList P l.toArray Q (l.drop n) (A' γ) w')
    (Inv := HeadInv .any l.toArray n) hsel
    ⟨fun _ _ inv hi hin => inv.set hi hin, fun listed i inv hin hun j hj => by
      rcases Nat.lt_or_ge j n with h | h
      · exact h
      · exact absurd hj (tail_waits hs hc hn inv _ i rfl hin hun j h)⟩
    (fun listed' A' hL => seqB_ready hL.1) (fun listed A hs hls hq => ⟨hs, hls, hq⟩)
    (l.take n) 0 _ (fun _ => a) (fun j hj => by
      have hj' : j < n := by rw [htl] at hj; exact hj
      simp [hj']) (by simpa using htl) inv0 (by simp) (fun j hj => by omega) (by rw [htl]; exact hlex) h
  refine wp_region_any hm ?_
  have := wpAny_of_flowA (Q' := Q) (g := l.toArray.size - n) (Nat.le_refl _) (fun listed' A' γ w' hF hL => by
    have hM : Made w.drew.heap.size w.drew Zs n γ w' := ⟨hF.below, fun i Z hi hz => hF.blk i Z hz (hL.2.1 i hi), fun i j Z Z' hi hj hz hz' => hF.inj i j Z Z' hz hz' (hL.2.1 i hi) (hL.2.1 j hj)⟩
    have := wpAny_of_seq (md := .any) (Q' := Q) (l.drop n) n listed' (A' γ) w' (fun j => by simp [List.getElem?_drop]) (by rw [hdl]; exact hL.1) (hL.2.2 γ w' hM)
    rwa [hdl] at this) _ _ _ (fun _ => 0) _ (by simp) (fun _ _ _ => rfl)
    ⟨Below.refl _ _, fun i Z _ hl => (by rw [getD_replicate_false] at hl; cases hl), fun i j Z Z' _ _ hl => (by rw [getD_replicate_false] at hl; cases hl)⟩ H
  rw [htl, show n + (l.toArray.size - n) = l.toArray.size by omega] at this
  exact this

/-- A region that is all head. -/
theorem wp_region_flowA_all {id : Nat} {Q : Exit → Act → World → Prop} {a : Act} {w : World} {l : List Oper} (Zs : Nat → Option Obj) (hm : P.follows .mixedOrders = true) (hB : flowB l.toArray = true)
    (h : wpFlowA P l.toArray w.drew.heap.size w.drew Zs (fun A => ∀ γ w', Made w.drew.heap.size w.drew Zs l.length γ w' → Q .normal (A γ) w') l 0 (fun _ => a)) : (Code.region id l.toArray true).wp P Q a w := by
  simp only [flowB, Bool.and_eq_true] at hB
  refine wp_region_any hm ?_
  have H := wpAnyFA_lex (md := .any) (n := l.toArray.size) (g := 0)
    (L := fun listed a' => Region.ready .any l.toArray listed = [] ∧ (∀ j, j < l.length → listed.getD j false = true) ∧ ∀ γ w', Made w.drew.heap.size w.drew Zs l.length γ w' → Q .normal (a' γ) w') (Inv := fun _ => True) hB.1
    ⟨fun _ _ _ _ _ => trivial, fun listed i _ _ _ j hj => by obtain ⟨_, o, ho, _⟩ := mem_ready.1 hj; exact (Array.getElem?_eq_some_iff.1 ho).1⟩
    (fun listed a' hL j hj => by rw [hL.1] at hj; cases hj)
    (fun listed a' hs hls hq => ⟨by simpa [Region.seqB] using hs, fun j hj => hls j (by simpa using hj), hq⟩)
    l 0 (Array.replicate l.toArray.size false) (fun _ => a) (fun j hj => by simp) (by simp) trivial (by simp) (fun j hj => by omega) (by simpa using hB.2) h
  have := wpAny_of_flowA (Q' := Q) (g := 0) (Nat.le_refl _) (fun listed' A' γ w' hF hL => by
    have hM : Made w.drew.heap.size w.drew Zs l.length γ w' := ⟨hF.below, fun i Z hi hz => hF.blk i Z hz (hL.2.1 i hi), fun i j Z Z' hi hj hz hz' => hF.inj i j Z Z' hz hz' (hL.2.1 i hi) (hL.2.1 j hj)⟩
    exact ⟨hL.1, hL.2.2 γ w' hM⟩) _ _ _ (fun _ => 0) _ (by simp) (fun _ _ _ => rfl)
    ⟨Below.refl _ _, fun i Z _ hl => (by rw [getD_replicate_false] at hl; cases hl), fun i j Z Z' _ _ hl => (by rw [getD_replicate_false] at hl; cases hl)⟩ H
  simpa using this

theorem wpFlowA_nil {Q : Fam → Prop} {k : Nat} {A : Fam} (h : Q A) : wpFlowA P ops B w0 Zs Q [] k A := h

theorem wpFlowA_step {Q : Fam → Prop} {k : Nat} {A : Fam} {o : Oper} {rest : List Oper} (v : Value) (hz : Zs k = none) (hw : ∀ β, Region.wanted o (yielded ops (A β).tmps) = true)
    (hv : ∀ β w, Below B w0 w → GivesB P v w ((execOp (A β).eval o).run P w)) (h : wpFlowA P ops B w0 Zs Q rest (k + 1) (A.put o.dst fun _ => v)) : wpFlowA P ops B w0 Zs Q (o :: rest) k A :=
  ⟨_, .inr ⟨hz, v, rfl, fun β => .inl ⟨hw β, hv β⟩⟩, h⟩

theorem wpFlowA_load_row {Q : Fam → Prop} {k : Nat} {A : Fam} {rest : List Oper} {d : Tmp} {ty t1 : TypeId} {x : Operand} {p1 : String} {e1 : Array Edge} {gd : Option (Nat × Bool)}
    (g : Nat) (t : TypeId) {cs : Array Value} {fr : Nat × Nat} (hz : Zs k = none) (hg : ∀ w, Below B w0 w → w.heap[g]? = some (.cells cs t fr)) (ht : RowT P ty cs.size)
    (hw : ∀ β, Region.wanted ⟨some d, .load ty x, t1, p1, e1, gd⟩ (yielded ops (A β).tmps) = true) (hx : ∀ β, (A β).eval x = .pointer (some ⟨g, 0, none⟩))
    (h : wpFlowA P ops B w0 Zs Q rest (k + 1) (A.put (some d) fun _ => .agg cs)) : wpFlowA P ops B w0 Zs Q (⟨some d, .load ty x, t1, p1, e1, gd⟩ :: rest) k A := by
  refine wpFlowA_step (.agg cs) hz hw (fun β w hS => ?_) h
  unfold execOp
  simp only [hx, Instr.loadAt, Instr.sureAddr, Sem.run_bind, Sem.run_pure, Result.andThen_ok, run_loadT (hg w hS) ht]
  exact ⟨rfl, Below.refl _ _⟩

theorem wpFlowA_call {Q : Fam → Prop} {k : Nat} {A : Fam} {rest : List Oper} {d : Tmp} {f : FuncId} {xs : Array Operand} {at_ : Array TypeId} {ty : TypeId} {pos : String} {after : Array Edge} {g : Option (Nat × Bool)}
    (args : Array Value) {v : Value} (hz : Zs k = none) (he : entB P f = true) (hp : Pure P f args v)
    (hw : ∀ β, Region.wanted ⟨some d, .call ⟨.value (.func f), xs, at_⟩, ty, pos, after, g⟩ (yielded ops (A β).tmps) = true) (ha : ∀ β, xs.toList.map (A β).eval = args.toList)
    (h : wpFlowA P ops B w0 Zs Q rest (k + 1) (A.put (some d) fun _ => v)) : wpFlowA P ops B w0 Zs Q (⟨some d, .call ⟨.value (.func f), xs, at_⟩, ty, pos, after, g⟩ :: rest) k A := by
  refine wpFlowA_step v hz hw (fun β w hS => ?_) h
  have ha' : xs.map (A β).eval = args := by apply Array.toList_inj.1; rw [Array.toList_map, ha]
  rw [exec_call _ _ _ _ _ _ _ _ _ _ he, ha']
  exact hp w

theorem wpFlowA_alloc_row {Q : Fam → Prop} {k : Nat} {A : Fam} {rest : List Oper} {d : Tmp} {ty t1 : TypeId} {p1 : String} {e1 : Array Edge}
    (cs : Array Value) (n : Nat) (hz : Zs k = some (.cells cs ty)) (hi : (P.info? ty).map (fun i => (i.zero, i.size)) = some (some (.agg cs), n))
    (h : wpFlowA P ops B w0 Zs Q rest (k + 1) (A.put (some d) (blkPtr k))) : wpFlowA P ops B w0 Zs Q (⟨some d, .alloc ty, t1, p1, e1, none⟩ :: rest) k A := by
  refine ⟨_, .inl ⟨_, fun g => .pointer (some ⟨g, 0, none⟩), hz, rfl, fun β => ⟨rfl, fun w _ => ?_⟩⟩, h⟩
  have hzv : (zeroValue ty).run P w = .ok (.agg cs) w := by
    cases hq : P.info? ty with
    | none => simp [hq] at hi
    | some i => simp [hq] at hi; simp [zeroValue, typeInfo, hq, hi.1]
  unfold execOp
  simp only [Instr.alloc, Sem.run_bind, hzv, Result.andThen_ok]
  simp only [newVar, newRow, Value.cells]
  simp only [newObj, Sem.run_bind, Sem.run_pure]
  rfl
end
end Go.Proofs.YtlfolgbaageknaaDoor
