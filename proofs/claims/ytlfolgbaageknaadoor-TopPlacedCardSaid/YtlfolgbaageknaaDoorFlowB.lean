/-
  A region whose order is drawn, with allocations among its head and stores into the blocks that it makes: as the text FlowA.
-/
import Derived.Test.YtlfolgbaageknaaDoorFlowA
namespace Go.Proofs.YtlfolgbaageknaaDoor.SB
open Go Go.RowKit

section
variable {P : Program} {ops : Array Oper} {md : Region.Mode} {B : Nat} {w0 : World} {Zs : Nat → Option Obj} {Ws : Nat → Option (Nat × Obj)}

/-- A world that differs in one block alone. -/
structure Upd (b : Nat) (Z : Obj) (w w' : World) : Prop where
  os : w'.os = w.os
  tape : w'.tape = w.tape
  output : w'.output = w.output
  size : w'.heap.size = w.heap.size
  oth : ∀ k, k ≠ b → w'.heap[k]? = w.heap[k]?
  blk : w'.heap[b]? = some Z
def Stores (b : Nat) (Z : Obj) (w : World) : Result Next → Prop
  | .ok (.value _) w' => Upd b Z w w'
  | .ok .skip w' => Upd b Z w w'
  | _ => False

/-- What an operation gives in a family of frames. -/
def FamGives (P : Program) (ops : Array Oper) (B : Nat) (w0 : World) (Zs : Nat → Option Obj) (Ws : Nat → Option (Nat × Obj)) (i : Nat) (o : Oper) (v : Blocks → Value) (A : Fam) : Prop :=
  (∃ Z, ∃ f : Nat → Value, Zs i = some Z ∧ Ws i = none ∧ v = (fun β => f (β i)) ∧ ∀ β, Region.wanted o (yielded ops (A β).tmps) = true ∧ ∀ w, Below B w0 w → (execOp (A β).eval o).run P w = .ok (.value (f w.heap.size)) (w.alloc Z)) ∨
  (∃ j Z Z', Zs i = none ∧ Ws i = some (j, Z') ∧ Zs j = some Z ∧ o.dst = none ∧ (o.after.toList.any fun e => Region.binds .any e && Nat.beq e.on j) = true ∧ ∀ β, Region.wanted o (yielded ops (A β).tmps) = true ∧ ∀ w, Below B w0 w → w.heap[β j]? = some Z → Stores (β j) Z' w ((execOp (A β).eval o).run P w)) ∨
  (Zs i = none ∧ Ws i = none ∧ ∃ u, v = (fun _ => u) ∧ ∀ β, (Region.wanted o (yielded ops (A β).tmps) = true ∧ ∀ w, Below B w0 w → GivesB P u w ((execOp (A β).eval o).run P w)) ∨
    (Region.wanted o (yielded ops (A β).tmps) = false ∧ u = undef))

theorem FamGives.of_same {i : Nat} {o : Oper} {v : Blocks → Value} {A A' : Fam} (hy : FamGives P ops B w0 Zs Ws i o v A) (he : ∀ β, execOp (A' β).eval o = execOp (A β).eval o)
    (hw : ∀ β, Region.wanted o (yielded ops (A' β).tmps) = Region.wanted o (yielded ops (A β).tmps)) : FamGives P ops B w0 Zs Ws i o v A' := by
  unfold FamGives at *; simp only [he, hw]; exact hy

def flOpA (P : Program) (ops : Array Oper) (B : Nat) (w0 : World) (Zs : Nat → Option Obj) (Ws : Nat → Option (Nat × Obj)) (i : Nat) (K : Fam → Prop) (A : Fam) : Prop :=
  match ops[i]? with
  | none => K A
  | some o => ∃ v, FamGives P ops B w0 Zs Ws i o v A ∧ K (A.put o.dst v)

theorem flOpA_mono {i : Nat} {A : Fam} {K K' : Fam → Prop} (h : ∀ A, K A → K' A) (hh : flOpA P ops B w0 Zs Ws i K A) : flOpA P ops B w0 Zs Ws i K' A := by
  unfold flOpA at *
  split
  · exact h _ (by simpa [*] using hh)
  · rename_i o ho
    simp only [ho] at hh
    obtain ⟨v, hy, hk⟩ := hh
    exact ⟨v, hy, h _ hk⟩

theorem FamGives.flOpA {i : Nat} {o : Oper} {v : Blocks → Value} {A : Fam} (hi : ops[i]? = some o) (hy : FamGives P ops B w0 Zs Ws i o v A) {K : Fam → Prop} (h : K (A.put o.dst v)) : flOpA P ops B w0 Zs Ws i K A := by
  unfold SB.flOpA; simp only [hi]; exact ⟨v, hy, h⟩

theorem flOpA_put {i j : Nat} {oi oj : Oper} {v : Blocks → Value} (hj : ops[j]? = some oj) (hap : oi.apart ops oj = true)
    (hsi : ∀ cs b, oi.op ≠ .select cs b) (hsj : ∀ cs b, oj.op ≠ .select cs b) {K : Fam → Prop} {A : Fam}
    (hy : FamGives P ops B w0 Zs Ws i oi v A) (h : flOpA P ops B w0 Zs Ws j K (A.put oi.dst v)) :
    flOpA P ops B w0 Zs Ws j (fun A' => FamGives P ops B w0 Zs Ws i oi v A' ∧ K (A'.put oi.dst v)) A := by
  obtain ⟨h1, h2, h3⟩ := Oper.apart_spec hap
  unfold flOpA at *
  simp only [hj] at *
  obtain ⟨u, hu, hk⟩ := h
  refine ⟨u, hu.of_same (fun β => (execOp_put oj hsj (A β) oi.dst (v β) h1).symm) (fun β => (wanted_put oj (A β) oi.dst (v β) h1).symm), ?_, ?_⟩
  · exact hy.of_same (fun β => execOp_put oi hsi (A β) oj.dst (u β) h3) (fun β => wanted_put oi (A β) oj.dst (u β) h3)
  · have e : (A.put oj.dst u).put oi.dst v = (A.put oi.dst v).put oj.dst u := by funext β; exact (Act.put_comm (A β) (v β) (u β) h2).symm
    rw [e]; exact hk

/-- What is known of the world after some operations of the head. -/
structure Facts (B : Nat) (w0 : World) (Zs : Nat → Option Obj) (Ws : Nat → Option (Nat × Obj)) (listed : Array Bool) (γ : Blocks) (w : World) : Prop where
  below : Below B w0 w
  blk : ∀ i Z, Zs i = some Z → listed.getD i false = true → B ≤ γ i ∧ ((∀ s Z', Ws s = some (i, Z') → listed.getD s false = false) → w.heap[γ i]? = some Z) ∧ (∀ s Z', Ws s = some (i, Z') → listed.getD s false = true → w.heap[γ i]? = some Z')
  lt : ∀ i Z, Zs i = some Z → listed.getD i false = true → γ i < w.heap.size
  aft : ∀ s i Z', Ws s = some (i, Z') → listed.getD s false = true → listed.getD i false = true
  inj : ∀ i j Z Z', Zs i = some Z → Zs j = some Z' → listed.getD i false = true → listed.getD j false = true → γ i = γ j → i = j

def wpAnyFA (P : Program) (md : Region.Mode) (ops : Array Oper) (B : Nat) (w0 : World) (Zs : Nat → Option Obj) (Ws : Nat → Option (Nat × Obj)) (n : Nat) (L : Array Bool → Fam → Prop) : Nat → Array Bool → Fam → Prop
  | 0, listed, A => L listed A
  | f + 1, listed, A =>
    Region.ready md ops listed ≠ [] ∧ ∀ i ∈ Region.ready md ops listed, i < n ∧ flOpA P ops B w0 Zs Ws i (wpAnyFA P md ops B w0 Zs Ws n L f (listed.setIfInBounds i true)) A

theorem getD_set_mono {l : Array Bool} {i j : Nat} (h : l.getD j false = true) : (l.setIfInBounds i true).getD j false = true := by
  by_cases e : i = j
  · subst e
    have : i < l.size := by
      rcases Nat.lt_or_ge i l.size with h2 | h2
      · exact h2
      · simp [Array.getD, Nat.not_lt.2 h2] at h
    simp [Array.getD, this]
  · rw [getD_set_ne false e]; exact h
theorem getD_set_self {l : Array Bool} {i : Nat} (h : i < l.size) : (l.setIfInBounds i true).getD i false = true := by simp [Array.getD, h]
theorem Facts.plain {listed : Array Bool} {γ : Blocks} {w w' : World} {i : Nat} (hf : Facts B w0 Zs Ws listed γ w) (hB : B ≤ w0.heap.size) (hz : Zs i = none) (hw : Ws i = none) (hb : Below w.heap.size w w') : Facts B w0 Zs Ws (listed.setIfInBounds i true) γ w' := by
  have old : ∀ j Z, Zs j = some Z → (listed.setIfInBounds i true).getD j false = true → listed.getD j false = true := fun j Z hj hl => by
    rcases getD_set_iff hl with h | h
    · exact h
    · rw [h, hz] at hj; cases hj
  have oldS : ∀ s x, Ws s = some x → (listed.setIfInBounds i true).getD s false = listed.getD s false := fun s x hs => by
    refine getD_set_ne false fun e => ?_
    rw [← e, hw] at hs; cases hs
  refine ⟨hf.below.trans (hb.mono (Nat.le_trans hB hf.below.size)), fun j Z hj hl => ?_, fun j Z hj hl => Nat.lt_of_lt_of_le (hf.lt j Z hj (old j Z hj hl)) hb.size, fun s j Z' hs hl => ?_, fun j k Z Z' hj hk hl hl' => hf.inj j k Z Z' hj hk (old j Z hj hl) (old k Z' hk hl')⟩
  · obtain ⟨h1, h2, h3⟩ := hf.blk j Z hj (old j Z hj hl)
    have hlt := hf.lt j Z hj (old j Z hj hl)
    refine ⟨h1, fun hn => ?_, fun s Z' hs hl' => ?_⟩
    · rw [hb.block _ hlt]
      exact h2 fun s Z' hs => by rw [← oldS s _ hs]; exact hn s Z' hs
    · rw [hb.block _ hlt]
      rw [oldS s _ hs] at hl'
      exact h3 s Z' hs hl'
  · rw [oldS s _ hs] at hl
    have h1 := hf.aft s j Z' hs hl
    by_cases e : i = j
    · subst e
      exact getD_set_mono h1
    · rw [getD_set_ne false e]; exact h1

theorem Facts.made {listed : Array Bool} {γ : Blocks} {w : World} {i : Nat} {Z : Obj} (hf : Facts B w0 Zs Ws listed γ w) (hB : B ≤ w0.heap.size) (hz : Zs i = some Z) (hw : Ws i = none) (hun : listed.getD i false = false) :
    Facts B w0 Zs Ws (listed.setIfInBounds i true) (fun j => if j = i then w.heap.size else γ j) (w.alloc Z) := by
  have hbw : B ≤ w.heap.size := Nat.le_trans hB hf.below.size
  have oldS : ∀ s x, Ws s = some x → (listed.setIfInBounds i true).getD s false = listed.getD s false := fun s x hs => by
    refine getD_set_ne false fun e => ?_
    rw [← e, hw] at hs; cases hs
  have lt : ∀ j Z', Zs j = some Z' → (listed.setIfInBounds i true).getD j false = true → j ≠ i → γ j < w.heap.size := fun j Z' hj hl hn => by
    rcases getD_set_iff hl with h | h
    · exact hf.lt j Z' hj h
    · exact absurd h hn
  refine ⟨hf.below.alloc hbw Z, fun j Z' hj hl => ?_, fun j Z' hj hl => ?_, fun s j Z' hs hl => ?_, fun j k Z1 Z2 hj hk hl hl' he => ?_⟩
  · by_cases hji : j = i
    · subst hji
      rw [hz] at hj
      obtain rfl := Option.some.inj hj
      simp only [if_pos]
      refine ⟨hbw, fun _ => heap_alloc_new w Z, fun s Z' hs hl' => ?_⟩
      rw [oldS s _ hs] at hl'
      have := hf.aft s j Z' hs hl'
      rw [hun] at this; cases this
    · simp only [if_neg hji]
      rcases getD_set_iff hl with h | h
      · obtain ⟨h1, h2, h3⟩ := hf.blk j Z' hj h
        have hlt := hf.lt j Z' hj h
        refine ⟨h1, fun hn => ?_, fun s Z2 hs hl' => ?_⟩
        · rw [heap_alloc_old _ _ (h := hlt)]
          exact h2 fun s Z' hs => by rw [← oldS s _ hs]; exact hn s Z' hs
        · rw [heap_alloc_old _ _ (h := hlt)]
          rw [oldS s _ hs] at hl'
          exact h3 s Z2 hs hl'
      · exact absurd h hji
  · by_cases hji : j = i
    · subst hji; simp only [if_pos]; rw [World.size_alloc]; omega
    · simp only [if_neg hji]; rw [World.size_alloc]; have := lt j Z' hj hl hji; omega
  · rw [oldS s _ hs] at hl
    exact getD_set_mono (hf.aft s j Z' hs hl)
  · by_cases h1 : j = i <;> by_cases h2 : k = i
    · rw [h1, h2]
    · rw [if_pos h1, if_neg h2] at he
      have := lt k Z2 hk hl' h2
      omega
    · rw [if_neg h1, if_pos h2] at he
      have := lt j Z1 hj hl h1
      omega
    · rw [if_neg h1, if_neg h2] at he
      rcases getD_set_iff hl with h3 | h3
      · rcases getD_set_iff hl' with h4 | h4
        · exact hf.inj j k Z1 Z2 hj hk h3 h4 he
        · exact absurd h4 h2
      · exact absurd h3 h1

theorem Facts.stored {listed : Array Bool} {γ : Blocks} {w w' : World} {i j : Nat} {Z Z' : Obj} (hf : Facts B w0 Zs Ws listed γ w) (hz : Zs i = none) (hws : Ws i = some (j, Z')) (hzj : Zs j = some Z) (hj : listed.getD j false = true)
    (hin : i < listed.size) (huniq : ∀ s t x y, Ws s = some (x, y) → Ws t = some (x, Z') → s = t) (hu : Upd (γ j) Z' w w') : Facts B w0 Zs Ws (listed.setIfInBounds i true) γ w' := by
  have old : ∀ k Z, Zs k = some Z → (listed.setIfInBounds i true).getD k false = true → listed.getD k false = true := fun k Z hk hl => by
    rcases getD_set_iff hl with h | h
    · exact h
    · rw [h, hz] at hk; cases hk
  have hbj := (hf.blk j Z hzj hj).1
  refine ⟨⟨hu.os.trans hf.below.os, hu.tape.trans hf.below.tape, hu.output.trans hf.below.output, by rw [hu.size]; exact hf.below.size, fun k hk => ?_⟩, fun k Zk hk hl => ?_, fun k Zk hk hl => by rw [hu.size]; exact hf.lt k Zk hk (old k Zk hk hl), fun s k Z2 hs hl => ?_, fun k l Z1 Z2 hk hl h1 h2 => hf.inj k l Z1 Z2 hk hl (old k Z1 hk h1) (old l Z2 hl h2)⟩
  · rw [hu.oth k (by omega)]; exact hf.below.block k hk
  · obtain ⟨h1, h2, h3⟩ := hf.blk k Zk hk (old k Zk hk hl)
    refine ⟨h1, fun hn => ?_, fun s Z2 hs hl' => ?_⟩
    · by_cases e : k = j
      · subst e
        have := hn i Z' hws
        rw [getD_set_self hin] at this; cases this
      · rw [hu.oth _ (fun e2 => e (hf.inj k j Zk Z hk hzj (old k Zk hk hl) hj e2))]
        refine h2 fun s Z2 hs => ?_
        have h4 := hn s Z2 hs
        cases hb : listed.getD s false with
        | false => rfl
        | true => rw [getD_set_mono hb] at h4; cases h4
    · by_cases e : k = j
      · subst e
        have e2 : s = i := huniq s i k Z2 hs hws
        subst e2
        rw [hws] at hs
        obtain ⟨_, rfl⟩ := Prod.mk.inj (Option.some.inj hs)
        exact hu.blk
      · rw [hu.oth _ (fun e2 => e (hf.inj k j Zk Z hk hzj (old k Zk hk hl) hj e2))]
        rcases getD_set_iff hl' with h | h
        · exact h3 s Z2 hs h
        · subst h
          rw [hws] at hs
          exact absurd (Prod.mk.inj (Option.some.inj hs)).1.symm e
  · rcases getD_set_iff hl with h | h
    · exact getD_set_mono (hf.aft s k Z2 hs h)
    · subst h
      rw [hws] at hs
      obtain ⟨rfl, _⟩ := Prod.mk.inj (Option.some.inj hs)
      exact getD_set_mono hj

theorem wpAny_of_flowA {n g : Nat} {L : Array Bool → Fam → Prop} {Q' : Exit → Act → World → Prop} (hB : B ≤ w0.heap.size) (hmd : md = .any) (huniq : ∀ s t x y z, Ws s = some (x, y) → Ws t = some (x, z) → s = t)
    (hL : ∀ listed A γ w, Facts B w0 Zs Ws listed γ w → L listed A → wpAny P md ops Q' g listed (A γ) w) :
    ∀ (f : Nat) (listed : Array Bool) (A : Fam) (γ : Blocks) (w : World), listed.size = ops.size → Settled listed A → Facts B w0 Zs Ws listed γ w → wpAnyFA P md ops B w0 Zs Ws n L f listed A → wpAny P md ops Q' (f + g) listed (A γ) w
  | 0, listed, A, γ, w, _, _, hF, h => by rw [Nat.zero_add]; exact hL _ _ _ _ hF h
  | f + 1, listed, A, γ, w, hsz, hA, hF, h => by
    rw [show f + 1 + g = (f + g) + 1 by omega]
    refine ⟨fun h0 => absurd h0 h.1, fun i hi => ?_⟩
    have hh := (h.2 i hi).2
    obtain ⟨hun, o, ho, _⟩ := mem_ready.1 hi
    have hin : i < ops.size := (Array.getElem?_eq_some_iff.1 ho).1
    have hnow : ∀ j, listed.getD j false = true → (listed.setIfInBounds i true).getD j false = true := fun j hj => by
      by_cases e : i = j
      · subst e; simp [Array.getD, hsz, hin]
      · rw [getD_set_ne false e]; exact hj
    have hset : (listed.setIfInBounds i true).getD i false = true := by simp [Array.getD, hsz, hin]
    have hsz' : (listed.setIfInBounds i true).size = ops.size := by simpa using hsz
    unfold flOpA at hh
    unfold wpOp
    simp only [ho] at hh ⊢
    obtain ⟨v, hv, hk⟩ := hh
    rcases hv with ⟨Z, fv, hz, hws, rfl, hg⟩ | ⟨j, Z, Z', hz, hws, hzj, hdst, haf, hg⟩ | ⟨hz, hws, u, rfl, hg⟩
    · obtain ⟨hw, hx⟩ := hg γ
      simp only [hw, if_true]
      refine .inl ?_
      unfold Oper.wp
      rw [hx w hF.below]
      simp only [Oper.upon]
      have hF' := hF.made hB hz hws (getD_both hun)
      have hA' : Settled (listed.setIfInBounds i true) (A.put o.dst (fun β => fv (β i))) := fun β β' hb => by
        show (A β).put o.dst (fv (β i)) = (A β').put o.dst (fv (β' i))
        rw [hA β β' (fun j hj => hb j (hnow j hj)), hb i hset]
      have := wpAny_of_flowA hB hmd huniq hL f _ _ _ _ hsz' hA' hF' hk
      have e : (A.put o.dst (fun β => fv (β i))) (fun j => if j = i then w.heap.size else γ j) = (A γ).put o.dst (fv w.heap.size) := by
        show (A _).put o.dst _ = _
        rw [hA _ γ (fun j hj => by
          by_cases e : j = i
          · subst e; rw [getD_both hun] at hj; cases hj
          · simp [e])]
        simp
      rw [e] at this
      exact this
    · obtain ⟨hw, hx⟩ := hg γ
      simp only [hw, if_true]
      refine .inl ?_
      obtain ⟨_, o2, ho2, hall⟩ := mem_ready.1 hi
      rw [ho] at ho2
      obtain rfl := Option.some.inj ho2
      obtain ⟨ed, hem, heb⟩ := List.any_eq_true.1 haf
      simp only [Bool.and_eq_true] at heb
      have hjl0 := hall ed (Array.mem_toList_iff.1 hem) (by rw [hmd]; exact heb.1)
      have hjl : listed.getD j false = true := by rw [← Nat.eq_of_beq_eq_true heb.2]; exact hjl0
      have hbl := hF.blk j Z hzj hjl
      have hZ : w.heap[γ j]? = some Z := hbl.2.1 fun s Z2 hs => by
        have e2 : s = i := huniq s i j Z2 Z' hs hws
        rw [e2]; exact getD_both hun
      have hS := hx w hF.below hZ
      have hA' : Settled (listed.setIfInBounds i true) (A.put o.dst v) := fun β β' hb => by
        show (A β).put o.dst (v β) = (A β').put o.dst (v β')
        rw [hdst]; exact hA β β' (fun k hk => hb k (hnow k hk))
      have hput : ∀ u, (A γ).put o.dst u = (A.put o.dst v) γ := fun u => by show _ = (A γ).put o.dst (v γ); rw [hdst]; rfl
      unfold Oper.wp
      generalize (execOp (A γ).eval o).run P w = r at hS ⊢
      cases r with
      | ok m w' =>
        cases m <;> simp only [Stores] at hS <;> simp only [Oper.upon]
        all_goals (rw [hput]; exact wpAny_of_flowA hB hmd huniq hL f _ _ _ _ hsz' hA' (hF.stored hz hws hzj hjl (by rw [hsz]; exact hin) (fun s t x y h1 h2 => huniq s t x y _ h1 h2) hS) hk)
      | halt x w' => simp only [Stores] at hS
    · have hA' : Settled (listed.setIfInBounds i true) (A.put o.dst (fun _ => u)) := fun β β' hb => by
        show (A β).put o.dst u = (A β').put o.dst u
        rw [hA β β' (fun j hj => hb j (hnow j hj))]
      rcases hg γ with ⟨hw, hx⟩ | ⟨hw, rfl⟩
      · simp only [hw, if_true]
        refine .inl ?_
        unfold Oper.wp
        have hg' := hx w hF.below
        generalize (execOp (A γ).eval o).run P w = r at hg' ⊢
        cases r with
        | ok m w' =>
          cases m <;> simp only [GivesB] at hg' <;> simp only [Oper.upon]
          case enter f' args => exact hg'.mono fun e w'' ⟨he, hs⟩ => by subst he; exact wpAny_of_flowA hB hmd huniq hL f _ _ _ _ hsz' hA' (hF.plain hB hz hws hs) hk
          all_goals (obtain ⟨rfl, hs⟩ := hg'; exact wpAny_of_flowA hB hmd huniq hL f _ _ _ _ hsz' hA' (hF.plain hB hz hws hs) hk)
        | halt x w' => simp only [GivesB] at hg'
      · simp only [hw, Bool.false_eq_true, if_false]
        exact wpAny_of_flowA hB hmd huniq hL f _ _ _ _ hsz' hA' (hF.plain hB hz hws (Below.refl _ _)) hk

theorem wpAnyFA_first {n i : Nat} {oi : Oper} {v : Blocks → Value} {L : Array Bool → Fam → Prop} {Inv : Array Bool → Prop} (hi : ops[i]? = some oi) (hsel : ∀ (j : Nat) (o : Oper) cs b, ops[j]? = some o → o.op ≠ .select cs b)
    (hr : HeadRule md ops n Inv) (hin : i < n) (hdone : ∀ listed A, L listed A → ∀ j ∈ Region.ready md ops listed, n ≤ j) :
    ∀ (f : Nat) (listed : Array Bool) (A : Fam), Inv listed →
      (∀ j oj, ops[j]? = some oj → j ≠ i → listed.getD j true = false → (∀ e ∈ oj.after, Region.binds md e = true → e.on ≠ i) → oi.apart ops oj = true) →
      i ∈ Region.ready md ops listed → FamGives P ops B w0 Zs Ws i oi v A →
      wpAnyFA P md ops B w0 Zs Ws n L f (listed.setIfInBounds i true) (A.put oi.dst v) → wpAnyFA P md ops B w0 Zs Ws n L (f + 1) listed A := by
  intro f
  induction f with
  | zero =>
    intro listed A inv _ hri hy H
    refine ⟨fun h => (by rw [h] at hri; cases hri), fun j hj => ?_⟩
    have hjn := hr.first listed i inv hin (mem_ready.1 hri).1 j hj
    refine ⟨hjn, ?_⟩
    by_cases hji : j = i
    · subst hji; exact hy.flOpA hi H
    · have := hdone _ _ H j (ready_mono hj hji)
      omega
  | succ f ih =>
    intro listed A inv hfree hri hy H
    refine ⟨fun h => (by rw [h] at hri; cases hri), fun j hj => ?_⟩
    have hjn := hr.first listed i inv hin (mem_ready.1 hri).1 j hj
    refine ⟨hjn, ?_⟩
    by_cases hji : j = i
    · subst hji; exact hy.flOpA hi H
    · have h1 := (H.2 j (ready_mono hj hji)).2
      obtain ⟨hjun, oj, hoj, hall⟩ := mem_ready.1 hj
      have hnot : ∀ e ∈ oj.after, Region.binds md e = true → e.on ≠ i := fun e he hb heq => by
        have h1 := hall e he hb
        rw [heq, getD_both (mem_ready.1 hri).1] at h1
        cases h1
      have h2 := flOpA_put hoj (hfree j oj hoj hji hjun hnot) (fun cs b => hsel i oi cs b hi) (fun cs b => hsel j oj cs b hoj) hy h1
      refine flOpA_mono (fun A' h3 => ih (listed.setIfInBounds j true) A' (hr.step _ _ inv hj hjn) ?_ (ready_mono hri (Ne.symm hji)) h3.1 ?_) h2
      · intro k ok hk hki hun hno
        refine hfree k ok hk hki ?_ hno
        by_cases hjk : j = k
        · subst hjk; exact hjun
        · rw [getD_set_ne true hjk] at hun; exact hun
      · rw [Array.setIfInBounds_comm _ _ hji]
        exact h3.2

/-- The walk in the order of the text; k numbers the operations. -/
def wpFlowA (P : Program) (ops : Array Oper) (B : Nat) (w0 : World) (Zs : Nat → Option Obj) (Ws : Nat → Option (Nat × Obj)) (Q : Fam → Prop) : List Oper → Nat → Fam → Prop
  | [], _, A => Q A
  | o :: rest, k, A => ∃ v, FamGives P ops B w0 Zs Ws k o v A ∧ wpFlowA P ops B w0 Zs Ws Q rest (k + 1) (A.put o.dst v)

theorem wpAnyFA_lex {n g : Nat} {L : Array Bool → Fam → Prop} {Lq : Fam → Prop} {Inv : Array Bool → Prop} (hsel : Region.noSelect ops = true) (hr : HeadRule md ops n Inv)
    (hdone : ∀ listed A, L listed A → ∀ j ∈ Region.ready md ops listed, n ≤ j)
    (hend : ∀ listed A, Region.seqB md ops g n listed = true → (∀ j, j < n → listed.getD j false = true) → Lq A → L listed A) :
    ∀ (l : List Oper) (k : Nat) (listed : Array Bool) (A : Fam), (∀ j, j < l.length → l[j]? = ops[k + j]?) → k + l.length = n → Inv listed → listed.size = ops.size → (∀ j, j < k → listed.getD j false = true) →
    Region.lexHead md ops g l.length k listed = true → wpFlowA P ops B w0 Zs Ws Lq l k A → wpAnyFA P md ops B w0 Zs Ws n L l.length listed A
  | [], k, listed, A, _, hk, _, _, hls, hB, h => by
    have : k = n := by simpa using hk
    subst this
    exact hend _ _ (by simpa [Region.lexHead] using hB) hls h
  | o :: l, k, listed, A, hl, hk, inv, hsz, hls, hB, h => by
    have h0 : ops[k]? = some o := by simpa using (hl 0 (by simp)).symm
    have hin : k < ops.size := (Array.getElem?_eq_some_iff.1 h0).1
    simp only [List.length_cons, Region.lexHead, Bool.and_eq_true] at hB
    obtain ⟨⟨hrd, hf⟩, hB'⟩ := hB
    have hkn : k < n := by simp only [List.length_cons] at hk; omega
    have hr' : k ∈ Region.ready md ops listed := by simpa using hrd
    obtain ⟨v, hy, hK⟩ := h
    refine wpAnyFA_first h0 (Region.noSelect_spec hsel) hr hkn hdone l.length listed A inv (Region.free_spec h0 hf) hr' hy
      (wpAnyFA_lex hsel hr hdone hend l (k + 1) _ _ (fun j hj => by have := hl (j + 1) (by simp; omega); simpa [Nat.add_assoc, Nat.add_comm 1 j] using this) (by simp only [List.length_cons] at hk; omega) (hr.step _ _ inv hr' hkn) (by simpa using hsz) (fun j hj => ?_) hB' hK)
    by_cases e : k = j
    · subst e; simp [Array.getD, hsz, hin]
    · rw [getD_set_ne false e]; exact hls j (by omega)

/-- What is known behind the region. -/
structure Made (B : Nat) (w0 : World) (Zs : Nat → Option Obj) (Ws : Nat → Option (Nat × Obj)) (n : Nat) (γ : Blocks) (w : World) : Prop where
  below : Below B w0 w
  blk : ∀ i Z, i < n → Zs i = some Z → B ≤ γ i ∧ γ i < w.heap.size ∧ ((∀ s Z', Ws s ≠ some (i, Z')) → w.heap[γ i]? = some Z) ∧ (∀ s Z', s < n → Ws s = some (i, Z') → w.heap[γ i]? = some Z')
  inj : ∀ i j Z Z', i < n → j < n → Zs i = some Z → Zs j = some Z' → γ i = γ j → i = j

/-- A region that is all head. -/
theorem wp_region_flowA_all {id : Nat} {Q : Exit → Act → World → Prop} {a : Act} {w : World} {l : List Oper} (Zs : Nat → Option Obj) (Ws : Nat → Option (Nat × Obj)) (hm : P.follows .mixedOrders = true) (hB : flowB l.toArray = true) (huniq : ∀ s t x y z, Ws s = some (x, y) → Ws t = some (x, z) → s = t)
    (h : wpFlowA P l.toArray w.drew.heap.size w.drew Zs Ws (fun A => ∀ γ w', Made w.drew.heap.size w.drew Zs Ws l.length γ w' → Q .normal (A γ) w') l 0 (fun _ => a)) : (Code.region id l.toArray true).wp P Q a w := by
  simp only [flowB, Bool.and_eq_true] at hB
  refine wp_region_any hm ?_
  have H := wpAnyFA_lex (md := .any) (n := l.toArray.size) (g := 0)
    (L := fun listed a' => Region.ready .any l.toArray listed = [] ∧ (∀ j, j < l.length → listed.getD j false = true) ∧ ∀ γ w', Made w.drew.heap.size w.drew Zs Ws l.length γ w' → Q .normal (a' γ) w') (Inv := fun _ => True) hB.1
    ⟨fun _ _ _ _ _ => trivial, fun listed i _ _ _ j hj => by obtain ⟨_, o, ho, _⟩ := mem_ready.1 hj; exact (Array.getElem?_eq_some_iff.1 ho).1⟩
    (fun listed a' hL j hj => by rw [hL.1] at hj; cases hj)
    (fun listed a' hs hls hq => ⟨by simpa [Region.seqB] using hs, fun j hj => hls j (by simpa using hj), hq⟩)
    l 0 (Array.replicate l.toArray.size false) (fun _ => a) (fun j hj => by simp) (by simp) trivial (by simp) (fun j hj => by omega) (by simpa using hB.2) h
  have := wpAny_of_flowA (Q' := Q) (g := 0) (Nat.le_refl _) rfl huniq (fun listed' A' γ w' hF hL => by
    have hM : Made w.drew.heap.size w.drew Zs Ws l.length γ w' := ⟨hF.below, fun i Z hi hz => by
      obtain ⟨h1, h2, h3⟩ := hF.blk i Z hz (hL.2.1 i hi)
      exact ⟨h1, hF.lt i Z hz (hL.2.1 i hi), fun hn => h2 fun s Z' hs => absurd hs (hn s Z'), fun s Z' hsn hs => h3 s Z' hs (hL.2.1 s hsn)⟩, fun i j Z Z' hi hj hz hz' => hF.inj i j Z Z' hz hz' (hL.2.1 i hi) (hL.2.1 j hj)⟩
    exact ⟨hL.1, hL.2.2 γ w' hM⟩) _ _ _ (fun _ => 0) _ (by simp) (fun _ _ _ => rfl)
    ⟨Below.refl _ _, fun i Z _ hl => (by rw [getD_replicate_false] at hl; cases hl), fun i Z _ hl => (by rw [getD_replicate_false] at hl; cases hl), fun s i Z' _ hl => (by rw [getD_replicate_false] at hl; cases hl), fun i j Z Z' _ _ hl => (by rw [getD_replicate_false] at hl; cases hl)⟩ H
  simpa using this
end
end Go.Proofs.YtlfolgbaageknaaDoor.SB
