/-
  A calculus of walks: what is known of a frame is a list of slots with their values, what is known of memory is a list of blocks that the call owns.
-/
import Derived.Test.YtlfolgbaageknaaDoorFlowA
namespace Go.Proofs.YtlfolgbaageknaaDoor
open Go Go.RowKit

/-! ### frames -/
abbrev Sl := List (Nat × Value)
def Sl.get : Sl → Nat → Option Value
  | [], _ => none
  | p :: r, i => bif Nat.beq p.1 i then some p.2 else Sl.get r i
def ev (L : Sl) : Operand → Option Value
  | .tmp t => L.get t
  | .const v => some v
  | .global g => some (.pointer (some ⟨g, 0, none⟩))
  | .func f => some (.func (.func f) #[] #[])
def Sub (L : Sl) : Sl → Prop
  | [] => True
  | p :: r => L.get p.1 = some p.2 ∧ Sub L r

/-- What a walk is about: the number of slots, the deferred calls, the world at the start, the old blocks that may be written, old blocks that are read alone, with what they hold. -/
structure Cx where
  n : Nat
  D : List Deferred
  w0 : World
  M : List Nat
  R : List (Nat × Obj)

structure Fr (C : Cx) (L : Sl) (a : Act) : Prop where
  defers : a.defers = C.D
  size : C.n ≤ a.tmps.size
  get : ∀ i v, L.get i = some v → a.tmps[i]? = some v

theorem Sl.get_mem {L : Sl} {i : Nat} {v : Value} (h : L.get i = some v) : (i, v) ∈ L := by
  induction L with
  | nil => cases h
  | cons p r ih =>
    unfold Sl.get at h
    cases hb : Nat.beq p.1 i with
    | true =>
      rw [hb] at h
      have e : p.1 = i := Nat.eq_of_beq_eq_true hb
      have e2 : p.2 = v := by simpa using h
      rw [← e, ← e2]; exact List.mem_cons_self ..
    | false => rw [hb] at h; exact List.mem_cons_of_mem _ (ih h)
theorem Sub.get {L L' : Sl} (h : Sub L L') {p : Nat × Value} (hp : p ∈ L') : L.get p.1 = some p.2 := by
  induction L' with
  | nil => cases hp
  | cons q r ih =>
    rcases List.mem_cons.1 hp with rfl | hp
    · exact h.1
    · exact ih h.2 hp
variable {C : Cx} {L : Sl} {a : Act}
theorem Fr.sub {L' : Sl} (h : Fr C L a) (hs : Sub L L') : Fr C L' a :=
  ⟨h.defers, h.size, fun _ _ hg => h.get _ _ (hs.get (Sl.get_mem hg))⟩
theorem Fr.ev (h : Fr C L a) {x : Operand} {v : Value} (hx : ev L x = some v) : a.eval x = v := by
  cases x with
  | tmp t => simp only [Act.eval, Array.getD_eq_getD_getElem?, h.get t v hx, Option.getD_some]
  | const c => exact Option.some.inj hx
  | global g => exact Option.some.inj hx
  | func f => exact Option.some.inj hx
theorem Fr.put (h : Fr C L a) {d : Nat} (hn : Nat.blt d C.n = true) (v : Value) : Fr C ((d, v) :: L) (a.put (some d) v) := by
  have hd : d < C.n := Nat.blt_eq ▸ hn
  refine ⟨h.defers, by simpa [Act.put] using h.size, fun i u hg => ?_⟩
  have hsz := h.size
  unfold Sl.get at hg
  cases hb : Nat.beq d i with
  | true =>
    obtain rfl : d = i := Nat.eq_of_beq_eq_true hb
    simp only [hb, cond_true, Option.some.injEq] at hg
    subst hg
    simp [Act.put, show d < a.tmps.size by omega]
  | false =>
    simp only [hb, cond_false] at hg
    have hne : d ≠ i := fun e => by subst e; simp at hb
    simpa [Act.put, Array.getElem?_setIfInBounds_ne hne] using h.get i u hg
theorem Fr.put0 (h : Fr C L a) (v : Value) : Fr C L (a.put none v) := h

/-! ### memory -/
/-- What hangs on the cells of the blocks F alone. -/
def Keeps (p : World → List Nat → Prop) : Prop := ∀ w w' F, p w F → (∀ k ∈ F, w'.heap[k]? = w.heap[k]?) → p w' F
inductive HA where
  | blk (b : Nat) (o : Obj)
  | row (v : Value) (t : TypeId) (sz n : Nat) (xs : List Value)
  | gen (p : World → List Nat → Prop) (h : Keeps p)
def HA.at (w : World) : HA → List Nat → Prop
  | .blk b o, F => F = [b] ∧ w.heap[b]? = some o
  | .gen p _, F => p w F
  | .row v t sz n xs, F => F = v.ownBlock.toList ∧ w.ownsRow 0 t sz v n xs
def Own (w : World) : List HA → List Nat → Prop
  | [], F => F = []
  | h :: H, F => ∃ F1 F2, F = F1 ++ F2 ∧ h.at w F1 ∧ Own w H F2

structure Hp (C : Cx) (H : List HA) (w : World) : Prop where
  os : w.os = C.w0.os
  tape : w.tape = C.w0.tape
  output : w.output = C.w0.output
  size : C.w0.heap.size ≤ w.heap.size
  keep : ∀ k, k < C.w0.heap.size → k ∉ C.M → w.heap[k]? = C.w0.heap[k]?
  ro : ∀ p ∈ C.R, C.w0.heap[p.1]? = some p.2 ∧ p.1 ∉ C.M
  own : ∃ F, Own w H F ∧ F.Nodup ∧ ∀ k ∈ F, k < w.heap.size ∧ (C.w0.heap.size ≤ k ∨ k ∈ C.M)

theorem HA.at_keep {w w' : World} {h : HA} {F : List Nat} (hh : h.at w F) (hk : ∀ k ∈ F, w'.heap[k]? = w.heap[k]?) : h.at w' F := by
  cases h with
  | blk b o => obtain ⟨rfl, hb⟩ := hh; exact ⟨rfl, by rw [hk b (by simp)]; exact hb⟩
  | gen p h => exact h w w' F hh hk
  | row v t sz n xs =>
    obtain ⟨rfl, h1, hh⟩ := hh
    refine ⟨rfl, h1, ?_⟩
    rcases hh with hh | ⟨b, cap, cur, rfl, h2, hb, h3⟩
    · exact .inl hh
    · exact .inr ⟨b, cap, cur, rfl, h2, by rw [hk b (by simp [Value.ownBlock])]; exact hb, h3⟩
theorem Own.keep {w w' : World} : ∀ {H : List HA} {F : List Nat}, Own w H F → (∀ k ∈ F, w'.heap[k]? = w.heap[k]?) → Own w' H F
  | [], _, h, _ => h
  | _ :: _, _, ⟨F1, F2, hF, h1, h2⟩, hk =>
    ⟨F1, F2, hF, HA.at_keep h1 fun k hm => hk k (by rw [hF]; simp [hm]), h2.keep fun k hm => hk k (by rw [hF]; simp [hm])⟩
theorem Own.append {w : World} : ∀ {A B : List HA} {F G : List Nat}, Own w A F → Own w B G → Own w (A ++ B) (F ++ G)
  | [], _, _, _, h, h' => by have : _ = [] := h; subst this; simpa using h'
  | _ :: _, _, _, _, ⟨F1, F2, hF, h1, h2⟩, h' => ⟨F1, F2 ++ _, by rw [hF, List.append_assoc], h1, h2.append h'⟩
theorem Own.split {w : World} : ∀ {A B : List HA} {F : List Nat}, Own w (A ++ B) F → ∃ F1 F2, F = F1 ++ F2 ∧ Own w A F1 ∧ Own w B F2
  | [], _, F, h => ⟨[], F, rfl, rfl, h⟩
  | _ :: _, _, _, ⟨F1, F2, hF, h1, h2⟩ => by
    obtain ⟨G1, G2, rfl, h3, h4⟩ := h2.split
    exact ⟨F1 ++ G1, G2, by rw [hF, List.append_assoc], ⟨F1, G1, rfl, h1, h3⟩, h4⟩

/-- The entries of a list by their numbers. -/
def sel (H : List HA) : List Nat → List HA
  | [] => []
  | i :: r => match H[i]? with
    | some h => h :: sel H r
    | none => sel H r
/-- Each entry with its own blocks. -/
theorem Own.parts {w : World} : ∀ {H : List HA} {F : List Nat}, Own w H F → ∃ Fs : List (List Nat), Fs.length = H.length ∧ Fs.flatten = F ∧ ∀ (i : Nat) (h : HA) (f : List Nat), H[i]? = some h → Fs[i]? = some f → h.at w f
  | [], _, h => ⟨[], rfl, by have : _ = [] := h; simp [this], fun i h f hh _ => by simp at hh⟩
  | h0 :: H, _, ⟨F1, F2, hF, h1, h2⟩ => by
    obtain ⟨Fs, hl, hf, hall⟩ := h2.parts
    refine ⟨F1 :: Fs, by simp [hl], by simp [hf, hF], fun i h f hh hff => ?_⟩
    cases i with
    | zero => simp at hh hff; subst hh; subst hff; exact h1
    | succ i => simp at hh hff; exact hall i h f hh hff
theorem disj_of_nodup : ∀ {Fs : List (List Nat)}, Fs.flatten.Nodup → ∀ {i j : Nat} {f g : List Nat}, Fs[i]? = some f → Fs[j]? = some g → i ≠ j → ∀ k ∈ f, k ∉ g := by
  intro Fs
  induction Fs with
  | nil => intro _ i j f g h; simp at h
  | cons F Fs ih =>
    intro hn i j f g hf hg hij k hk hk'
    rw [List.flatten_cons, List.nodup_append] at hn
    obtain ⟨_, h2, h3⟩ := hn
    cases i with
    | zero =>
      cases j with
      | zero => exact hij rfl
      | succ j =>
        simp at hf hg; subst hf
        exact h3 k hk k (List.mem_flatten.2 ⟨g, List.mem_of_getElem? hg, hk'⟩) rfl
    | succ i =>
      cases j with
      | zero =>
        simp at hf hg; subst hg
        exact h3 k hk' k (List.mem_flatten.2 ⟨f, List.mem_of_getElem? hf, hk⟩) rfl
      | succ j => simp at hf hg; exact ih h2 hf hg (by omega) k hk hk'
theorem nodup_part {Fs : List (List Nat)} (h : Fs.flatten.Nodup) {i : Nat} {f : List Nat} (hf : Fs[i]? = some f) : f.Nodup := by
  induction Fs generalizing i with
  | nil => simp at hf
  | cons F Fs ih =>
    rw [List.flatten_cons, List.nodup_append] at h
    cases i with
    | zero => simp at hf; subst hf; exact h.1
    | succ i => simp at hf; exact ih h.2.1 hf
theorem own_sel {w : World} {H : List HA} {Fs : List (List Nat)} (hl : Fs.length = H.length) (hall : ∀ (i : Nat) (h : HA) (f : List Nat), H[i]? = some h → Fs[i]? = some f → h.at w f) (hn : Fs.flatten.Nodup) :
    ∀ {idx : List Nat}, idx.Nodup → ∃ G, Own w (sel H idx) G ∧ G.Nodup ∧ ∀ k ∈ G, ∃ i ∈ idx, ∃ f, Fs[i]? = some f ∧ k ∈ f
  | [], _ => ⟨[], rfl, List.nodup_nil, fun k hk => by cases hk⟩
  | i :: r, hi => by
    rw [List.nodup_cons] at hi
    obtain ⟨G, h1, h2, h3⟩ := own_sel hl hall hn hi.2
    unfold sel
    cases hh : H[i]? with
    | none => exact ⟨G, h1, h2, fun k hk => by obtain ⟨j, hj, f, hf⟩ := h3 k hk; exact ⟨j, by simp [hj], f, hf⟩⟩
    | some h =>
      have hlt : i < Fs.length := by rw [hl]; exact (List.getElem?_eq_some_iff.1 hh).1
      have hf : Fs[i]? = some Fs[i] := List.getElem?_eq_getElem hlt
      refine ⟨Fs[i] ++ G, ⟨Fs[i], G, rfl, hall i h _ hh hf, h1⟩, ?_, fun k hk => ?_⟩
      · rw [List.nodup_append]
        refine ⟨nodup_part hn hf, h2, fun x hx y hy e => ?_⟩
        subst e
        obtain ⟨j, hj, f, hf', hk⟩ := h3 _ hy
        exact disj_of_nodup hn hf hf' (fun e => hi.1 (e ▸ hj)) _ hx hk
      · rcases List.mem_append.1 hk with hk | hk
        · exact ⟨i, by simp, _, hf, hk⟩
        · obtain ⟨j, hj, f, hf'⟩ := h3 k hk; exact ⟨j, by simp [hj], f, hf'⟩
def nodupB : List Nat → Bool
  | [] => true
  | i :: r => !r.contains i && nodupB r
theorem nodupB_spec : ∀ {l : List Nat}, nodupB l = true → l.Nodup
  | [], _ => List.nodup_nil
  | i :: r, h => by
    simp only [nodupB, Bool.and_eq_true, Bool.not_eq_true', List.contains_eq_mem, decide_eq_false_iff_not] at h
    exact List.nodup_cons.2 ⟨h.1, nodupB_spec h.2⟩

variable {H : List HA} {w : World}
theorem Hp.pick (h : Hp C H w) (idx : List Nat) (hi : nodupB idx = true) : Hp C (sel H idx) w := by
  obtain ⟨F, h1, h2, h3⟩ := h.own
  obtain ⟨Fs, hl, rfl, hall⟩ := h1.parts
  obtain ⟨G, g1, g2, g3⟩ := own_sel hl hall h2 (nodupB_spec hi)
  exact ⟨h.os, h.tape, h.output, h.size, h.keep, h.ro, G, g1, g2, fun k hk => by
    obtain ⟨i, _, f, hf, hk⟩ := g3 k hk
    exact h3 k (List.mem_flatten.2 ⟨f, List.mem_of_getElem? hf, hk⟩)⟩
/-- The walk's start: the old blocks that it may write, with what they hold. -/
theorem Hp.start (n : Nat) (D : List Deferred) (w : World) {H : List HA} {M : List Nat} {R : List (Nat × Obj)} (h : Own w H M) (hn : M.Nodup) (hlt : ∀ k ∈ M, k < w.heap.size) (hR : ∀ p ∈ R, w.heap[p.1]? = some p.2 ∧ p.1 ∉ M) : Hp ⟨n, D, w, M, R⟩ H w :=
  ⟨rfl, rfl, rfl, Nat.le_refl _, fun _ _ _ => rfl, hR, M, h, hn, fun k hk => ⟨hlt k hk, .inr hk⟩⟩
theorem Hp.ctx {n n' : Nat} {D D' : List Deferred} {w0 w : World} {M : List Nat} {R : List (Nat × Obj)} {H : List HA} (h : Hp ⟨n, D, w0, M, R⟩ H w) : Hp ⟨n', D', w0, M, R⟩ H w := ⟨h.os, h.tape, h.output, h.size, h.keep, h.ro, h.own⟩
theorem Hp.blk (h : Hp C H w) {i b : Nat} {o : Obj} (hi : H[i]? = some (.blk b o)) : w.heap[b]? = some o := by
  obtain ⟨F, h1, _, _⟩ := h.own
  obtain ⟨Fs, hl, _, hall⟩ := h1.parts
  have hlt : i < Fs.length := by rw [hl]; exact (List.getElem?_eq_some_iff.1 hi).1
  exact (hall i _ _ hi (List.getElem?_eq_getElem hlt)).2
theorem Hp.old (h : Hp C H w) {b : Nat} {o : Obj} (hb : (b, o) ∈ C.R) : w.heap[b]? = some o := by
  obtain ⟨h1, h2⟩ := h.ro _ hb
  rw [h.keep b (lt_of_blk h1) h2]; exact h1
theorem Hp.alloc (h : Hp C H w) (o : Obj) : Hp C (.blk w.heap.size o :: H) (w.alloc o) := by
  obtain ⟨F, h1, h2, h3⟩ := h.own
  refine ⟨h.os, h.tape, h.output, ?_, fun k hk hM => ?_, h.ro, w.heap.size :: F, ⟨[w.heap.size], F, rfl, ⟨rfl, heap_alloc_new _ _⟩, h1.keep fun k hk => ?_⟩, ?_, fun k hk => ?_⟩
  · rw [World.size_alloc]; have := h.size; omega
  · rw [heap_alloc_old _ _ (h := by have := h.size; omega)]; exact h.keep k hk hM
  · exact heap_alloc_old _ _ (h := (h3 k hk).1)
  · exact List.nodup_cons.2 ⟨fun hm => by have := (h3 _ hm).1; omega, h2⟩
  · rw [World.size_alloc]
    rcases List.mem_cons.1 hk with rfl | hk
    · exact ⟨by omega, .inl h.size⟩
    · exact ⟨by have := (h3 k hk).1; omega, (h3 k hk).2⟩
theorem Hp.below (h : Hp C H w) {w' : World} (hb : Below w.heap.size w w') : Hp C H w' := by
  obtain ⟨F, h1, h2, h3⟩ := h.own
  exact ⟨hb.os.trans h.os, hb.tape.trans h.tape, hb.output.trans h.output, Nat.le_trans h.size hb.size,
    fun k hk hM => by rw [hb.block k (by have := h.size; omega)]; exact h.keep k hk hM, h.ro,
    F, h1.keep (fun k hk => hb.block k (h3 k hk).1), h2, fun k hk => ⟨Nat.lt_of_lt_of_le (h3 k hk).1 hb.size, (h3 k hk).2⟩⟩
theorem Hp.drew (h : Hp C H w) : Hp C H w.drew := h.below (Below.refl _ _).drew
theorem Hp.toBelow {n : Nat} {D : List Deferred} {w0 : World} {R : List (Nat × Obj)} (h : Hp ⟨n, D, w0, [], R⟩ H w) : Below w0.heap.size w0 w :=
  ⟨h.os, h.tape, h.output, h.size, fun k hk => h.keep k hk (by simp)⟩
theorem set_parts {Fs : List (List Nat)} {H : List HA} {w : World} {i : Nat} {x : HA} (hl : Fs.length = H.length) (hall : ∀ (j : Nat) (h : HA) (f : List Nat), H[j]? = some h → j ≠ i → Fs[j]? = some f → h.at w f)
    (hx : ∀ f, Fs[i]? = some f → x.at w f) : Own w (H.set i x) Fs.flatten := by
  induction H generalizing Fs i with
  | nil => cases Fs with
    | nil => exact rfl
    | cons _ _ => simp at hl
  | cons h0 H ih =>
    cases Fs with
    | nil => simp at hl
    | cons F Fs =>
      have hl' : Fs.length = H.length := by simpa using hl
      cases i with
      | zero =>
        refine ⟨F, Fs.flatten, by simp, hx F (by simp), ?_⟩
        have : Own w (H.set H.length x) Fs.flatten := ih hl' (fun j h f hh _ hf => hall (j + 1) h f (by simpa using hh) (by omega) (by simpa using hf)) (fun f hf => by
          have := (List.getElem?_eq_some_iff.1 hf).1; omega)
        rwa [List.set_eq_of_length_le (Nat.le_refl _)] at this
      | succ i =>
        refine ⟨F, Fs.flatten, by simp, hall 0 h0 F (by simp) (by omega) (by simp), ?_⟩
        exact ih hl' (fun j h f hh hn hf => hall (j + 1) h f (by simpa using hh) (by omega) (by simpa using hf)) (fun f hf => hx f (by simpa using hf))
theorem Hp.start_size (h : Hp C H w) : C.w0.heap.size ≤ w.heap.size := h.size
/-- A world that differs from the one at hand in one own block alone. -/
theorem Hp.set (h : Hp C H w) {i b : Nat} {o o' : Obj} (hi : H[i]? = some (.blk b o)) {w' : World} (hos : w'.os = w.os) (htape : w'.tape = w.tape) (hout : w'.output = w.output)
    (hsz : w'.heap.size = w.heap.size) (hoth : ∀ k, k ≠ b → w'.heap[k]? = w.heap[k]?) (hb : w'.heap[b]? = some o') : Hp C (H.set i (.blk b o')) w' := by
  obtain ⟨F, h1, h2, h3⟩ := h.own
  obtain ⟨Fs, hl, rfl, hall⟩ := h1.parts
  have hlt : i < Fs.length := by rw [hl]; exact (List.getElem?_eq_some_iff.1 hi).1
  have hfi : Fs[i]? = some Fs[i] := List.getElem?_eq_getElem hlt
  have hF := (hall i _ _ hi hfi).1
  have hmem : b ∈ Fs.flatten := List.mem_flatten.2 ⟨Fs[i], List.getElem_mem _, by rw [hF]; simp⟩
  refine ⟨hos.trans h.os, htape.trans h.tape, hout.trans h.output, by rw [hsz]; exact h.size, fun k hk hM => ?_, h.ro, Fs.flatten, ?_, h2, fun k hk => by rw [hsz]; exact h3 k hk⟩
  · rw [hoth k (fun e => by subst e; rcases (h3 _ hmem).2 with h4 | h4 <;> first | omega | exact hM h4)]
    exact h.keep k hk hM
  · refine set_parts hl (fun j x f hj hne hf => ?_) (fun f hf => ?_)
    · refine HA.at_keep (hall j x f hj hf) fun k hk => hoth k fun e => ?_
      subst e
      exact disj_of_nodup h2 hf hfi hne _ hk (by rw [hF]; simp)
    · rw [hfi] at hf
      cases hf
      exact ⟨hF, hb⟩

/-! ### calls: the blocks that the callee may write are the blocks of the first entries -/
theorem Hp.call {A R A' : List HA} {w' : World} {n' : Nat} {D' : List Deferred} {F1 F2 : List Nat} {R' : List (Nat × Obj)} (h : Hp C (A ++ R) w) (hR : Own w R F2) (h2 : (F1 ++ F2).Nodup)
    (h3 : ∀ k ∈ F1 ++ F2, k < w.heap.size ∧ (C.w0.heap.size ≤ k ∨ k ∈ C.M)) (hc : Hp ⟨n', D', w, F1, R'⟩ A' w') : Hp C (A' ++ R) w' := by
  have hM : ∀ k ∈ F1, k ∈ F1 := fun _ h => h
  obtain ⟨G, g1, g2, g3⟩ := hc.own
  rw [List.nodup_append] at h2
  have hcs := hc.size
  simp only at hcs g3
  refine ⟨hc.os.trans h.os, hc.tape.trans h.tape, hc.output.trans h.output, Nat.le_trans h.size hc.size, fun k hk hkM => ?_, h.ro, G ++ F2, g1.append (hR.keep fun k hk => ?_), ?_, fun k hk => ?_⟩
  · have hk' : k < w.heap.size := by have := h.size; omega
    rw [hc.keep k hk' (fun hm => by
      have h4 := (h3 k (List.mem_append.2 (.inl (hM k hm)))).2
      rcases h4 with h4 | h4
      · omega
      · exact hkM h4)]
    exact h.keep k hk hkM
  · exact hc.keep k (h3 k (List.mem_append.2 (.inr hk))).1 (fun hm => h2.2.2 k (hM k hm) k hk rfl)
  · rw [List.nodup_append]
    refine ⟨g2, h2.2.1, fun x hx y hy e => ?_⟩
    subst e
    rcases (g3 x hx).2 with h4 | h4
    · have := (h3 x (List.mem_append.2 (.inr hy))).1; omega
    · exact h2.2.2 x (hM x h4) x hy rfl
  · rcases List.mem_append.1 hk with hk | hk
    · refine ⟨(g3 k hk).1, ?_⟩
      rcases (g3 k hk).2 with h4 | h4
      · exact .inl (Nat.le_trans h.size h4)
      · exact (h3 k (List.mem_append.2 (.inl (hM k h4)))).2
    · exact ⟨Nat.lt_of_lt_of_le (h3 k (List.mem_append.2 (.inr hk))).1 hcs, (h3 k (List.mem_append.2 (.inr hk))).2⟩

end Go.Proofs.YtlfolgbaageknaaDoor
