/-
  A law's slice argument, opened: the list that it reads, and the block that holds it.
-/
import Derived.Test.YtkjnhjhkaaampaaGwl
import Derived.ChangeArms
import Derived.DataReads
import Derived.WideShapes
import Derived.Lib.SmallJoins
namespace Go.Proofs.Ytkjnhjhkaaampaa
open Go Go.ChangeShapes Go.WideShapes Go.ChangeAt Go.RowKit

theorem pick_list {α : Type} {Q : Nat → α → Prop} : ∀ n : Nat, (∀ i, i < n → ∃ x, Q i x) → ∃ l : List α, l.length = n ∧ ∀ (i : Nat) (x : α), l[i]? = some x → Q i x
  | 0, _ => ⟨[], rfl, fun i x h => by simp at h⟩
  | n + 1, h => by
    obtain ⟨l, hl, hq⟩ := pick_list n fun i hi => h i (by omega)
    obtain ⟨x, hx⟩ := h n (by omega)
    refine ⟨l ++ [x], by simp [hl], fun i y hy => ?_⟩
    by_cases hi : i < n
    · rw [List.getElem?_append_left (by omega)] at hy
      exact hq i y hy
    · rw [List.getElem?_append_right (by omega)] at hy
      have h0 : i - l.length = 0 := by
        rcases Nat.eq_zero_or_pos (i - l.length) with h | h
        · exact h
        · rw [List.getElem?_eq_none (by simp only [List.length_cons, List.length_nil]; omega)] at hy; cases hy
      rw [h0] at hy
      simp at hy
      subst hy
      rw [show i = n by omega]; exact hx
theorem flat_get0 {α : Type} {f : α → List Value} {sz : Nat} (hf : ∀ x, (f x).length = sz) {l : List α} {i o : Nat} {x : α} {u : Value} (hi : l[i]? = some x) (hu : (f x)[o]? = some u) : (l.flatMap f)[i * sz + o]? = some u := by
  have hlt := (List.getElem?_eq_some_iff.1 hi).1
  have : Inhabited α := ⟨x⟩
  refine flat_get hf hlt ?_
  rw [List.getD_eq_getElem?_getD, hi]; exact hu
theorem open_in {H : Type} {enc : TypeId × Value → H} {P : Program} {W : World} {base : Nat} {spare : Nat → Bool} {held : Bool} {r : Reach} {b0 : Nat} {t e : TypeId} {v : Value} {d : DataW H} {p : List MemPlace} {sz : Nat} {α : Type} {f : α → List Value} {G : α → DataW H → Prop}
    (ht : P.underlying t = some (.slice e)) (hc : P.cellsOf e = sz) (h0 : 0 < sz) (hf : ∀ x, (f x).length = sz) (hel : ∀ n cs y, DataW.trod enc P W base spare held n e cs = some y → ∃ x, cs = f x ∧ G x y.1)
    (hv : Value.okWide P W r b0 t v) (h : DataW.Trod enc P W base spare held t v d p) :
    ∃ (R : List (Nat × Obj)) (l : List α), InSl v R l.length (l.flatMap f) ∧ (∀ q ∈ R, W.heap[q.1]? = some q.2) ∧ (d = .nil ∧ l = [] ∨ ∃ es sp, d = .slice es sp ∧ es.length = l.length ∧ ∀ (i : Nat) (x : α), l[i]? = some x → ∃ y, es[i]? = some y ∧ G x y) := by
  obtain ⟨a0, len0, cap0, rfl⟩ := okWide_slice ht hv
  obtain ⟨fuel, hfu⟩ := h
  rcases DataW.trod_slice ht hfu with ⟨hcs, hx⟩ | ⟨a, len, cap, elems, rest, n, _, hcs, hx, _, hl, _, hlen, hel2, _⟩
  · simp [Value.cells] at hcs
    obtain ⟨rfl, rfl, rfl⟩ := hcs
    simp only [Prod.mk.injEq] at hx
    exact ⟨[], [], .inl ⟨rfl, rfl, ⟨_, _, rfl⟩, rfl⟩, fun q hq => (by cases hq), .inl ⟨hx.1, rfl⟩⟩
  · simp [Value.cells] at hcs
    obtain ⟨rfl, rfl, rfl⟩ := hcs
    simp only [Prod.mk.injEq] at hx
    obtain ⟨l, hll, hq⟩ := pick_list (Q := fun i x => W.cells? base (a.add (i * sz)) sz = some (f x) ∧ ∃ y, elems[i]? = some y ∧ G x y.1) len0 fun i hi => by
      have h1 := hel2 i hi
      rw [hc, List.getElem?_eq_getElem (by omega), Option.bind_eq_some_iff] at h1
      obtain ⟨cs, h2, h3⟩ := h1
      obtain ⟨x, rfl, hg⟩ := hel _ _ _ h3
      exact ⟨x, h2, _, List.getElem?_eq_getElem (by omega), hg⟩
    have hd : ∃ es sp, d = .slice es sp ∧ es.length = l.length ∧ ∀ (i : Nat) (x : α), l[i]? = some x → ∃ y, es[i]? = some y ∧ G x y := by
      refine ⟨elems.map (·.1), rest.map (·.1), hx.1, by simp; omega, fun i x hi => ?_⟩
      obtain ⟨_, y, hy, hg⟩ := hq i x hi
      exact ⟨y.1, by simp [hy], hg⟩
    rcases Nat.eq_zero_or_pos len0 with h00 | hpos
    · subst h00
      have hl0 : l = [] := List.eq_nil_of_length_eq_zero hll
      subst hl0
      exact ⟨[], [], .inl ⟨rfl, rfl, ⟨_, _, rfl⟩, rfl⟩, fun q hq => (by cases hq), .inr hd⟩
    · -- the first cell tells the block
      have hx0 : ∃ x, l[0]? = some x := ⟨_, List.getElem?_eq_getElem (by omega)⟩
      obtain ⟨x0, hx0⟩ := hx0
      have hc0 := World.cells?_some (hq 0 x0 hx0).1
      have hcell := hc0.2.2 0 h0
      rw [Nat.zero_mul] at hcell
      have hf0 : ∃ u, (f x0)[0]? = some u := ⟨_, List.getElem?_eq_getElem (show 0 < (f x0).length by rw [hf]; exact h0)⟩
      obtain ⟨u0, hu0⟩ := hf0
      rw [hu0] at hcell
      have ha0 : (a.add 0).add 0 = a := rfl
      rw [ha0] at hcell
      obtain ⟨b, off, spot⟩ := a
      obtain ⟨cs, T, fr, hblk, rfl⟩ : ∃ cs T fr, W.heap[b]? = some (.cells cs T fr) ∧ spot = none := by
        unfold World.cell? at hcell
        simp only at hcell
        split at hcell
        · rename_i c T fr hb
          split at hcell
          · cases hcell
          · rename_i hs
            exact ⟨c, T, fr, hb, by simpa using hs⟩
        · cases hcell
      refine ⟨[(b, .cells cs T fr)], l, .inr ⟨b, off, cap0, cs.toList, T, fr, by rw [hll], by rw [Array.toArray_toList], ?_⟩, fun q hq' => by rw [List.mem_singleton.1 hq']; exact hblk, .inr hd⟩
      have key : ∀ j u, (l.flatMap f)[j]? = some u → cs.toList[off + j]? = some u := by
        intro j u hj
        have hjl : j < l.length * sz := by rw [← flat_len hf l]; exact (List.getElem?_eq_some_iff.1 hj).1
        have hqi : j / sz < l.length := Nat.div_lt_of_lt_mul (by rw [Nat.mul_comm]; exact hjl)
        have e1 : j = j / sz * sz + j % sz := (Nat.div_add_mod' j sz).symm
        have hr := Nat.mod_lt j h0
        have hxi : l[j / sz]? = some l[j / sz] := List.getElem?_eq_getElem hqi
        have h2 := (World.cells?_some (hq _ _ hxi).1).2.2 (j % sz) hr
        have h3 : (f l[j / sz])[j % sz]? = some u := by
          obtain ⟨u', hu'⟩ : ∃ u', (f l[j / sz])[j % sz]? = some u' := ⟨_, List.getElem?_eq_getElem (show j % sz < (f l[j / sz]).length by rw [hf]; exact hr)⟩
          have := flat_get0 hf hxi hu'
          rw [← e1, hj] at this
          rw [hu', this]
        rw [h3, Addr.add_mid, Addr.add_mid] at h2
        unfold World.cell? at h2
        simp only [hblk] at h2
        simp only [Option.isSome_none, Bool.false_eq_true, if_false] at h2
        rw [show off + j / sz * sz + j % sz = off + j by omega] at h2
        simpa using h2
      refine List.ext_getElem? fun j => ?_
      by_cases hj : j < (l.flatMap f).length
      · rw [List.getElem?_take, if_pos hj, List.getElem?_drop, key j _ (List.getElem?_eq_getElem hj), List.getElem?_eq_getElem hj]
      · rw [List.getElem?_eq_none (by rw [List.length_take]; omega), List.getElem?_eq_none (by omega)]
end Go.Proofs.Ytkjnhjhkaaampaa
