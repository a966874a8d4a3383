/-
  The document's functions in, Special, Inner, Count, One.
-/
import Derived.Test.YtkjnhjhkaaampaaDoorShow
namespace Go.Proofs.YtkjnhjhkaaampaaDoor
open Go Go.RowKit

theorem contains_drop (l : List UInt8) (c : UInt8) (k : Nat) (h : k < l.length) : (l.drop k).contains c = ((l[k]! == c) || (l.drop (k + 1)).contains c) := by
  rw [List.drop_eq_getElem_cons h, List.contains_cons, getElem!_pos l k h, Bool.beq_comm]

set_option maxRecDepth 100000 in
theorem in_ref (l : List UInt8) (b : Nat) (hb : b < 256) (hsz : l.length < 1000) : Pure Tryd.prog 28 #[.string (bs l), .int .u8 b] (.bool (l.contains b.toUInt8)) := by
  intro w
  have hz := bs_size l
  go_enter Tryd.func28, Tryd.ntmps28
  go_wp2_with fail
  go_loopw [4, 5] (fun r i wr => ∃ k : Nat, r = .bool false ∧ i = .int .i64 k ∧ k ≤ l.length ∧ l.contains b.toUInt8 = (l.drop k).contains b.toUInt8 ∧ wr = w)
    (fun _ i _ => l.length - (intOf i).toNat)
  case atStart => exact ⟨0, rfl, rfl, by omega, by simp, rfl⟩
  case round =>
    obtain ⟨k, rfl, rfl, hk, hc, rfl⟩ := hrel
    by_cases hlt : k < l.length
    · have hd := contains_drop l b.toUInt8 k hlt
      have hg : ∀ h, (bs l)[k]'h = l[k]! := fun h => by rw [getElem!_pos l k hlt]; rfl
      have hgb : ((l[k]!.toNat : Int) == (b : Int)) = (l[k]! == b.toUInt8) := by
        generalize l[k]! = x
        have hbt : b.toUInt8.toNat = b := by simp; omega
        rw [Bool.eq_iff_iff]
        simp only [beq_iff_eq]
        constructor
        · intro h; apply UInt8.toNat_inj.1; omega
        · intro h; rw [h, hbt]
      have HG := Lib.hid hg
      have HB := Lib.hid hgb
      have HC := Lib.hid hc
      have HD := Lib.hid hd
      clear hg hgb hc hd
      go_wp2
      · rename_i h
        rw [HG.out, HB.out] at h
        go_ret
        exact ⟨by rw [HC.out, HD.out, h]; rfl, Below.refl _ _⟩
      · rename_i h
        rw [HG.out, HB.out] at h
        go_roundw
        case rel => exact ⟨k + 1, rfl, by go_num, by omega, by rw [HC.out, HD.out, h, Bool.false_or], trivial⟩
        case measure => simp [intOf] <;> omega
    · have he : k = l.length := by omega
      have HC := Lib.hid (show l.contains b.toUInt8 = false by rw [hc, he, List.drop_length]; rfl)
      clear hc
      go_wp2
      go_ret
      exact ⟨by rw [HC.out]; rfl, Below.refl _ _⟩

set_option maxRecDepth 100000 in
theorem count_ref (f : Nat → Bool) : Pure Tryd.prog 19 #[.agg (boolsF f)] (.int .i64 ((List.range 256).countP f)) := by
  intro w
  have h0 := heap_alloc_new w (.cells (boolsF f) 29)
  have H0 := Lib.hid h0; clear h0
  have hb0 : Below w.heap.size w (w.alloc (.cells (boolsF f) 29)) := (Below.refl _ _).alloc (Nat.le_refl _) _
  go_enter Tryd.func19, Tryd.ntmps19
  go_wp2_with fail
  generalize w.alloc (.cells (boolsF f) 29) = W at H0 hb0 ⊢
  go_loopw [3, 4] (fun n i wr => ∃ k : Nat, i = .int .i64 k ∧ k ≤ 256 ∧ n = .int .i64 ((List.range k).countP f) ∧ wr = W)
    (fun _ i _ => 256 - (intOf i).toNat)
  case atStart => exact ⟨0, rfl, by omega, rfl, rfl⟩
  case round =>
    obtain ⟨k, rfl, hk, rfl, rfl⟩ := hrel
    have hle : (List.range k).countP f ≤ k := by have := List.countP_le_length (p := f) (l := List.range k); simpa using this
    by_cases hlt : k < 256
    · have hcell : wr.cell? ⟨w.heap.size, k, none⟩ = some (.bool (f k)) := (cell_of_row _ _ k _ _ _ H0.out).trans (boolsF_at f k hlt)
      have HC := Lib.hid (show (List.range (k + 1)).countP f = (List.range k).countP f + (if f k = true then 1 else 0) by rw [List.range_succ, List.countP_append]; simp [List.countP_cons])
      generalize (List.range k).countP f = c at HC hle ⊢
      cases hf : f k
      · rw [hf] at hcell HC
        clear hf
        go_wp2
        go_roundw
        case rel => exact ⟨k + 1, by go_num, by omega, by rw [HC.out]; rfl, trivial⟩
        case measure => simp [intOf] <;> omega
      · rw [hf] at hcell HC
        clear hf
        go_wp2
        go_roundw
        case rel => exact ⟨k + 1, by go_num, by omega, by rw [HC.out]; go_num, trivial⟩
        case measure => simp [intOf] <;> omega
    · have he : k = 256 := by omega
      subst he
      generalize hc : (List.range 256).countP f = c at hle ⊢
      have HC := Lib.hid hc; clear hc
      go_wp2
      go_ret
      exact ⟨by rw [HC.out]; rfl, hb0⟩

def oneL (b : Nat) (c : Bool) : List UInt8 :=
  match escOf b with
  | some x => [92, x]
  | none => if b < 32 ∨ 126 < b then [92, 120, hexd (b / 16), hexd (b % 16)] else if c then [92, b.toUInt8] else [b.toUInt8]
theorem oneL_eq (b : Nat) (l : List UInt8) : oneL b (l.contains b.toUInt8) = singleL b l := rfl

theorem special_ref (b : Nat) (hb : b < 256) : Pure Tryd.prog 21 #[.int .u8 b] (.bool (spL.contains b.toUInt8)) := by
  intro w
  have C := Lib.hid (in_ref spL b hb (by decide))
  go_enter Tryd.func21, Tryd.ntmps21
  go_wp2_with fail
  refine (C.out w).mono ?_
  rintro e W ⟨rfl, hv⟩
  generalize hr : spL.contains b.toUInt8 = r
  have HR := Lib.hid hr; clear hr
  go_wp2
  go_ret
  exact ⟨by rw [HR.out]; rfl, hv⟩

theorem inner_ref (b : Nat) (hb : b < 256) : Pure Tryd.prog 22 #[.int .u8 b] (.bool (inL.contains b.toUInt8)) := by
  intro w
  have C := Lib.hid (in_ref inL b hb (by decide))
  go_enter Tryd.func22, Tryd.ntmps22
  go_wp2_with fail
  refine (C.out w).mono ?_
  rintro e W ⟨rfl, hv⟩
  generalize hr : inL.contains b.toUInt8 = r
  have HR := Lib.hid hr; clear hr
  go_wp2
  go_ret
  exact ⟨by rw [HR.out]; rfl, hv⟩

/-- 'string' of two bytes in a block of their own. -/
theorem conv2 (x y : UInt8) (W : World) (g : Nat) (h0 : W.cell? ⟨g, 0, none⟩ = some (.int .u8 (x.toNat : Int))) (h1 : W.cell? ⟨g, 1, none⟩ = some (.int .u8 (y.toNat : Int))) :
    (convert 62 9 (.slice (some ⟨g, 0, none⟩) 2 2)).run Tryd.prog W = .ok (.string ⟨#[x, y]⟩) W := by
  refine run_convert_bytes_back (P := Tryd.prog) W 62 9 5 ⟨g, 0, none⟩ 2 [x, y] Tryd.underlying62 Tryd.underlying5 Tryd.underlying9 (fun j hj => ?_)
  have hj2 : j = 0 ∨ j = 1 := by simp at hj; omega
  rcases hj2 with rfl | rfl
  · exact h0
  · exact h1
theorem hex_get : ∀ n : Fin 16, hexB[n.val]? = some (hexd n) := by decide +kernel
theorem hex_index (n : Nat) (hn : n < 16) (W : World) : (Instr.index 9 (.string hexB) (.int .u8 (n : Int))).run Tryd.prog W = .ok (.int .u8 ((hexd n).toNat : Int)) W := by
  have h := hex_get ⟨n, hn⟩
  have hs : hexB.size = 16 := rfl
  rw [run_index_string (h := Tryd.underlying9), dif_pos ⟨by omega, by omega⟩]
  have h2 : hexB[(n : Int).toNat]? = some (hexd n) := h
  rw [getElem?_pos hexB _ (by simp; omega)] at h2
  rw [Option.some.inj h2]

set_option maxRecDepth 100000 in
theorem one_ref (b : Nat) (hb : b < 256) (c : Bool) : Pure Tryd.prog 20 #[.int .u8 b, .bool c] (.string (bs (oneL b c))) := by
  intro w
  have d1 : ((b : Int) == 10) = decide (b = 10) := by rw [Bool.eq_iff_iff]; simp; omega
  have d2 : ((b : Int) == 13) = decide (b = 13) := by rw [Bool.eq_iff_iff]; simp; omega
  have d3 : ((b : Int) == 9) = decide (b = 9) := by rw [Bool.eq_iff_iff]; simp; omega
  by_cases e1 : b = 10
  · subst e1; cases c <;> (go_enter Tryd.func20, Tryd.ntmps20; go_wp2; go_ret; exact ⟨rfl, Below.refl _ _⟩)
  by_cases e2 : b = 13
  · subst e2; cases c <;> (go_enter Tryd.func20, Tryd.ntmps20; go_wp2; go_ret; exact ⟨rfl, Below.refl _ _⟩)
  by_cases e3 : b = 9
  · subst e3; cases c <;> (go_enter Tryd.func20, Tryd.ntmps20; go_wp2; go_ret; exact ⟨rfl, Below.refl _ _⟩)
  rw [decide_eq_false e1] at d1
  rw [decide_eq_false e2] at d2
  rw [decide_eq_false e3] at d3
  have HN := Lib.hid (escOf_none e1 e2 e3)
  clear e1 e2 e3
  go_enter Tryd.func20, Tryd.ntmps20
  by_cases hout : b < 32 ∨ 126 < b
  · have HF := Lib.hid (show oneL b c = [92, 120, hexd (b / 16), hexd (b % 16)] by unfold oneL; rw [HN.out]; simp [hout])
    have x1 : ∀ W, (Instr.index 9 (.string hexB) (.int .u8 ((b : Int) / 16))).run Tryd.prog W = .ok (.int .u8 ((hexd (b / 16)).toNat : Int)) W := hex_index (b / 16) (by omega)
    have x2 : ∀ W, (Instr.index 9 (.string hexB) (.int .u8 ((b : Int) % 16))).run Tryd.prog W = .ok (.int .u8 ((hexd (b % 16)).toNat : Int)) W := hex_index (b % 16) (by omega)
    unfold hexB at x1 x2
    have cv := conv2 (hexd (b / 16)) (hexd (b % 16))
    clear HN
    rcases hout with hlo | hhi
    all_goals
      go_wp2
      refine wp_region_flow_tail (fun w' => w' = w.drew) 8 (by kernel_rfl) (by kernel_rfl) rfl ?_
      simp only [List.take_succ_cons, List.take_zero, List.drop_succ_cons, List.drop_zero]
      repeat
        refine wpFlow_step ?_ rfl (fun w' hS => ?_) ?_
        rotate_left
        · have hS' : w' = w.drew := hS
          subst hS'
          go_simp
          try go_bits
          exact gives_value (P := Tryd.prog) rfl
        simp only [Act.put, List.setIfInBounds_toArray, List.set_cons_zero, List.set_cons_succ]
      refine wpFlow_nil ?_
      intro w' hS
      obtain rfl := hS
      go_wp2
      go_ret
      exact ⟨by rw [HF.out]; rfl, (Below.refl _ _).drew.alloc (Nat.le_refl _) _⟩
  · have n1 : ¬ b < 32 := by omega
    have n2 : ¬ 126 < b := by omega
    have cb := conv1 b hb
    cases c
    · have HF := Lib.hid (show oneL b false = [b.toUInt8] by unfold oneL; rw [HN.out]; simp only; rw [if_neg hout]; rfl)
      clear HN hout
      go_wp2
      go_ret
      exact ⟨by rw [HF.out]; rfl, (Below.refl _ _).alloc (Nat.le_refl _) _⟩
    · have HF := Lib.hid (show oneL b true = [92, b.toUInt8] by unfold oneL; rw [HN.out]; simp only; rw [if_neg hout]; rfl)
      clear HN hout
      go_wp2
      go_ret
      exact ⟨by rw [HF.out]; rfl, (Below.refl _ _).alloc (Nat.le_refl _) _⟩
end Go.Proofs.YtkjnhjhkaaampaaDoor
