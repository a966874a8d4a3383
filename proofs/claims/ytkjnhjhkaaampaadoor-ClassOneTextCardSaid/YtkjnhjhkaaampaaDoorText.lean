/-
  The text of a single byte: the contract of class.single.
-/
import Derived.Test.YtkjnhjhkaaampaaDoorCount
import Derived.Test.YtkjnhjhkaaampaaDoorShelf
namespace Go.Proofs.YtkjnhjhkaaampaaDoor
open Go Go.RowKit

def bs (l : List UInt8) : ByteArray := ⟨l.toArray⟩
theorem bs_append (a b : List UInt8) : bs a ++ bs b = bs (a ++ b) := ByteArray.mk_append_mk a b
theorem bs_size (l : List UInt8) : (bs l).size = l.length := by simp [bs, ByteArray.size]
theorem bs_toList (l : List UInt8) : (bs l).data.toList = l := by simp [bs]

def escCells : Array Value := #[.int .u8 110, .int .u8 10, .int .u8 114, .int .u8 13, .int .u8 116, .int .u8 9]
/-- The table of letters, as the program lays it. -/
def Esc (w : World) : Prop := ∃ t fr, w.heap[0]? = some (.cells escCells t fr)
theorem Esc.below {w w' : World} (h : Esc w) (hb : Below w.heap.size w w') : Esc w' := by
  obtain ⟨t, fr, h⟩ := h
  exact ⟨t, fr, blk hb h (lt_of_blk h)⟩
theorem Esc.alloc {w : World} (h : Esc w) (o : Obj) : Esc (w.alloc o) := h.below ((Below.refl _ _).alloc (Nat.le_refl _) _)

/-- A call that makes memory alone and hands back one value, wherever the table lies. -/
def PureE (f : FuncId) (args : Array Value) (v : Value) : Prop := ∀ w, Esc w → Calls Tryd.prog f args w fun e w' => e = .returned v ∧ Below w.heap.size w w'

def hexd (n : Nat) : UInt8 := if n < 10 then (48 + n).toUInt8 else (87 + n).toUInt8
def escOf (b : Nat) : Option UInt8 := if b = 10 then some 110 else if b = 13 then some 114 else if b = 9 then some 116 else none
def singleL (b : Nat) (bar : List UInt8) : List UInt8 :=
  match escOf b with
  | some c => [92, c]
  | none => if b < 32 ∨ 126 < b then [92, 120, hexd (b / 16), hexd (b % 16)] else if bar.contains b.toUInt8 then [92, b.toUInt8] else [b.toUInt8]

theorem escT : RowT Tryd.prog 61 escCells.size := ⟨by kernel_rfl, by kernel_rfl⟩
theorem pairT (a b : Value) : RowT Tryd.prog 60 (#[a, b] : Array Value).size := ⟨by kernel_rfl, by kernel_rfl⟩
theorem esc0 : ∀ w, (Instr.index 61 (.agg escCells) (.int .i64 0)).run Tryd.prog w = .ok (.agg #[.int .u8 110, .int .u8 10]) w := fun _ => by kernel_rfl
theorem esc1 : ∀ w, (Instr.index 61 (.agg escCells) (.int .i64 1)).run Tryd.prog w = .ok (.agg #[.int .u8 114, .int .u8 13]) w := fun _ => by kernel_rfl
theorem esc2 : ∀ w, (Instr.index 61 (.agg escCells) (.int .i64 2)).run Tryd.prog w = .ok (.agg #[.int .u8 116, .int .u8 9]) w := fun _ => by kernel_rfl

/-- 'string' of one byte in a block of its own. -/
theorem conv1 (n : Nat) (hn : n < 256) (W : World) (g : Nat) (h : W.cell? ⟨g, 0, none⟩ = some (.int .u8 (n : Int))) :
    (convert 62 9 (.slice (some ⟨g, 0, none⟩) 1 1)).run Tryd.prog W = .ok (.string ⟨#[n.toUInt8]⟩) W := by
  have := run_convert_bytes_back (P := Tryd.prog) W 62 9 5 ⟨g, 0, none⟩ 1 [n.toUInt8] Tryd.underlying62 Tryd.underlying5 Tryd.underlying9 (fun j hj => by
    have hj0 : j = 0 := by simpa using hj
    subst hj0
    rw [show (⟨g, 0, none⟩ : Addr).add 0 = ⟨g, 0, none⟩ from rfl, h]
    have : n.toUInt8.toNat = n := by simp; omega
    simp [this])
  exact this

theorem escOf_none {b : Nat} (h1 : b ≠ 10) (h2 : b ≠ 13) (h3 : b ≠ 9) : escOf b = none := by unfold escOf; rw [if_neg h1, if_neg h2, if_neg h3]

set_option maxRecDepth 100000 in
theorem single_esc (b : Nat) (hb : b = 10 ∨ b = 13 ∨ b = 9) (bar : ByteArray) : PureE 16 #[.int .u8 b, .string bar] (.string (bs (singleL b bar.data.toList))) := by
  intro w hE
  obtain ⟨te, fre, hE⟩ := hE
  have H := Lib.hid hE
  clear hE
  have h0 := esc0
  have h1 := esc1
  have h2 := esc2
  have c0 := conv1 110 (by omega)
  have c1 := conv1 114 (by omega)
  have c2 := conv1 116 (by omega)
  rcases hb with rfl | rfl | rfl
  · go_enter Tryd.func16, Tryd.ntmps16
    go_wp2_with (first | ((with_reducible refine wpList_get_row (d := 7) (x := .global 0) 0 _ H.out escT ?_ ?_); rfl) | fail)
    refine wp_loop_rounds 1 ?_
    rw [rounds_succ]
    go_wp2
    go_ret
    exact ⟨rfl, ((Below.refl _ _).alloc (Nat.le_refl _) _).alloc (by simp) _⟩
  · go_enter Tryd.func16, Tryd.ntmps16
    go_wp2_with (first | ((with_reducible refine wpList_get_row (d := 7) (x := .global 0) 0 _ H.out escT ?_ ?_); rfl) | fail)
    refine wp_loop_rounds 2 ?_
    rw [rounds_succ]
    go_wp2
    rw [rounds_succ]
    go_wp2
    go_ret
    exact ⟨rfl, (((Below.refl _ _).alloc (Nat.le_refl _) _).alloc (by simp) _).alloc (by simp; omega) _⟩
  · go_enter Tryd.func16, Tryd.ntmps16
    go_wp2_with (first | ((with_reducible refine wpList_get_row (d := 7) (x := .global 0) 0 _ H.out escT ?_ ?_); rfl) | fail)
    refine wp_loop_rounds 3 ?_
    rw [rounds_succ]
    go_wp2
    rw [rounds_succ]
    go_wp2
    rw [rounds_succ]
    go_wp2
    go_ret
    exact ⟨rfl, ((((Below.refl _ _).alloc (Nat.le_refl _) _).alloc (by simp) _).alloc (by simp; omega) _).alloc (by simp; omega) _⟩

def hexB : ByteArray := ⟨#[48, 49, 50, 51, 52, 53, 54, 55, 56, 57, 97, 98, 99, 100, 101, 102]⟩
theorem hex_at : ∀ n, n < 16 → (hexB.extract n (n + 1)).data.toList = [hexd n] := by decide +kernel
theorem hex_slice (n : Nat) (hn : n < 16) (x : Int) (hx : x = n) (W : World) :
    (Instr.slice 9 (.string hexB) (some (.int .u8 x)) (some (.int .u8 (x + 1))) none).run Tryd.prog W = .ok (.string ⟨#[hexd n]⟩) W := by
  subst hx
  have h := run_slice_string (P := Tryd.prog) W 9 hexB .u8 .u8 (n : Int) ((n : Int) + 1) Tryd.underlying9 (by omega) (by omega) (by show (n : Int) + 1 ≤ 16; omega)
  rw [h, show ((n : Int)).toNat = n from rfl, show ((n : Int) + 1).toNat = n + 1 from by omega]
  congr 2
  apply ByteArray.ext
  apply Array.toList_inj.1
  rw [hex_at n hn]
theorem indexByte_nonneg (l : List UInt8) (c : UInt8) : (0 ≤ Lib.indexByte l c) ↔ l.contains c = true := by
  induction l with
  | nil => simp [Lib.indexByte]
  | cons b l ih =>
    have hge := Lib.indexByte_ge l c
    rw [List.contains_cons]
    simp only [Lib.indexByte]
    by_cases h : b = c
    · subst h; simp
    · have h1 : ¬ (b == c) = true := by simpa using h
      have h2 : (c == b) = false := by simpa using fun e : c = b => h e.symm
      rw [if_neg h1, h2, Bool.false_or, ← ih]
      by_cases h3 : Lib.indexByte l c = -1
      · simp [h3]
      · have h4 : ¬ (Lib.indexByte l c == -1) = true := by simpa using h3
        rw [if_neg h4]
        omega
theorem three_allocs {w : World} (x y z : Obj) : Below w.heap.size w (((w.alloc x).alloc y).alloc z) := (((Below.refl _ _).alloc (Nat.le_refl _) _).alloc (by simp) _).alloc (by simp; omega) _

set_option maxRecDepth 100000 in
theorem single_plain (b : Nat) (hb : b < 256) (e1 : b ≠ 10) (e2 : b ≠ 13) (e3 : b ≠ 9) (bar : ByteArray) : PureE 16 #[.int .u8 b, .string bar] (.string (bs (singleL b bar.data.toList))) := by
  intro w hE
  obtain ⟨te, fre, hE⟩ := hE
  have H := Lib.hid hE
  clear hE
  have h0 := esc0
  have h1 := esc1
  have h2 := esc2
  have d1 : ((10 : Int) == (b : Int)) = false := by simp; omega
  have d2 : ((13 : Int) == (b : Int)) = false := by simp; omega
  have d3 : ((9 : Int) == (b : Int)) = false := by simp; omega
  have HN := Lib.hid (escOf_none e1 e2 e3)
  clear e1 e2 e3
  go_enter Tryd.func16, Tryd.ntmps16
  go_wp2_with (first | ((with_reducible refine wpList_get_row (d := 7) (x := .global 0) 0 _ H.out escT ?_ ?_); rfl) | fail)
  refine wp_loop_rounds 4 ?_
  rw [rounds_succ]
  go_wp2
  rw [rounds_succ]
  go_wp2
  rw [rounds_succ]
  go_wp2
  rw [rounds_succ]
  have hbel := three_allocs (w := w) (.cells #[.int .u8 110, .int .u8 10] 60) (.cells #[.int .u8 114, .int .u8 13] 60) (.cells #[.int .u8 116, .int .u8 9] 60)
  by_cases hout : b < 32 ∨ 126 < b
  · have hfin : singleL b bar.data.toList = [92, 120, hexd (b / 16), hexd (b % 16)] := by unfold singleL; rw [HN.out]; simp [hout]
    have HF := Lib.hid hfin
    clear hfin
    have hs1 := hex_slice (b / 16) (by omega) ((b : Int) / 16) (by omega)
    have hs2 := hex_slice (b % 16) (by omega) ((b : Int) % 16) (by omega)
    unfold hexB at hs1 hs2
    clear d1 d2 d3
    rcases hout with hlo | hhi
    all_goals
      go_wp2
      generalize ((w.alloc (.cells #[.int .u8 110, .int .u8 10] 60)).alloc (.cells #[.int .u8 114, .int .u8 13] 60)).alloc (.cells #[.int .u8 116, .int .u8 9] 60) = W at hbel ⊢
      refine wp_region_flow (fun w' => w' = W.drew) (by kernel_rfl) (by kernel_rfl) rfl ?_
      repeat
        refine wpFlow_step ?_ rfl (fun w' hS => ?_) ?_
        rotate_left
        · have hS' : w' = W.drew := hS
          subst hS'
          go_simp
          try go_bits
          exact gives_value (P := Tryd.prog) rfl
        simp only [Act.put, List.setIfInBounds_toArray, List.set_cons_zero, List.set_cons_succ]
      refine wpFlow_nil ?_
      intro w' hS
      obtain rfl := hS
      go_wp2
      go_ret
      refine ⟨?_, hbel.drew⟩
      rw [HF.out]
      show Ending.returned (.string (ByteArray.mk [92, 120].toArray ++ ByteArray.mk [hexd (b / 16)].toArray ++ ByteArray.mk [hexd (b % 16)].toArray)) = _
      rw [ByteArray.mk_append_mk, ByteArray.mk_append_mk]
      rfl
  · have n1 : ¬ b < 32 := by omega
    have n2 : ¬ 126 < b := by omega
    have hu : ((b : Int)).toNat.toUInt8 = b.toUInt8 := by simp
    have hix := indexByte_nonneg bar.data.toList b.toUInt8
    have C := Lib.hid (Tryd.strings_IndexByte bar (b : Int))
    have cb := conv1 b hb
    cases hc : bar.data.toList.contains b.toUInt8
    · have HF := Lib.hid (show singleL b bar.data.toList = [b.toUInt8] by unfold singleL; rw [HN.out]; simp only; rw [if_neg hout, hc]; rfl)
      rw [hc] at hix
      have HX := Lib.hid hix
      clear hix hc hout
      go_wp2_with fail
      generalize ((w.alloc (.cells #[.int .u8 110, .int .u8 10] 60)).alloc (.cells #[.int .u8 114, .int .u8 13] 60)).alloc (.cells #[.int .u8 116, .int .u8 9] 60) = W at hbel ⊢
      refine (C.out W).mono ?_
      rw [hu]
      rintro e w' ⟨rfl, rfl⟩
      have hd := HX.out
      generalize Lib.indexByte bar.data.toList b.toUInt8 = ix at hd ⊢
      have hd' : ¬ (0 : Int) ≤ ix := fun h => by have := hd.1 h; cases this
      clear hd hu
      go_wp2
      go_ret
      exact ⟨by rw [HF.out]; rfl, hbel.alloc hbel.size _⟩
    · have HF := Lib.hid (show singleL b bar.data.toList = [92, b.toUInt8] by unfold singleL; rw [HN.out]; simp only; rw [if_neg hout, hc]; rfl)
      rw [hc] at hix
      have HX := Lib.hid hix
      clear hix hc hout
      go_wp2_with fail
      generalize ((w.alloc (.cells #[.int .u8 110, .int .u8 10] 60)).alloc (.cells #[.int .u8 114, .int .u8 13] 60)).alloc (.cells #[.int .u8 116, .int .u8 9] 60) = W at hbel ⊢
      refine (C.out W).mono ?_
      rw [hu]
      rintro e w' ⟨rfl, rfl⟩
      have hd := HX.out
      generalize Lib.indexByte bar.data.toList b.toUInt8 = ix at hd ⊢
      have hd' : (0 : Int) ≤ ix := hd.2 trivial
      clear hd hu
      go_wp2
      go_ret
      exact ⟨by rw [HF.out]; rfl, hbel.alloc hbel.size _⟩

theorem single_pure (b : Nat) (hb : b < 256) (bar : ByteArray) : PureE 16 #[.int .u8 b, .string bar] (.string (bs (singleL b bar.data.toList))) := by
  by_cases h : b = 10 ∨ b = 13 ∨ b = 9
  · exact single_esc b h bar
  · exact single_plain b hb (by omega) (by omega) (by omega) bar
end Go.Proofs.YtkjnhjhkaaampaaDoor
