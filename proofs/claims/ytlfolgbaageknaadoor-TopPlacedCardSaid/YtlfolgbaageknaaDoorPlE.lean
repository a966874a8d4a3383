/-
  Layer 11, beside layer 12: what the library's functions do there; the table of words.
-/
import Derived.Test.YtlfolgbaageknaaDoorGwl
import Derived.Test.YtlfolgbaageknaaDoorShelf
import Derived.Test.YtlfolgbaageknaaDoorTkD
import Derived.Lib.LaidTab
namespace Go.Proofs.YtlfolgbaageknaaDoor
open Go Go.RowKit Go.Sort

/-- The first place of a newline, or -1. -/
def nlL (l : List UInt8) : Int := Lib.indexByte l 10
theorem nlIndex_does (l : List UInt8) : Does Tryd.prog 19 [st l, .int .u8 10] [] [] (Ret (.int .i64 (nlL l)) []) := indexByte_does l 10
theorem count_does (l : List UInt8) : Does Tryd.prog 17 [st l, st ([10] : List UInt8)] [] [] (Ret (.int .i64 ((l.count 10 : Nat) : Int)) []) :=
  Does.ofPure fun w => (Tryd.strings_Count_one ⟨l.toArray⟩ 10 w).mono fun _ _ ⟨h1, h2⟩ => by subst h2; exact ⟨h1, Below.refl _ _⟩
/-- The last place of a newline, or -1. -/
def lastL (l : List UInt8) : Int := Lib.lastIndexByte ⟨l.toArray⟩ 10
theorem lastByte_does (l : List UInt8) (h : l.length < 4611686018427387904) : Does Tryd.prog 18 [st l, .int .u8 10] [] [] (Ret (.int .i64 (lastL l)) []) :=
  Does.ofPure fun w => (Tryd.strings_LastIndexByte ⟨l.toArray⟩ 10 (by simpa [ByteArray.size] using h) w).mono fun _ _ ⟨h1, h2⟩ => by subst h2; exact ⟨h1, Below.refl _ _⟩
def powCells : List Value := [Value.int .u64 1, Value.int .u64 10, Value.int .u64 100, Value.int .u64 1000, Value.int .u64 10000, Value.int .u64 100000, Value.int .u64 1000000, Value.int .u64 10000000, Value.int .u64 100000000, Value.int .u64 1000000000, Value.int .u64 10000000000, Value.int .u64 100000000000, Value.int .u64 1000000000000, Value.int .u64 10000000000000, Value.int .u64 100000000000000, Value.int .u64 1000000000000000, Value.int .u64 10000000000000000, Value.int .u64 100000000000000000, Value.int .u64 1000000000000000000, Value.int .u64 10000000000000000000]
theorem pow_tab : (Lib.pow10Tab.map fun z => Value.int .u64 z) = powCells := by rfl
theorem pow_global : Tryd.prog.globalNamed "internal/strconv.uint64pow10" = some 1 := by kernel_rfl
theorem grow_below (w : World) (k : Nat) (os : Array Obj) : Below w.heap.size w (grow (w.drewN k) os) := by
  refine ⟨rfl, rfl, rfl, ?_, fun j hj => ?_⟩
  · show w.heap.size ≤ (w.heap ++ os).size
    rw [Array.size_append]; omega
  · show (w.heap ++ os)[j]? = _
    rw [Array.getElem?_append_left (by omega)]
theorem itoa_does (te : TypeId) (fre : Nat × Nat) (n : Int) (h : I64 n) : Does Tryd.prog 9 [.int .i64 n] [(1, .cells powCells.toArray te fre)] [] (Ret (st (Lib.itoa n)) []) := by
  intro w M hO hn hl hR
  have hM : M = [] := hO
  subst hM
  have hb := (hR _ (List.mem_singleton.2 rfl)).1
  have htab : Lib.TabIs Tryd.prog w "internal/strconv.uint64pow10" .u64 Lib.pow10Tab := by
    unfold Lib.TabIs World.var?
    rw [pow_global, pow_tab]
    simp only [Option.bind_some, hb]
  refine (Tryd.strconv_Itoa n h.1 h.2 w htab).mono ?_
  rintro e w' ⟨rfl, k, os, rfl⟩
  exact ⟨[], .inl ⟨_, rfl, rfl⟩, (Hp.start 0 [] w (H := []) (M := []) rfl hn (fun k hk => by cases hk) hR).below (grow_below _ _ _)⟩
/-- The words of the numbers. -/
def callC (x : Int × List UInt8) : List Value := [.int .i64 x.1, st x.2]
def nameTab : List (Int × List UInt8) := [
  (0, [111, 107]),
  (1, [116, 111, 111, 32, 108, 111, 110, 103]),
  (2, [98, 97, 100, 32, 97, 114, 103, 117, 109, 101, 110, 116]),
  (3, [110, 111, 110, 101]),
  (4, [116, 111, 111, 32, 98, 105, 103]),
  (10, [110, 111, 32, 98, 121, 116, 101, 32, 99, 108, 97, 115, 115]),
  (20, [117, 110, 101, 120, 112, 101, 99, 116, 101, 100, 32, 98, 121, 116, 101]),
  (21, [117, 110, 99, 108, 111, 115, 101, 100, 32, 112, 97, 114, 101, 110, 116, 104, 101, 115, 105, 115]),
  (22, [98, 97, 100, 32, 114, 101, 112, 101, 97, 116]),
  (23, [110, 101, 115, 116, 101, 100, 32, 116, 111, 111, 32, 100, 101, 101, 112]),
  (24, [116, 111, 111, 32, 108, 97, 114, 103, 101]),
  (30, [110, 111, 32, 115, 101, 116, 32, 115, 105, 103, 110, 32, 104, 101, 114, 101]),
  (40, [111, 117, 116, 32, 111, 102, 32, 115, 116, 97, 116, 101, 115]),
  (50, [110, 111, 32, 116, 111, 107, 101, 110]),
  (51, [117, 110, 99, 108, 111, 115, 101, 100, 32, 116, 101, 120, 116]),
  (52, [117, 110, 99, 108, 111, 115, 101, 100, 32, 114, 101, 103, 101, 120]),
  (60, [117, 110, 101, 120, 112, 101, 99, 116, 101, 100, 32, 116, 111, 107, 101, 110]),
  (70, [117, 110, 107, 110, 111, 119, 110, 32, 110, 97, 109, 101]),
  (71, [110, 97, 109, 101, 32, 98, 111, 117, 110, 100, 32, 116, 119, 105, 99, 101]),
  (72, [119, 114, 111, 110, 103, 32, 107, 105, 110, 100]),
  (80, [100, 101, 102, 97, 117, 108, 116, 32, 111, 117, 116, 115, 105, 100, 101, 32, 105, 116, 115, 32, 116, 121, 112, 101]),
  (81, [97, 109, 98, 105, 103, 117, 111, 117, 115, 32, 115, 111, 117, 114, 99, 101, 32, 99, 111, 110, 99, 97, 116, 101, 110, 97, 116, 105, 111, 110]),
  (82, [97, 109, 98, 105, 103, 117, 111, 117, 115, 32, 118, 105, 101, 119, 32, 99, 111, 110, 99, 97, 116, 101, 110, 97, 116, 105, 111, 110]),
  (83, [97, 109, 98, 105, 103, 117, 111, 117, 115, 32, 115, 111, 117, 114, 99, 101, 32, 105, 116, 101, 114, 97, 116, 105, 111, 110]),
  (84, [97, 109, 98, 105, 103, 117, 111, 117, 115, 32, 118, 105, 101, 119, 32, 105, 116, 101, 114, 97, 116, 105, 111, 110]),
  (85, [111, 118, 101, 114, 108, 97, 112, 112, 105, 110, 103, 32, 115, 111, 117, 114, 99, 101, 115]),
  (86, [111, 118, 101, 114, 108, 97, 112, 112, 105, 110, 103, 32, 118, 105, 101, 119, 115]),
  (87, [109, 105, 100, 100, 108, 101, 32, 116, 121, 112, 101, 115, 32, 100, 105, 102, 102, 101, 114]),
  (88, [113, 117, 111, 116, 105, 101, 110, 116, 32, 105, 110, 32, 116, 104, 101, 32, 109, 105, 100, 100, 108, 101]),
  (89, [99, 97, 110, 111, 110, 105, 122, 101, 114, 32, 111, 117, 116, 32, 111, 102, 32, 112, 108, 97, 99, 101]),
  (90, [99, 97, 112, 105, 116, 97, 108, 32, 108, 101, 116, 116, 101, 114]),
  (100, [110, 111, 32, 115, 111, 117, 114, 99, 101]),
  (101, [110, 111, 32, 118, 105, 101, 119]),
  (110, [98, 97, 100, 32, 108, 105, 110, 101]),
  (111, [98, 97, 100, 32, 111, 112, 101, 114, 97, 110, 100]),
  (112, [101, 109, 112, 116, 121, 32, 115, 116, 97, 99, 107]),
  (113, [110, 111, 32, 99, 117, 116]),
  (114, [111, 117, 116, 32, 111, 102, 32, 115, 116, 101, 112, 115]),
  (115, [116, 111, 111, 32, 109, 97, 110, 121, 32, 99, 97, 108, 108, 115]),
  (120, [101, 110, 100, 101, 100]),
  (130, [98, 97, 100, 32, 101, 100, 105, 116]),
  (140, [117, 115, 97, 103, 101])]
def noTab : List (Int × List UInt8) := List.replicate 42 (0, [])
def pnameL (c : Int) : List UInt8 := match nameTab.find? (fun x => x.1 == c) with
  | some x => x.2
  | none => [101, 114, 114, 111, 114, 32] ++ Lib.itoa c
section
variable {P : Program} {C : Cx} {L : Sl} {H : List HA} {x y : Operand} {t e' ty : TypeId} {d : Option Tmp} {p : String} {e : Array Edge} {g : Option (Nat × Bool)} {k : IntKind}
theorem OV.indexTab {l : List (Int × List UInt8)} {j : Int} {n : Nat} (hx : ev L x = some (.agg (l.flatMap callC).toArray)) (hy : ev L y = some (.int k j)) (ht : arrB P t e' n 2 = true) (hr : RowT P e' 2) (hb : l.length = n ∧ 0 ≤ j ∧ j < n) : OV P C L H ⟨d, .index t x y, ty, p, e, g⟩ (.agg [Value.int .i64 (l.getD j.toNat (0, [])).1, st (l.getD j.toNat (0, [])).2].toArray) := by
  have hlt : j.toNat < l.length := by omega
  have hc2 : ∀ x, (callC x).length = 2 := fun _ => rfl
  have hd : ((l.flatMap callC).drop (j.toNat * 2)).take 2 = callC (l.getD j.toNat (0, [])) := by
    have hi : Inhabited (Int × List UInt8) := ⟨(0, [])⟩
    rw [flat_drop hc2, List.drop_eq_getElem_cons hlt, List.flatMap_cons, List.take_left' (hc2 _), List.getD_eq_getElem?_getD, List.getElem?_eq_getElem hlt]; rfl
  exact OV.indexM hx hy ht ⟨hb.2.1, hb.2.2⟩ hr hd
theorem compl64 (n : Nat) (h : n < 2 ^ 64) : (2 ^ 64 - 1) ^^^ n = 2 ^ 64 - 1 - n := by
  have h1 : (BitVec.allOnes 64 ^^^ BitVec.ofNat 64 n).toNat = (~~~ BitVec.ofNat 64 n).toNat := by rw [BitVec.allOnes_xor]
  rw [BitVec.toNat_xor, BitVec.toNat_not, BitVec.toNat_allOnes, BitVec.toNat_ofNat, Nat.mod_eq_of_lt h] at h1
  exact h1
theorem OV.compl {n : Int} (hx : ev L x = some (.int .u64 n)) (hb : 0 ≤ n ∧ n ≤ 18446744073709551615) : OV P C L H ⟨d, .unOp .xor t x, ty, p, e, g⟩ (.int .u64 (18446744073709551615 - n)) := fun a w hf _ => by
  have h1 : bits .xor .u64 18446744073709551615 n = 18446744073709551615 - n := by
    obtain ⟨m, rfl⟩ : ∃ m : Nat, n = m := ⟨n.toNat, by omega⟩
    have h2 := compl64 m (by omega)
    rw [show (18446744073709551615 : Int) = ((18446744073709551615 : Nat) : Int) from rfl, bits_xor_u64_nat _ _ (by omega) (by omega), show (18446744073709551615 : Nat) ^^^ m = 18446744073709551615 - m from h2]
    omega
  have h3 : (Op.unary .xor (.int .u64 n)).run P w = .ok (.int .u64 (18446744073709551615 - n)) w := by
    rw [← h1]
    show (Op.intBits .xor .u64 _ n).run P w = _
    rw [show (if IntKind.u64.signed = true then (-1 : Int) else IntKind.u64.max) = 18446744073709551615 from rfl, intBits_xor]
    rfl
  simp only [execOp, hf.ev hx, Sem.run_bind, h3, Result.andThen_ok, Sem.run_pure]
theorem OV.quoU {n m : Int} (hx : ev L x = some (.int .u64 n)) (hy : ev L y = some (.int .u64 m)) (hb : 0 ≤ n ∧ n ≤ 18446744073709551615 ∧ 0 < m) : OV P C L H ⟨d, .binOp .quo t x y e', ty, p, e, g⟩ (.int .u64 (n / m)) := fun a w hf _ => by
  have e2 : IntKind.u64.wrap (n.tdiv m) = n / m := IntWalk.u64_quo _ _ ⟨hb.1, hb.2.1, by omega⟩
  have hm : ¬ m = 0 := by omega
  simp [execOp, hf.ev hx, hf.ev hy, eqGuard, binOp, Op.intDiv, e2, hm]
end
end Go.Proofs.YtlfolgbaageknaaDoor
