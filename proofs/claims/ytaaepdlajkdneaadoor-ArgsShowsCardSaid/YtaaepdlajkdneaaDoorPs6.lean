/-
  Merged: ArU, Gwa, ArE, ArS.
-/
import Derived.Laws.RangeString
import Derived.Lib.LaidTab
import Derived.Test.YtaaepdlajkdneaaDoorPs5
namespace Go.Proofs.YtaaepdlajkdneaaDoor
open Go Go.ChangeShapes Go.WideShapes Go.ChangeAt Go.RowKit
section
variable {H : Type} {enc : TypeId × Value → H} {W : World} {base b0 : Nat} {sp : Nat → Bool} {hd : Bool} {r : Reach} {v : Value} {d : DataW H} {ps : List MemPlace}
set_option maxRecDepth 100000 in
theorem alw (n : Nat) (cs : List Value) (y : DataW H × List MemPlace) (h : DataW.trod enc Tryd.prog W base sp hd n 9 cs = some y) : ∃ x : Bs, cs = j3 x ∧ y.1 = .lit (.string x) := by
 obtain ⟨s, e, rfl, _⟩ := DataW.trod_string Tryd.underlying9 h
 exact ⟨s.data.toList, e, rfl⟩
set_option maxRecDepth 100000 in
theorem ai8 (hval : Value.okWide Tryd.prog W r b0 22 v) (h : DataW.Trod enc Tryd.prog W base sp hd 22 v d ps) :
  ∃ (R : List (Nat × Obj)) (l : List Bs), w8 v R l.length (l.flatMap j3) ∧ (∀ q ∈ R, W.heap[q.1]? = some q.2) ∧ (d = .nil ∧ l = [] ∨ ∃ es sp, d = .slice es sp ∧ es.length = l.length ∧ ∀ (i : Nat) (x : Bs), l[i]? = some x → ∃ y, es[i]? = some y ∧ y = .lit (.string x)) :=
 al1 Tryd.underlying22 (show Tryd.prog.cellsOf 9 = 1 by kernel_rfl) (by decide) i6 (G := fun x d => d = .lit (.string x)) (fun n cs y hy => alw n cs y hy) hval h
theorem aa8 {P : Program} {e : TypeId} : ∀ {l : List (DataW H)} {d : DataW H}, d ∈ l → ∀ n ∈ d.weights P e, n ∈ DataW.weightsAll P e l
 | x :: r, d, h, n, hn => by
  unfold DataW.weightsAll
  rcases List.mem_cons.1 h with rfl | h
  ·exact List.mem_append_left _ hn
  ·exact List.mem_append_right _ (aa8 h n hn)
set_option maxRecDepth 100000 in
theorem ahq {ts : List TypeId} {ds : List (DataW H)} (h : (DataW.weightsEach Tryd.prog ts ds).all (· ≤ reachBytes) = true) {j : Nat} {l : List Bs} (ht : ts[j]? = some 22) (hd : ds[j]? = some d)
  (hdd : d = .nil ∧ l = [] ∨ ∃ es sp, d = .slice es sp ∧ es.length = l.length ∧ ∀ (i : Nat) (x : Bs), l[i]? = some x → ∃ y, es[i]? = some y ∧ y = (.lit (.string x) : DataW H)) : l.length ≤ 8796093022207 ∧ ∀ s ∈ l, s.length ≤ 140737488351232 := by
 rcases hdd with ⟨rfl, rfl⟩ | ⟨es, sp, rfl, hlen, hel⟩
 ·exact ⟨by simp, fun s hs => by cases hs⟩
 ·have hw : DataW.weights (H := H) Tryd.prog 22 (.slice es sp) = (es.length + sp.length) * Tryd.prog.bytesOf 9 :: (DataW.weightsAll Tryd.prog 9 es ++ DataW.weightsAll Tryd.prog 9 sp) := by
   simp [DataW.weights, Tryd.underlying22]
  have hm := DataW.weights_mem_each (P := Tryd.prog) ht hd
  rw [hw, show Tryd.prog.bytesOf 9 = 16 by kernel_rfl] at hm
  have hk := fun n hn => of_decide_eq_true (List.all_eq_true.1 h n (hm n hn))
  have h1 := hk _ (List.mem_cons_self ..)
  unfold reachBytes at h1
  refine ⟨by omega, fun s hs => ?_⟩
  obtain ⟨i, hi⟩ := List.mem_iff_getElem?.1 hs
  obtain ⟨y, hy, rfl⟩ := hel i s hi
  have h2 := hk s.length (List.mem_cons_of_mem _ (List.mem_append_left _ (aa8 (List.mem_of_getElem? hy) _ (by simp [DataW.weights]))))
  unfold reachBytes at h2
  omega
end
end Go.Proofs.YtaaepdlajkdneaaDoor
namespace Go.Proofs.YtaaepdlajkdneaaDoor
open Go Go.RowKit
variable {P : Program} {ops : Array Oper} {Q : Exit → Act → World → Prop} {C : Cx} {L : Sl} {H : List HA} {rest : List Oper} {w : World}
theorem MV.rangeS {t ty : TypeId} {d : Option Tmp} {p : String} {e : Array Edge} {g : Option (Nat × Bool)} {x : Operand} {l : List UInt8} (hx : ev L x = some (st l)) (ht : af5 P t = true) :
  MV P C L H ⟨d, .range t x, ty, p, e, g⟩ (.stringIter ⟨l.toArray⟩ (0 : Int).toNat) (fun b => .pointer (some ⟨b, 0, none⟩)) := fun a w hf _ => by
 simp only [execOp, hf.ev hx, Sem.run_bind, run_range_string w t _ (x5 ht), Result.andThen_ok, Sem.run_pure]
 rfl
theorem ac9 (l : List UInt8) : (⟨l.toArray⟩ : ByteArray).size = l.length := by simp [ByteArray.size]
theorem ag8 {l : List UInt8} {k : Nat} (h : k < (⟨l.toArray⟩ : ByteArray).size) : (⟨l.toArray⟩ : ByteArray)[k]'h = l.getD k 0 := by
 have hk : k < l.length := by rw [ac9] at h; exact h
 rw [List.getD_eq_getElem?_getD, List.getElem?_eq_getElem hk]
 show (⟨l.toArray⟩ : ByteArray).data[k] = _
 simp
theorem agr {b k : Nat} {s : ByteArray} (ty : TypeId) (hb : w.heap[b]? = some (.stringIter s k)) (h : k < s.size) (ha : (s[k]'h).toNat < 128) :
  (Instr.next (.pointer (some ⟨b, 0, none⟩)) true ty).run P w = .ok (.tuple #[.bool true, .int .i64 k, .int .i32 (s[k]'h).toNat]) { w with heap := w.heap.setIfInBounds b (.stringIter s (k + 1)) } := by
 simp only [Instr.next, getObj, setObj, Sem.run_bind, Sem.run, hb, Result.andThen, h, if_true, decode_ascii s k h ha]
 simp [goInt]
theorem adq {b k : Nat} {s : ByteArray} (ty : TypeId) (hb : w.heap[b]? = some (.stringIter s k)) (h : ¬ k < s.size) :
  (Instr.next (.pointer (some ⟨b, 0, none⟩)) true ty).run P w = .ok (.tuple #[.bool false]) w := by
 simp [Instr.next, getObj, Sem.run, hb, h]
theorem WL.nextT {d : Nat} {ty : TypeId} {p : String} {e : Array Edge} {g : Option (Nat × Bool)} {x : Operand} {b : Nat} {l : List UInt8} {k : Int} (i : Nat) (hx : ev L x = some (.pointer (some ⟨b, 0, none⟩))) (hi : H[i]? = some (.blk b (.stringIter ⟨l.toArray⟩ k.toNat)))
  (ha : 0 ≤ k ∧ ∀ c ∈ l, c.toNat < 128) (hk : decide (k < (l.length : Int)) = true) (hw : m3 ops L ⟨some d, .next x true, ty, p, e, g⟩ = some true) (hn : Nat.blt d C.n = true)
  (h : WL P ops Q C ((d, .tuple #[.bool true, .int .i64 k, .int .i32 ((l.getD k.toNat 0).toNat : Int)]) :: L) (H.set i (.blk b (.stringIter ⟨l.toArray⟩ (k + 1).toNat))) rest) : WL P ops Q C L H (⟨some d, .next x true, ty, p, e, g⟩ :: rest) := by
 intro a w hf hp
 refine m6 (i8 hf hw) ?_
 have hb := hp.blk hi
 have hkl : k < (l.length : Int) := of_decide_eq_true hk
 have hlt : k.toNat < (⟨l.toArray⟩ : ByteArray).size := by rw [ac9]; omega
 have hc : (l.getD k.toNat 0) ∈ l := by
  rw [List.getD_eq_getElem?_getD, List.getElem?_eq_getElem (by omega)]; exact List.getElem_mem _
 have hrun := agr (P := P) (w := w) ty hb hlt (by rw [ag8 hlt]; exact ha.2 _ hc)
 rw [ag8 hlt] at hrun
 unfold Oper.wp
 simp only [execOp, hf.ev hx, Sem.run_bind, hrun, Result.andThen_ok, Sem.run_pure, Oper.upon]
 have hs := hp.set (o' := .stringIter ⟨l.toArray⟩ (k.toNat + 1)) (w' := { w with heap := w.heap.setIfInBounds b (.stringIter ⟨l.toArray⟩ (k.toNat + 1)) }) hi rfl rfl rfl (by simp)
  (fun q hq => (MapKept.heap_set hb).2 q hq) (MapKept.heap_set hb).1
 rw [show k.toNat + 1 = (k + 1).toNat by omega] at hs ⊢
 have e1 : ((k.toNat : Nat) : Int) = k := by omega
 rw [e1]
 exact h _ _ (hf.put hn _) hs
theorem WL.nextF {d : Nat} {ty : TypeId} {p : String} {e : Array Edge} {g : Option (Nat × Bool)} {x : Operand} {b : Nat} {l : List UInt8} {k : Int} (i : Nat) (hx : ev L x = some (.pointer (some ⟨b, 0, none⟩))) (hi : H[i]? = some (.blk b (.stringIter ⟨l.toArray⟩ k.toNat)))
  (h0 : 0 ≤ k ∧ ∀ c ∈ l, c.toNat < 128) (hk : decide (k < (l.length : Int)) = false) (hw : m3 ops L ⟨some d, .next x true, ty, p, e, g⟩ = some true) (hn : Nat.blt d C.n = true)
  (h : WL P ops Q C ((d, .tuple #[.bool false]) :: L) H rest) : WL P ops Q C L H (⟨some d, .next x true, ty, p, e, g⟩ :: rest) := by
 intro a w hf hp
 refine m6 (i8 hf hw) ?_
 have hb := hp.blk hi
 have hkl : ¬ k < (l.length : Int) := of_decide_eq_false hk
 have hrun := adq (P := P) (w := w) ty hb (by rw [ac9]; omega)
 unfold Oper.wp
 simp only [execOp, hf.ev hx, Sem.run_bind, hrun, Result.andThen_ok, Sem.run_pure, Oper.upon]
 exact h _ _ (hf.put hn _) hp
end Go.Proofs.YtaaepdlajkdneaaDoor
namespace Go.Proofs.YtaaepdlajkdneaaDoor
open Go Go.RowKit Go.Sort
def aau : List Value := [Value.int .u64 1, Value.int .u64 10, Value.int .u64 100, Value.int .u64 1000, Value.int .u64 10000, Value.int .u64 100000, Value.int .u64 1000000, Value.int .u64 10000000, Value.int .u64 100000000, Value.int .u64 1000000000, Value.int .u64 10000000000, Value.int .u64 100000000000, Value.int .u64 1000000000000, Value.int .u64 10000000000000, Value.int .u64 100000000000000, Value.int .u64 1000000000000000, Value.int .u64 10000000000000000, Value.int .u64 100000000000000000, Value.int .u64 1000000000000000000, Value.int .u64 10000000000000000000]
theorem aie : (Lib.pow10Tab.map fun z => Value.int .u64 z) = aau := by rfl
theorem acm : Tryd.prog.globalNamed "internal/strconv.uint64pow10" = some 2 := by kernel_rfl
theorem ah7 (w : World) (k : Nat) (os : Array Obj) : Below w.heap.size w (grow (w.drewN k) os) := by
 refine ⟨rfl, rfl, rfl, ?_, fun j hj => ?_⟩
 ·show w.heap.size ≤ (w.heap ++ os).size
  rw [Array.size_append]; omega
 ·show (w.heap ++ os)[j]? = _
  rw [Array.getElem?_append_left (by omega)]
theorem aax (te : TypeId) (fre : Nat × Nat) (n : Int) (h : I64 n) : j8 Tryd.prog 20 [.int .i64 n] [(2, .cells aau.toArray te fre)] [] (Ret (st (Lib.itoa n)) []) := by
 intro w M hO hn hl hR
 have hM : M = [] := hO
 subst hM
 have hb := (hR _ (List.mem_singleton.2 rfl)).1
 have htab : Lib.TabIs Tryd.prog w "internal/strconv.uint64pow10" .u64 Lib.pow10Tab := by
  unfold Lib.TabIs World.var?
  rw [acm, aie]
  simp only [Option.bind_some, hb]
 refine (Tryd.strconv_Itoa n h.1 h.2 w htab).mono ?_
 rintro e w' ⟨rfl, k, os, rfl⟩
 exact ⟨[], .inl ⟨_, rfl, rfl⟩, (Hp.start 0 [] w (H := []) (M := []) rfl hn (fun k hk => by cases hk) hR).below (ah7 _ _ _)⟩
theorem ae3 (s : Bs) (c : UInt8) : j8 Tryd.prog 22 [st s, st [c]] [] [] (Ret (.bool (decide (0 ≤ Lib.indexByte s c))) []) :=
 j8.ofPure fun w => (Tryd.strings_Contains_one ⟨s.toArray⟩ c w).mono fun _ _ ⟨h1, h2⟩ => by subst h2; exact ⟨h1, Below.refl _ _⟩
section
variable {P : Program} {C : Cx} {L : Sl} {H : List HA} {x y : Operand} {t e' ty : TypeId} {d : Option Tmp} {p : String} {e : Array Edge} {g : Option (Nat × Bool)} {k : IntKind}
theorem aly (n : Nat) (h : n < 2 ^ 64) : (2 ^ 64 - 1) ^^^ n = 2 ^ 64 - 1 - n := by
 have h1 : (BitVec.allOnes 64 ^^^ BitVec.ofNat 64 n).toNat = (~~~ BitVec.ofNat 64 n).toNat := by rw [BitVec.allOnes_xor]
 rw [BitVec.toNat_xor, BitVec.toNat_not, BitVec.toNat_allOnes, BitVec.toNat_ofNat, Nat.mod_eq_of_lt h] at h1
 exact h1
theorem OV.compl {n : Int} (hx : ev L x = some (.int .u64 n)) (hb : 0 ≤ n ∧ n ≤ 18446744073709551615) : OV P C L H ⟨d, .unOp .xor t x, ty, p, e, g⟩ (.int .u64 (18446744073709551615 - n)) := fun a w hf _ => by
 have h1 : bits .xor .u64 18446744073709551615 n = 18446744073709551615 - n := by
  obtain ⟨m, rfl⟩ : ∃ m : Nat, n = m := ⟨n.toNat, by omega⟩
  have h2 := aly m (by omega)
  rw [show (18446744073709551615 : Int) = ((18446744073709551615 : Nat) : Int) from rfl, bits_xor_u64_nat _ _ (by omega) (by omega), show (18446744073709551615 : Nat) ^^^ m = 18446744073709551615 - m from h2]
  omega
 have h3 : (Op.unary .xor (.int .u64 n)).run P w = .ok (.int .u64 (18446744073709551615 - n)) w := by
  rw [← h1]
  show (Op.intBits .xor .u64 _ n).run P w = _
  rw [show (if IntKind.u64.signed = true then (-1 : Int) else IntKind.u64.max) = 18446744073709551615 from rfl, intBits_xor]
  rfl
 simp only [execOp, hf.ev hx, Sem.run_bind, h3, Result.andThen_ok, Sem.run_pure]
theorem OV.quoU {n m : Int} (hx : ev L x = some (.int .u64 n)) (hy : ev L y = some (.int .u64 m)) (hb : 0 ≤ n ∧ n ≤ 18446744073709551615 ∧ 0 < m) : OV P C L H ⟨d, .binOp .quo t x y e', ty, p, e, g⟩ (.int .u64 (n / m)) := fun a w hf _ => by
 have e2 : IntKind.u64.wrap (n.tdiv m) = n / m := IntWalk.u64_quo _ _ ⟨hb.1, hb.2.1, by omega⟩
 have hm : ¬ m = 0 := by omega
 simp [execOp, hf.ev hx, hf.ev hy, eqGuard, binOp, Op.intDiv, e2, hm]
end
end Go.Proofs.YtaaepdlajkdneaaDoor
set_option maxRecDepth 100000
namespace Go.Proofs.YtaaepdlajkdneaaDoor
open Go Go.RowKit
theorem ahp : (Tryd.prog.underlying 57).isSome = true := by kernel_rfl
theorem aay : p9 Tryd.prog 20 = true := by kernel_rfl
theorem afa : p9 Tryd.prog 22 = true := by kernel_rfl
theorem aaz : p9 Tryd.prog 19 = true := by kernel_rfl
theorem ajk : p9 Tryd.prog 12 = true := by kernel_rfl
theorem ac7 : p9 Tryd.prog 13 = true := by kernel_rfl
def ad2 (n : Int) (K : (List UInt8) → Prop) : Prop :=
 ∃ (J0 : Int → (List UInt8) → Prop),
  (∀ (u : Int) (head : List UInt8), J0 u head →
   ∃ (Inv : Int → (List UInt8) → Prop) (mu : Int → (List UInt8) → Nat),
    Inv u [] ∧ ∀ (u_2' : Int) (out_1' : List UInt8), Inv u_2' out_1' →
     (0 ≤ u_2' ∧ 0 < (10 : Int)) ∧
     (0 ≤ IntKind.wrap .u8 (IntKind.wrap .u64 (48 + (u_2' % 10))) ∧ IntKind.wrap .u8 (IntKind.wrap .u64 (48 + (u_2' % 10))) < 256) ∧
     ([(IntKind.wrap .u8 (IntKind.wrap .u64 (48 + (u_2' % 10)))).toNat.toUInt8].length + out_1'.length ≤ 9223372036854775807) ∧
     (0 ≤ u_2' ∧ u_2' ≤ 18446744073709551615 ∧ 0 < (10 : Int)) ∧
     (if (decide (u_2' / 10 = 0)) = true then
      (head.length + ([(IntKind.wrap .u8 (IntKind.wrap .u64 (48 + (u_2' % 10)))).toNat.toUInt8] ++ out_1').length ≤ 9223372036854775807) ∧
      K (head ++ ([(IntKind.wrap .u8 (IntKind.wrap .u64 (48 + (u_2' % 10)))).toNat.toUInt8] ++ out_1'))
     else
      Inv (u_2' / 10) ([(IntKind.wrap .u8 (IntKind.wrap .u64 (48 + (u_2' % 10)))).toNat.toUInt8] ++ out_1') ∧ mu (u_2' / 10) ([(IntKind.wrap .u8 (IntKind.wrap .u64 (48 + (u_2' % 10)))).toNat.toUInt8] ++ out_1') < mu u_2' out_1')) ∧
  (if (decide (n < 0)) = true then
   (0 ≤ (IntKind.wrap .u64 n) ∧ (IntKind.wrap .u64 n) ≤ 18446744073709551615) ∧
   J0 (IntKind.wrap .u64 ((18446744073709551615 - (IntKind.wrap .u64 n)) + 1)) ([45] : List UInt8)
  else
   J0 (IntKind.wrap .u64 n) [])
theorem ajw  (n : Int) (K : (List UInt8) → Prop) (h : ad2 n K) :
  j8 Tryd.prog 19 [zI n] [] [] (fun o => (∃ (v : List UInt8), K v ∧ o = .ret (st v) []) ∨ (False)) := by
 unfold ad2 at h
 refine g9 (n := 28) (L0 := [(0, zI n)]) Tryd.func19 rfl rfl rfl rfl (fun w0 M Q hE => ?_)
 refine a7 (fun _ hK => ?_)
 refine a6 ?_
 refine wA ?_
 refine WL.nil ?_
 refine kg (hK [(0, zI n)] _ ?_)
 refine a7 (fun _ hK_1' => ?_)
 refine a6 ?_
 refine wm ?_
 refine wv (OV.conv rfl ajt Tryd.underlying57) ?_
 refine wA ?_
 refine WL.nil ?_
 refine kg (hK_1' [(0, zI n), (3, Value.int .u64 (IntKind.wrap .u64 n))] _ ?_)
 refine a7 (fun _ hK_2' => ?_)
 refine a6 ?_
 refine wA ?_
 refine WL.nil ?_
 refine kg (hK_2' [(0, zI n), (3, Value.int .u64 (IntKind.wrap .u64 n)), (4, st [])] _ ?_)
 obtain ⟨J0, hJ, h⟩ := h
 refine q6 (X := Int × (List UInt8)) (fun σ => J0 σ.1 σ.2) (fun σ => [(3, Value.int .u64 σ.1), (4, st σ.2)]) (fun σ => []) ?_ (fun K0_5' hK_5' => ?_)
 ·rintro ⟨u, head⟩ hj
  replace h := hJ u head hj
  show WC _ _ _ _ [(3, Value.int .u64 u), (4, st head)] []
  refine a7 (fun _ hK_6' => ?_)
  refine a6 ?_
  refine wA ?_
  refine WL.nil ?_
  refine kg (hK_6' [(3, Value.int .u64 u), (4, st head), (5, st [])] _ ?_)
  refine f9 ?_
  obtain ⟨Inv, mu, h0, hr⟩ := h
  refine x1 (S := Int × (List UInt8)) (fun σ => Inv σ.1 σ.2) (fun σ => mu σ.1 σ.2) (fun σ => [(3, Value.int .u64 σ.1), (4, st head), (5, st σ.2)]) (fun σ => []) (u, []) h0 ⟨rfl, rfl, rfl, trivial⟩ rfl ?_
  rintro ⟨u_2', out_1'⟩ hi K0_15' hK_15'
  have h := hr u_2' out_1' hi
  show WC _ _ _ _ [(3, Value.int .u64 u_2'), (4, st head), (5, st out_1')] []
  refine f9 ?_
  refine a7 (fun _ hK_16' => ?_)
  refine a6 ?_
  refine wm ?_
  obtain ⟨o_11', h⟩ := h
  refine wv (OV.rem rfl rfl o_11') ?_
  refine wv (OV.addW rfl rfl) ?_
  refine wv (OV.conv rfl ahp Tryd.underlying5) ?_
  obtain ⟨o_12', h⟩ := h
  refine WL.make (MV.buildSlice (cs := [zU (IntKind.wrap .u8 (IntKind.wrap .u64 (48 + (u_2' % 10))))]) rfl aas (by kernel_rfl)) rfl rfl rfl (fun b_2' => ?_)
  refine WL.asRow (f := adl) (ms := [(IntKind.wrap .u8 (IntKind.wrap .u64 (48 + (u_2' % 10)))).toNat.toUInt8]) 0 rfl (ajf o_12') rfl ac1 rfl ?_
  refine wv (OV.bytesRow (l := [(IntKind.wrap .u8 (IntKind.wrap .u64 (48 + (u_2' % 10)))).toNat.toUInt8]) 0 rfl rfl aas Tryd.underlying5 f8) ?_
  refine wm ?_
  obtain ⟨o_13', h⟩ := h
  refine wv (OV.cat rfl rfl o_13') ?_
  refine wA ?_
  refine WL.nil ?_
  refine kg (hK_16' [(3, Value.int .u64 u_2'), (4, st head), (5, st ([(IntKind.wrap .u8 (IntKind.wrap .u64 (48 + (u_2' % 10)))).toNat.toUInt8] ++ out_1'))] _ ?_)
  refine a7 (fun _ hK_17' => ?_)
  refine a6 ?_
  refine wm ?_
  obtain ⟨o_14', h⟩ := h
  refine wv (OV.quoU rfl rfl o_14') ?_
  refine wA ?_
  refine WL.nil ?_
  refine kg (hK_17' [(3, Value.int .u64 (u_2' / 10)), (4, st head), (5, st ([(IntKind.wrap .u8 (IntKind.wrap .u64 (48 + (u_2' % 10)))).toNat.toUInt8] ++ out_1'))] _ ?_)
  refine a7 (fun _ hK_18' => ?_)
  refine a6 ?_
  refine wm ?_
  refine wv (OV.eql rfl rfl) ?_
  refine WL.nil ?_
  refine kg (hK_18' [(3, Value.int .u64 (u_2' / 10)), (4, st head), (5, st ([(IntKind.wrap .u8 (IntKind.wrap .u64 (48 + (u_2' % 10)))).toNat.toUInt8] ++ out_1')), (24, zB (decide (u_2' / 10 = 0)))] _ ?_)
  refine b9 (b := decide (u_2' / 10 = 0)) rfl (fun hb => ?_) (fun hb => ?_)
  ·replace h := j6 h hb
   refine a7 (fun _ hK_19' => ?_)
   refine a6 ?_
   refine wm ?_
   refine wm ?_
   obtain ⟨o_15', h⟩ := h
   refine wv (OV.cat rfl rfl o_15') ?_
   refine wA ?_
   refine WL.nil ?_
   refine kg (hK_19' [(2, st (head ++ ([(IntKind.wrap .u8 (IntKind.wrap .u64 (48 + (u_2' % 10)))).toNat.toUInt8] ++ out_1')))] _ ?_)
   refine g7 ?_
   exact hE.ret [] rfl rfl (.inl ⟨_, h, rfl⟩) (l7.of1 rfl (RV.tmp rfl))
  ·replace h := j5 h hb
   refine b8 ?_
   exact kh (hK_15' (u_2' / 10, [(IntKind.wrap .u8 (IntKind.wrap .u64 (48 + (u_2' % 10)))).toNat.toUInt8] ++ out_1') h.1 h.2) []
 ·skip
  refine a7 (fun _ hK_20' => ?_)
  refine a6 ?_
  refine wm ?_
  refine wv (OV.lss rfl rfl) ?_
  refine WL.nil ?_
  refine kg (hK_20' [(3, Value.int .u64 (IntKind.wrap .u64 n)), (4, st []), (9, zB (decide (n < 0)))] _ ?_)
  refine b9 (b := decide (n < 0)) rfl (fun hb => ?_) (fun hb => ?_)
  ·replace h := j6 h hb
   refine a7 (fun _ hK_21' => ?_)
   refine a6 ?_
   refine wm ?_
   obtain ⟨o_16', h⟩ := h
   refine wv (OV.compl rfl o_16') ?_
   refine wv (OV.addW rfl rfl) ?_
   refine wA ?_
   refine WL.nil ?_
   refine kg (hK_21' [(3, Value.int .u64 (IntKind.wrap .u64 ((18446744073709551615 - (IntKind.wrap .u64 n)) + 1)))] _ ?_)
   refine a6 ?_
   refine wA ?_
   refine WL.nil ?_
   exact kh (hK_5' (IntKind.wrap .u64 ((18446744073709551615 - (IntKind.wrap .u64 n)) + 1), ([45] : List UInt8)) h) []
  ·replace h := j5 h hb
   refine b8 ?_
   exact kh (hK_5' (IntKind.wrap .u64 n, []) h) []
theorem ack : ∀ (k u : Nat), u < 10 ^ (k + 1) → (Lib.decDigits u).length ≤ k + 1
 | 0, u, h => by rw [Lib.decDigits, dif_pos (by simpa using h)]; simp
 | k + 1, u, h => by
  rw [Lib.decDigits]
  split
  ·simp
  ·rw [List.length_append]
   have := ack k (u / 10) (by rw [Nat.pow_succ] at h; omega)
   simp only [List.length_cons, List.length_nil]; omega
theorem aav {n : Int} (h : I64 n) : (Lib.itoa n).length ≤ 21 := by
 have h1 := h.1
 have h2 := h.2
 unfold Lib.itoa
 split
 ·have := ack 19 n.natAbs (by omega)
  simp only [List.length_cons]; omega
 ·have := ack 19 n.toNat (by omega)
  omega
theorem aek (n : Int) : IntKind.u64.wrap n = n % 18446744073709551616 := by
 unfold IntKind.wrap
 simp [IntKind.bits, IntKind.signed]
theorem ak8 (u : Int) : IntKind.wrap .u8 (IntKind.wrap .u64 (48 + u % 10)) = 48 + u % 10 := by
 rw [IntWalk.u64_in _ ⟨by omega, by omega⟩, IntWalk.u8_in _ ⟨by omega, by omega⟩]
theorem aad (n : Int) (h : I64 n) : j8 Tryd.prog 19 [.int .i64 n] [] [] (Ret (st (Lib.itoa n)) []) := by
 refine (ajw n (fun r => r = Lib.itoa n) ?_).weak (by rintro o (⟨v, rfl, rfl⟩ | h) <;> first | rfl | exact h.elim)
 have h1 := h.1
 have h2 := h.2
 have hil := aav h
 unfold ad2
 refine ⟨fun u head => 0 ≤ u ∧ u < 18446744073709551616 ∧ head ++ Lib.decDigits u.toNat = Lib.itoa n, fun u head ⟨a1, a2, a3⟩ => ?_, ?_⟩
 ·refine ⟨fun v out => 0 ≤ v ∧ v < 18446744073709551616 ∧ head ++ (Lib.decDigits v.toNat ++ out) = Lib.itoa n, fun v _ => v.toNat, ⟨a1, a2, by simpa using a3⟩, fun v out ⟨b1, b2, b3⟩ => ?_⟩
  have hlen := congrArg List.length b3
  rw [List.length_append, List.length_append] at hlen
  rw [ak8]
  have hd : ([(48 + v % 10).toNat.toUInt8] : List UInt8) = [UInt8.ofNat (48 + v.toNat % 10)] := by
   rw [show (48 + v % 10).toNat = 48 + v.toNat % 10 by omega]
  rw [hd]
  refine ⟨⟨b1, by omega⟩, ⟨by omega, by omega⟩, by simp only [List.length_cons, List.length_nil]; omega, ⟨b1, by omega, by omega⟩, ?_⟩
  by_cases hz : v / 10 = 0
  ·rw [if_pos (by simpa using hz)]
   have hs : Lib.decDigits v.toNat = [UInt8.ofNat (48 + v.toNat % 10)] := by
    rw [Lib.decDigits, dif_pos (by omega), Nat.mod_eq_of_lt (by omega)]
   rw [hs] at b3
   refine ⟨?_, b3⟩
   have := congrArg List.length b3
   rw [List.length_append] at this
   omega
  ·rw [if_neg (by simpa using hz)]
   have hs : Lib.decDigits v.toNat = Lib.decDigits (v / 10).toNat ++ [UInt8.ofNat (48 + v.toNat % 10)] := by
    rw [Lib.decDigits, dif_neg (by omega), show (v / 10).toNat = v.toNat / 10 by omega]
   rw [hs, List.append_assoc] at b3
   exact ⟨⟨by omega, by omega, b3⟩, by show (v / 10).toNat < v.toNat; omega⟩
 ·by_cases hn : n < 0
  ·rw [if_pos (by simpa using hn), aek n, aek]
   refine ⟨⟨by omega, by omega⟩, by omega, by omega, ?_⟩
   unfold Lib.itoa
   rw [if_pos hn, show ((18446744073709551615 - n % 18446744073709551616 + 1) % 18446744073709551616).toNat = n.natAbs by omega]; rfl
  ·rw [if_neg (by simpa using hn), aek]
   refine ⟨by omega, by omega, ?_⟩
   unfold Lib.itoa
   rw [if_neg hn, show (n % 18446744073709551616).toNat = n.toNat by omega]; rfl
def afx (c_0 : List UInt8) (c_1 : List UInt8) (c_2 : List UInt8) (c_3 : List UInt8) (c_4 : List UInt8) (c_5 : Int) (c_6 : Int) (c_7 : Int) (c_8 : Int) (c_9 : Int) (c_10 : List UInt8) (K : (List (List UInt8)) → Prop) : Prop :=
 (I64 c_5) ∧
 ∃ (J0 : (List (List UInt8)) → Prop),
  (∀ (l : List (List UInt8)), J0 l →
   ∃ (J0_1' : (List (List UInt8)) → Prop),
    (∀ (l_1' : List (List UInt8)), J0_1' l_1' →
     ∃ (J0_2' : (List (List UInt8)) → Prop),
      (∀ (l_2' : List (List UInt8)), J0_2' l_2' →
       (((l_2'.length + 1) + (l_2'.length + 1) / 4 + 192) * 16 ≤ 281474976710656 ∧ l_2'.length + 1 ≤ 9223372036854775807) ∧
       ∃ (Inv : Int → (List (List UInt8)) → Prop) (mu : Int → (List (List UInt8)) → Nat),
        Inv 0 (l_2' ++ [([45, 45] : List UInt8)]) ∧ ∀ (it_1_1' : Int) (l_4' : List (List UInt8)), Inv it_1_1' l_4' →
         (0 ≤ it_1_1' ∧ ∀ c ∈ ((a8 c_0).2.1), c.toNat < 128) ∧
         (if (decide (it_1_1' < (((a8 c_0).2.1).length : Int))) = true then
          (if (decide (((((a8 c_0).2.1).getD it_1_1'.toNat 0).toNat : Int) = 108)) = true then
           (((l_4'.length + 1) + (l_4'.length + 1) / 4 + 192) * 16 ≤ 281474976710656 ∧ l_4'.length + 1 ≤ 9223372036854775807) ∧
           Inv (it_1_1' + 1) (l_4' ++ [c_1]) ∧ mu (it_1_1' + 1) (l_4' ++ [c_1]) < mu it_1_1' l_4'
          else
           (if (decide (((((a8 c_0).2.1).getD it_1_1'.toNat 0).toNat : Int) = 118)) = true then
            (((l_4'.length + 1) + (l_4'.length + 1) / 4 + 192) * 16 ≤ 281474976710656 ∧ l_4'.length + 1 ≤ 9223372036854775807) ∧
            Inv (it_1_1' + 1) (l_4' ++ [c_2]) ∧ mu (it_1_1' + 1) (l_4' ++ [c_2]) < mu it_1_1' l_4'
           else
            (if (decide (((((a8 c_0).2.1).getD it_1_1'.toNat 0).toNat : Int) = 115)) = true then
             (((l_4'.length + 1) + (l_4'.length + 1) / 4 + 192) * 16 ≤ 281474976710656 ∧ l_4'.length + 1 ≤ 9223372036854775807) ∧
             Inv (it_1_1' + 1) (l_4' ++ [c_3]) ∧ mu (it_1_1' + 1) (l_4' ++ [c_3]) < mu it_1_1' l_4'
            else
             (if (decide (((((a8 c_0).2.1).getD it_1_1'.toNat 0).toNat : Int) = 116)) = true then
              (((l_4'.length + 1) + (l_4'.length + 1) / 4 + 192) * 16 ≤ 281474976710656 ∧ l_4'.length + 1 ≤ 9223372036854775807) ∧
              Inv (it_1_1' + 1) (l_4' ++ [c_10]) ∧ mu (it_1_1' + 1) (l_4' ++ [c_10]) < mu it_1_1' l_4'
             else
              (if (decide (((((a8 c_0).2.1).getD it_1_1'.toNat 0).toNat : Int) = 97)) = true then
               (I64 c_8) ∧
               (((l_4'.length + 1) + (l_4'.length + 1) / 4 + 192) * 16 ≤ 281474976710656 ∧ l_4'.length + 1 ≤ 9223372036854775807) ∧
               Inv (it_1_1' + 1) (l_4' ++ [Lib.itoa c_8]) ∧ mu (it_1_1' + 1) (l_4' ++ [Lib.itoa c_8]) < mu it_1_1' l_4'
              else
               (if (decide (((((a8 c_0).2.1).getD it_1_1'.toNat 0).toNat : Int) = 100)) = true then
                (I64 c_9) ∧
                (((l_4'.length + 1) + (l_4'.length + 1) / 4 + 192) * 16 ≤ 281474976710656 ∧ l_4'.length + 1 ≤ 9223372036854775807) ∧
                Inv (it_1_1' + 1) (l_4' ++ [Lib.itoa c_9]) ∧ mu (it_1_1' + 1) (l_4' ++ [Lib.itoa c_9]) < mu it_1_1' l_4'
               else
                Inv (it_1_1' + 1) l_4' ∧ mu (it_1_1' + 1) l_4' < mu it_1_1' l_4'))))))
         else
          K l_4')) ∧
      (if (decide (0 ≤ Lib.indexByte ((a8 c_0).2.2) 99)) = true then
       (I64 c_7) ∧
       (((l_1'.length + 2) + (l_1'.length + 2) / 4 + 192) * 16 ≤ 281474976710656 ∧ l_1'.length + 2 ≤ 9223372036854775807) ∧
       J0_2' (l_1' ++ [([45, 99] : List UInt8), Lib.itoa c_7])
      else
       J0_2' l_1')) ∧
    (if (decide (0 ≤ Lib.indexByte ((a8 c_0).2.2) 110)) = true then
     (I64 c_6) ∧
     (((l.length + 2) + (l.length + 2) / 4 + 192) * 16 ≤ 281474976710656 ∧ l.length + 2 ≤ 9223372036854775807) ∧
     J0_1' (l ++ [([45, 110] : List UInt8), Lib.itoa c_6])
    else
     J0_1' l)) ∧
  (if (!decide (c_4 = [])) = true then
   ((([c_0, ([45, 98] : List UInt8), Lib.itoa c_5].length + 2) + ([c_0, ([45, 98] : List UInt8), Lib.itoa c_5].length + 2) / 4 + 192) * 16 ≤ 281474976710656 ∧ [c_0, ([45, 98] : List UInt8), Lib.itoa c_5].length + 2 ≤ 9223372036854775807) ∧
   J0 ([c_0, ([45, 98] : List UInt8), Lib.itoa c_5] ++ [([45, 111] : List UInt8), c_4])
  else
   J0 [c_0, ([45, 98] : List UInt8), Lib.itoa c_5])
theorem al8 (te : TypeId) (fre : Nat × Nat) (te2 : TypeId) (fre2 : Nat × Nat) (c_0 : List UInt8) (c_1 : List UInt8) (c_2 : List UInt8) (c_3 : List UInt8) (c_4 : List UInt8) (c_5 : Int) (c_6 : Int) (c_7 : Int) (c_8 : Int) (c_9 : Int) (c_10 : List UInt8) (K : (List (List UInt8)) → Prop) (h : afx c_0 c_1 c_2 c_3 c_4 c_5 c_6 c_7 c_8 c_9 c_10 K) :
  j8 Tryd.prog 13 [Value.agg [st c_0, st c_1, st c_2, st c_3, st c_4, zI c_5, zI c_6, zI c_7, zI c_8, zI c_9, st c_10].toArray] [(0, .cells [st ([99, 104, 101, 99, 107] : List UInt8), st ([108] : List UInt8), st ([98] : List UInt8), st ([99, 111, 100, 101] : List UInt8), st ([108] : List UInt8), st ([98] : List UInt8), st ([119, 111, 114, 100, 115] : List UInt8), st ([108] : List UInt8), st ([98, 110] : List UInt8), st ([103, 101, 116] : List UInt8), st ([108, 115] : List UInt8), st ([98, 111] : List UInt8), st ([99, 97, 110, 111, 110] : List UInt8), st ([108, 115] : List UInt8), st ([98, 111] : List UInt8), st ([119, 104, 101, 114, 101] : List UInt8), st ([108, 115] : List UInt8), st ([98] : List UInt8), st ([115, 116, 114, 101, 97, 109] : List UInt8), st ([108, 115] : List UInt8), st ([98, 99] : List UInt8), st ([99, 114, 101, 97, 116, 101] : List UInt8), st ([108, 118] : List UInt8), st ([98, 111] : List UInt8), st ([112, 117, 116] : List UInt8), st ([108, 118, 115] : List UInt8), st ([98, 111] : List UInt8), st ([101, 100, 105, 116] : List UInt8), st ([108, 115, 97, 100, 116] : List UInt8), st ([98, 111] : List UInt8)].toArray te fre), (2, .cells [Value.int .u64 1, Value.int .u64 10, Value.int .u64 100, Value.int .u64 1000, Value.int .u64 10000, Value.int .u64 100000, Value.int .u64 1000000, Value.int .u64 10000000, Value.int .u64 100000000, Value.int .u64 1000000000, Value.int .u64 10000000000, Value.int .u64 100000000000, Value.int .u64 1000000000000, Value.int .u64 10000000000000, Value.int .u64 100000000000000, Value.int .u64 1000000000000000, Value.int .u64 10000000000000000, Value.int .u64 100000000000000000, Value.int .u64 1000000000000000000, Value.int .u64 10000000000000000000].toArray te2 fre2)] [] (fun o => (∃ (w_30' : Value) (v : List (List UInt8)), K v ∧ o = .ret (w_30') [HA.row w_30' 9 1 v.length (v.flatMap j3)]) ∨ (False)) := by
 unfold afx at h
 refine g9 (n := 101) (L0 := [(0, Value.agg [st c_0, st c_1, st c_2, st c_3, st c_4, zI c_5, zI c_6, zI c_7, zI c_8, zI c_9, st c_10].toArray)]) Tryd.func13 rfl rfl rfl rfl (fun w0 M Q hE => ?_)
 refine a7 (fun _ hK => ?_)
 refine a6 ?_
 refine WL.make (MV.box (cs := [st c_0, st c_1, st c_2, st c_3, st c_4, zI c_5, zI c_6, zI c_7, zI c_8, zI c_9, st c_10]) rfl rfl) rfl rfl rfl (fun b => ?_)
 refine wA ?_
 refine WL.nilRow 9 1 j3 ?_
 refine WL.nil ?_
 refine kg (hK [(1, zP b)] _ ?_)
 refine a7 (fun _ hK_1' => ?_)
 refine w5 5 [] r5 (by kernel_rfl) rfl (fun T hT => ?_)
 refine fv (fun _ => OV.fieldAddr0 rfl x6) ?_
 refine fv (fun _ => OV.load rfl (At.own 1 rfl) rfl f7) ?_
 refine fv (fun _ => OV.fieldAddr0 rfl aai) ?_
 refine fv (fun _ => OV.load rfl (At.own 1 rfl) rfl g8) ?_
 obtain ⟨o, h⟩ := h
 refine FL.call aay (fun _ => rfl) (aax te2 fre2 c_5 o) ⟨.inr (List.mem_of_getElem? (i := 1) rfl), trivial⟩ rfl (fun _ => rfl) rfl ?_
 refine FL.weak (L' := fun γ => [(1, zP b), (9, st c_0), (12, st (Lib.itoa c_5))]) (fun γ => ⟨rfl, rfl, rfl, trivial⟩) (FL.nil (hT (fun γ => [(1, zP b), (9, st c_0), (12, st (Lib.itoa c_5))]) (fun γ => ?_)))
 refine WL.make (MV.buildSlice (cs := [st c_0, st ([45, 98] : List UInt8), st (Lib.itoa c_5)]) rfl f0 (by kernel_rfl)) rfl rfl rfl (fun b_1' => ?_)
 refine WL.asRow (f := j3) (ms := [c_0, ([45, 98] : List UInt8), Lib.itoa c_5]) 0 rfl rfl rfl i6 rfl ?_
 refine wA ?_
 refine WL.nil ?_
 refine kg (hK_1' [(1, zP b), (3, Value.slice (some ⟨b_1', 0, none⟩) 3 3)] _ ?_)
 obtain ⟨J0, hJ, h⟩ := h
 refine q6 (X := Value × (List (List UInt8))) (fun σ => J0 σ.2) (fun σ => [(1, zP b), (3, σ.1)]) (fun σ => [HA.row σ.1 9 1 σ.2.length (σ.2.flatMap j3), HA.blk b (.cells [st c_0, st c_1, st c_2, st c_3, st c_4, zI c_5, zI c_6, zI c_7, zI c_8, zI c_9, st c_10].toArray 25 (0, 0))]) ?_ (fun K0_3' hK_3' => ?_)
 ·rintro ⟨w_1', l⟩ hj
  replace h := hJ l hj
  show WC _ _ _ _ [(1, zP b), (3, w_1')] [HA.row w_1' 9 1 l.length (l.flatMap j3), HA.blk b (.cells [st c_0, st c_1, st c_2, st c_3, st c_4, zI c_5, zI c_6, zI c_7, zI c_8, zI c_9, st c_10].toArray 25 (0, 0))]
  refine a7 (fun _ hK_4' => ?_)
  refine a6 ?_
  refine wv (OV.fieldAddr0 rfl x6) ?_
  refine wv (OV.load rfl (At.own 1 rfl) rfl f7) ?_
  refine WL.call (A := []) ae6 rfl (ae2 te fre c_0) rfl ⟨.inr (List.mem_of_getElem? (i := 0) rfl), trivial⟩ rfl rfl ?_
  refine wm ?_
  refine wv (OV.extract 0 rfl rfl) ?_
  refine wv (OV.extract 1 rfl rfl) ?_
  refine WL.make (MV.alloc p8) rfl rfl rfl (fun b_3' => ?_)
  refine WL.storeW (vs := [st ((a8 c_0).1), st ((a8 c_0).2.1), st ((a8 c_0).2.2)]) 0 rfl rfl rfl rfl rfl p6 rfl rfl rfl ?_
  refine wA ?_
  refine WL.nil ?_
  refine kg (hK_4' [(1, zP b), (3, w_1'), (4, zP b_3')] _ ?_)
  obtain ⟨J0_1', hJ_1', h⟩ := h
  refine q6 (X := Value × (List (List UInt8))) (fun σ => J0_1' σ.2) (fun σ => [(1, zP b), (3, σ.1), (4, zP b_3')]) (fun σ => [HA.blk b_3' (.cells [st ((a8 c_0).1), st ((a8 c_0).2.1), st ((a8 c_0).2.2)].toArray 45 (0, 0)), HA.row σ.1 9 1 σ.2.length (σ.2.flatMap j3), HA.blk b (.cells [st c_0, st c_1, st c_2, st c_3, st c_4, zI c_5, zI c_6, zI c_7, zI c_8, zI c_9, st c_10].toArray 25 (0, 0))]) ?_ (fun K0_6' hK_6' => ?_)
  ·rintro ⟨w_3', l_1'⟩ hj
   replace h := hJ_1' l_1' hj
   show WC _ _ _ _ [(1, zP b), (3, w_3'), (4, zP b_3')] [HA.blk b_3' (.cells [st ((a8 c_0).1), st ((a8 c_0).2.1), st ((a8 c_0).2.2)].toArray 45 (0, 0)), HA.row w_3' 9 1 l_1'.length (l_1'.flatMap j3), HA.blk b (.cells [st c_0, st c_1, st c_2, st c_3, st c_4, zI c_5, zI c_6, zI c_7, zI c_8, zI c_9, st c_10].toArray 25 (0, 0))]
   obtain ⟨J0_2', hJ_2', h⟩ := h
   refine q6 (X := Value × (List (List UInt8))) (fun σ => J0_2' σ.2) (fun σ => [(1, zP b), (3, σ.1), (4, zP b_3')]) (fun σ => [HA.blk b_3' (.cells [st ((a8 c_0).1), st ((a8 c_0).2.1), st ((a8 c_0).2.2)].toArray 45 (0, 0)), HA.row σ.1 9 1 σ.2.length (σ.2.flatMap j3), HA.blk b (.cells [st c_0, st c_1, st c_2, st c_3, st c_4, zI c_5, zI c_6, zI c_7, zI c_8, zI c_9, st c_10].toArray 25 (0, 0))]) ?_ (fun K0_8' hK_8' => ?_)
   ·rintro ⟨w_5', l_2'⟩ hj
    replace h := hJ_2' l_2' hj
    show WC _ _ _ _ [(1, zP b), (3, w_5'), (4, zP b_3')] [HA.blk b_3' (.cells [st ((a8 c_0).1), st ((a8 c_0).2.1), st ((a8 c_0).2.2)].toArray 45 (0, 0)), HA.row w_5' 9 1 l_2'.length (l_2'.flatMap j3), HA.blk b (.cells [st c_0, st c_1, st c_2, st c_3, st c_4, zI c_5, zI c_6, zI c_7, zI c_8, zI c_9, st c_10].toArray 25 (0, 0))]
    refine a7 (fun _ hK_9' => ?_)
    refine a6 ?_
    refine wm ?_
    refine WL.make (MV.buildSlice (cs := [st ([45, 45] : List UInt8)]) rfl f0 (by kernel_rfl)) rfl rfl rfl (fun b_6' => ?_)
    obtain ⟨o_6', h⟩ := h
    refine WL.append (f := j3) (ms := [([45, 45] : List UInt8)]) 2 0 rfl rfl rfl rfl rfl rfl i6 (by decide) rfl f0 m9 rfl o_6' rfl rfl (fun w_6' => ?_)
    refine wA ?_
    refine WL.nil ?_
    refine kg (hK_9' [(1, zP b), (3, w_6'), (4, zP b_3')] _ ?_)
    refine a7 (fun _ hK_10' => ?_)
    refine a7 (fun _ hK_11' => ?_)
    refine a6 ?_
    refine wv (OV.fieldAddr0 rfl w3) ?_
    refine wv (OV.load rfl (At.own 1 rfl) rfl f7) ?_
    refine WL.make (MV.rangeS (l := (a8 c_0).2.1) rfl f8) rfl rfl rfl (fun b_7' => ?_)
    refine WL.nil ?_
    refine kg (hK_11' [(1, zP b), (3, w_6'), (51, zP b_7')] _ ?_)
    refine f9 ?_
    refine WC.pick (H' := [HA.blk b_7' (Obj.stringIter ⟨((a8 c_0).2.1).toArray⟩ (0 : Int).toNat), HA.row w_6' 9 1 (l_2' ++ [([45, 45] : List UInt8)]).length ((l_2' ++ [([45, 45] : List UInt8)]).flatMap j3), HA.blk b (.cells [st c_0, st c_1, st c_2, st c_3, st c_4, zI c_5, zI c_6, zI c_7, zI c_8, zI c_9, st c_10].toArray 25 (0, 0))]) [0, 3, 4] rfl rfl ?_
    obtain ⟨Inv, mu, h0, hr⟩ := h
    refine x1 (S := Int × Value × (List (List UInt8))) (fun σ => Inv σ.1 σ.2.2) (fun σ => mu σ.1 σ.2.2) (fun σ => [(1, zP b), (3, σ.2.1), (51, zP b_7')]) (fun σ => [HA.blk b_7' (Obj.stringIter ⟨((a8 c_0).2.1).toArray⟩ σ.1.toNat), HA.row σ.2.1 9 1 σ.2.2.length (σ.2.2.flatMap j3), HA.blk b (.cells [st c_0, st c_1, st c_2, st c_3, st c_4, zI c_5, zI c_6, zI c_7, zI c_8, zI c_9, st c_10].toArray 25 (0, 0))]) (0, w_6', l_2' ++ [([45, 45] : List UInt8)]) h0 ⟨rfl, rfl, rfl, trivial⟩ rfl ?_
    rintro ⟨it_1_1', w_20', l_4'⟩ hi K0_34' hK_34'
    have h := hr it_1_1' l_4' hi
    show WC _ _ _ _ [(1, zP b), (3, w_20'), (51, zP b_7')] [HA.blk b_7' (Obj.stringIter ⟨((a8 c_0).2.1).toArray⟩ it_1_1'.toNat), HA.row w_20' 9 1 l_4'.length (l_4'.flatMap j3), HA.blk b (.cells [st c_0, st c_1, st c_2, st c_3, st c_4, zI c_5, zI c_6, zI c_7, zI c_8, zI c_9, st c_10].toArray 25 (0, 0))]
    refine a7 (fun _ hK_35' => ?_)
    refine a6 ?_
    obtain ⟨o_25', h⟩ := h
    rcases Bool.eq_false_or_eq_true (decide (it_1_1' < (((a8 c_0).2.1).length : Int))) with hb | hb
    ·replace h := j6 h hb
     refine WL.nextT 0 rfl rfl o_25' hb rfl rfl ?_
     refine wv (OV.extract 0 rfl rfl) ?_
     refine WL.nil ?_
     refine kg (hK_35' [(1, zP b), (3, w_20'), (51, zP b_7'), (52, Value.tuple #[zB true, zI it_1_1', Value.int .i32 ((((a8 c_0).2.1).getD it_1_1'.toNat 0).toNat : Int)]), (53, zB true)] _ ?_)
     refine a7 (fun _ hK_36' => ?_)
     refine o7 rfl ?_
     refine b8 ?_
     refine kg (hK_36' [(1, zP b), (3, w_20'), (51, zP b_7'), (52, Value.tuple #[zB true, zI it_1_1', Value.int .i32 ((((a8 c_0).2.1).getD it_1_1'.toNat 0).toNat : Int)])] _ ?_)
     refine f9 ?_
     refine a7 (fun _ hK_37' => ?_)
     refine a6 ?_
     refine wv (OV.extract 2 rfl rfl) ?_
     refine wA ?_
     refine WL.nil ?_
     refine kg (hK_37' [(1, zP b), (3, w_20'), (7, Value.int .i32 ((((a8 c_0).2.1).getD it_1_1'.toNat 0).toNat : Int)), (51, zP b_7')] _ ?_)
     refine a7 (fun _ hK_38' => ?_)
     refine a6 ?_
     refine wm ?_
     refine WL.nil ?_
     refine kg (hK_38' [(1, zP b), (3, w_20'), (51, zP b_7'), (55, Value.int .i32 ((((a8 c_0).2.1).getD it_1_1'.toNat 0).toNat : Int))] _ ?_)
     refine f9 ?_
     refine a7 (fun _ hK_39' => ?_)
     refine a6 ?_
     refine wv (OV.eql rfl rfl) ?_
     refine wA ?_
     refine WL.nil ?_
     refine kg (hK_39' [(1, zP b), (3, w_20'), (51, zP b_7'), (55, Value.int .i32 ((((a8 c_0).2.1).getD it_1_1'.toNat 0).toNat : Int)), (56, zB (decide (((((a8 c_0).2.1).getD it_1_1'.toNat 0).toNat : Int) = 108)))] _ ?_)
     refine b9 (b := decide (((((a8 c_0).2.1).getD it_1_1'.toNat 0).toNat : Int) = 108)) rfl (fun hb => ?_) (fun hb => ?_)
     ·replace h := j6 h hb
      refine a6 ?_
      refine wm ?_
      refine wv (OV.fieldAddr0 rfl aca) ?_
      refine wv (OV.load rfl (At.own 2 rfl) rfl f7) ?_
      refine WL.make (MV.buildSlice (cs := [st c_1]) rfl f0 (by kernel_rfl)) rfl rfl rfl (fun b_20' => ?_)
      obtain ⟨o_26', h⟩ := h
      refine WL.append (f := j3) (ms := [c_1]) 2 0 rfl rfl rfl rfl rfl rfl i6 (by decide) rfl f0 m9 rfl o_26' rfl rfl (fun w_21' => ?_)
      refine wA ?_
      refine WL.nil ?_
      exact kh (hK_34' (it_1_1' + 1, w_21', l_4' ++ [c_1]) h.1 h.2) [1, 2, 3]
     ·replace h := j5 h hb
      refine a7 (fun _ hK_40' => ?_)
      refine a6 ?_
      refine wv (OV.eql rfl rfl) ?_
      refine wA ?_
      refine WL.nil ?_
      refine kg (hK_40' [(1, zP b), (3, w_20'), (51, zP b_7'), (55, Value.int .i32 ((((a8 c_0).2.1).getD it_1_1'.toNat 0).toNat : Int)), (63, zB (decide (((((a8 c_0).2.1).getD it_1_1'.toNat 0).toNat : Int) = 118)))] _ ?_)
      refine b9 (b := decide (((((a8 c_0).2.1).getD it_1_1'.toNat 0).toNat : Int) = 118)) rfl (fun hb => ?_) (fun hb => ?_)
      ·replace h := j6 h hb
       refine a6 ?_
       refine wm ?_
       refine wv (OV.fieldAddr0 rfl ab5) ?_
       refine wv (OV.load rfl (At.own 2 rfl) rfl f7) ?_
       refine WL.make (MV.buildSlice (cs := [st c_2]) rfl f0 (by kernel_rfl)) rfl rfl rfl (fun b_21' => ?_)
       obtain ⟨o_27', h⟩ := h
       refine WL.append (f := j3) (ms := [c_2]) 2 0 rfl rfl rfl rfl rfl rfl i6 (by decide) rfl f0 m9 rfl o_27' rfl rfl (fun w_22' => ?_)
       refine wA ?_
       refine WL.nil ?_
       exact kh (hK_34' (it_1_1' + 1, w_22', l_4' ++ [c_2]) h.1 h.2) [1, 2, 3]
      ·replace h := j5 h hb
       refine a7 (fun _ hK_41' => ?_)
       refine a6 ?_
       refine wv (OV.eql rfl rfl) ?_
       refine wA ?_
       refine WL.nil ?_
       refine kg (hK_41' [(1, zP b), (3, w_20'), (51, zP b_7'), (55, Value.int .i32 ((((a8 c_0).2.1).getD it_1_1'.toNat 0).toNat : Int)), (70, zB (decide (((((a8 c_0).2.1).getD it_1_1'.toNat 0).toNat : Int) = 115)))] _ ?_)
       refine b9 (b := decide (((((a8 c_0).2.1).getD it_1_1'.toNat 0).toNat : Int) = 115)) rfl (fun hb => ?_) (fun hb => ?_)
       ·replace h := j6 h hb
        refine a6 ?_
        refine wm ?_
        refine wv (OV.fieldAddr0 rfl ab9) ?_
        refine wv (OV.load rfl (At.own 2 rfl) rfl f7) ?_
        refine WL.make (MV.buildSlice (cs := [st c_3]) rfl f0 (by kernel_rfl)) rfl rfl rfl (fun b_22' => ?_)
        obtain ⟨o_28', h⟩ := h
        refine WL.append (f := j3) (ms := [c_3]) 2 0 rfl rfl rfl rfl rfl rfl i6 (by decide) rfl f0 m9 rfl o_28' rfl rfl (fun w_23' => ?_)
        refine wA ?_
        refine WL.nil ?_
        exact kh (hK_34' (it_1_1' + 1, w_23', l_4' ++ [c_3]) h.1 h.2) [1, 2, 3]
       ·replace h := j5 h hb
        refine a7 (fun _ hK_42' => ?_)
        refine a6 ?_
        refine wv (OV.eql rfl rfl) ?_
        refine wA ?_
        refine WL.nil ?_
        refine kg (hK_42' [(1, zP b), (3, w_20'), (51, zP b_7'), (55, Value.int .i32 ((((a8 c_0).2.1).getD it_1_1'.toNat 0).toNat : Int)), (77, zB (decide (((((a8 c_0).2.1).getD it_1_1'.toNat 0).toNat : Int) = 116)))] _ ?_)
        refine b9 (b := decide (((((a8 c_0).2.1).getD it_1_1'.toNat 0).toNat : Int) = 116)) rfl (fun hb => ?_) (fun hb => ?_)
        ·replace h := j6 h hb
         refine a6 ?_
         refine wm ?_
         refine wv (OV.fieldAddr0 rfl abi) ?_
         refine wv (OV.load rfl (At.own 2 rfl) rfl f7) ?_
         refine WL.make (MV.buildSlice (cs := [st c_10]) rfl f0 (by kernel_rfl)) rfl rfl rfl (fun b_23' => ?_)
         obtain ⟨o_29', h⟩ := h
         refine WL.append (f := j3) (ms := [c_10]) 2 0 rfl rfl rfl rfl rfl rfl i6 (by decide) rfl f0 m9 rfl o_29' rfl rfl (fun w_24' => ?_)
         refine wA ?_
         refine WL.nil ?_
         exact kh (hK_34' (it_1_1' + 1, w_24', l_4' ++ [c_10]) h.1 h.2) [1, 2, 3]
        ·replace h := j5 h hb
         refine a7 (fun _ hK_43' => ?_)
         refine a6 ?_
         refine wv (OV.eql rfl rfl) ?_
         refine wA ?_
         refine WL.nil ?_
         refine kg (hK_43' [(1, zP b), (3, w_20'), (51, zP b_7'), (55, Value.int .i32 ((((a8 c_0).2.1).getD it_1_1'.toNat 0).toNat : Int)), (84, zB (decide (((((a8 c_0).2.1).getD it_1_1'.toNat 0).toNat : Int) = 97)))] _ ?_)
         refine b9 (b := decide (((((a8 c_0).2.1).getD it_1_1'.toNat 0).toNat : Int) = 97)) rfl (fun hb => ?_) (fun hb => ?_)
         ·replace h := j6 h hb
          refine a6 ?_
          refine wm ?_
          refine wv (OV.fieldAddr0 rfl ab3) ?_
          refine wv (OV.load rfl (At.own 2 rfl) rfl g8) ?_
          obtain ⟨o_30', h⟩ := h
          refine WL.call (A := []) aay rfl (aax te2 fre2 c_8 o_30') rfl ⟨.inr (List.mem_of_getElem? (i := 1) rfl), trivial⟩ rfl rfl ?_
          refine WL.make (MV.buildSlice (cs := [st (Lib.itoa c_8)]) rfl f0 (by kernel_rfl)) rfl rfl rfl (fun b_24' => ?_)
          obtain ⟨o_31', h⟩ := h
          refine WL.append (f := j3) (ms := [Lib.itoa c_8]) 2 0 rfl rfl rfl rfl rfl rfl i6 (by decide) rfl f0 m9 rfl o_31' rfl rfl (fun w_25' => ?_)
          refine wA ?_
          refine WL.nil ?_
          exact kh (hK_34' (it_1_1' + 1, w_25', l_4' ++ [Lib.itoa c_8]) h.1 h.2) [1, 2, 3]
         ·replace h := j5 h hb
          refine a7 (fun _ hK_44' => ?_)
          refine a6 ?_
          refine wv (OV.eql rfl rfl) ?_
          refine wA ?_
          refine WL.nil ?_
          refine kg (hK_44' [(1, zP b), (3, w_20'), (51, zP b_7'), (92, zB (decide (((((a8 c_0).2.1).getD it_1_1'.toNat 0).toNat : Int) = 100)))] _ ?_)
          refine b9 (b := decide (((((a8 c_0).2.1).getD it_1_1'.toNat 0).toNat : Int) = 100)) rfl (fun hb => ?_) (fun hb => ?_)
          ·replace h := j6 h hb
           refine a6 ?_
           refine wm ?_
           refine wv (OV.fieldAddr0 rfl acc) ?_
           refine wv (OV.load rfl (At.own 2 rfl) rfl g8) ?_
           obtain ⟨o_32', h⟩ := h
           refine WL.call (A := []) aay rfl (aax te2 fre2 c_9 o_32') rfl ⟨.inr (List.mem_of_getElem? (i := 1) rfl), trivial⟩ rfl rfl ?_
           refine WL.make (MV.buildSlice (cs := [st (Lib.itoa c_9)]) rfl f0 (by kernel_rfl)) rfl rfl rfl (fun b_25' => ?_)
           obtain ⟨o_33', h⟩ := h
           refine WL.append (f := j3) (ms := [Lib.itoa c_9]) 2 0 rfl rfl rfl rfl rfl rfl i6 (by decide) rfl f0 m9 rfl o_33' rfl rfl (fun w_26' => ?_)
           refine wA ?_
           refine WL.nil ?_
           exact kh (hK_34' (it_1_1' + 1, w_26', l_4' ++ [Lib.itoa c_9]) h.1 h.2) [1, 2, 3]
          ·replace h := j5 h hb
           refine b8 ?_
           exact kh (hK_34' (it_1_1' + 1, w_20', l_4') h.1 h.2) [0, 1, 2]
    ·replace h := j5 h hb
     refine WL.nextF 0 rfl rfl o_25' hb rfl rfl ?_
     refine wv (OV.extract 0 rfl rfl) ?_
     refine WL.nil ?_
     refine kg (hK_35' [(1, zP b), (3, w_20'), (51, zP b_7'), (52, Value.tuple #[zB false]), (53, zB false)] _ ?_)
     refine a7 (fun _ hK_45' => ?_)
     refine m5 rfl ?_
     refine s8 ?_
     refine kg (hK_10' [(3, w_20')] _ ?_)
     refine a7 (fun _ hK_46' => ?_)
     refine a6 ?_
     refine wm ?_
     refine wA ?_
     refine WL.nil ?_
     refine kg (hK_46' [(2, w_20')] _ ?_)
     refine g7 ?_
     exact hE.ret [1] rfl rfl (.inl ⟨_, _, h, rfl⟩) (l7.of1 rfl (RV.tmp rfl))
   ·skip
    refine a7 (fun _ hK_47' => ?_)
    refine a6 ?_
    refine wv (OV.fieldAddr0 rfl aan) ?_
    refine wv (OV.load rfl (At.own 0 rfl) rfl f7) ?_
    refine WL.call (A := []) afa rfl (ae3 ((a8 c_0).2.2) 99) rfl trivial rfl rfl ?_
    refine WL.nil ?_
    refine kg (hK_47' [(1, zP b), (3, w_3'), (4, zP b_3'), (39, zB (decide (0 ≤ Lib.indexByte ((a8 c_0).2.2) 99)))] _ ?_)
    refine b9 (b := decide (0 ≤ Lib.indexByte ((a8 c_0).2.2) 99)) rfl (fun hb => ?_) (fun hb => ?_)
    ·replace h := j6 h hb
     refine a6 ?_
     refine wm ?_
     refine wv (OV.fieldAddr0 rfl aao) ?_
     refine wv (OV.load rfl (At.own 2 rfl) rfl g8) ?_
     obtain ⟨o_34', h⟩ := h
     refine WL.call (A := []) aay rfl (aax te2 fre2 c_7 o_34') rfl ⟨.inr (List.mem_of_getElem? (i := 1) rfl), trivial⟩ rfl rfl ?_
     refine WL.make (MV.buildSlice (cs := [st ([45, 99] : List UInt8), st (Lib.itoa c_7)]) rfl f0 (by kernel_rfl)) rfl rfl rfl (fun b_26' => ?_)
     obtain ⟨o_35', h⟩ := h
     refine WL.append (f := j3) (ms := [([45, 99] : List UInt8), Lib.itoa c_7]) 2 0 rfl rfl rfl rfl rfl rfl i6 (by decide) rfl f0 m9 rfl o_35' rfl rfl (fun w_27' => ?_)
     refine wA ?_
     refine WL.nil ?_
     exact kh (hK_8' (w_27', l_1' ++ [([45, 99] : List UInt8), Lib.itoa c_7]) h) [1, 2, 3]
    ·replace h := j5 h hb
     refine b8 ?_
     exact kh (hK_8' (w_3', l_1') h) [0, 1, 2]
  ·skip
   refine a7 (fun _ hK_48' => ?_)
   refine a6 ?_
   refine wv (OV.fieldAddr0 rfl aan) ?_
   refine wv (OV.load rfl (At.own 0 rfl) rfl f7) ?_
   refine WL.call (A := []) afa rfl (ae3 ((a8 c_0).2.2) 110) rfl trivial rfl rfl ?_
   refine WL.nil ?_
   refine kg (hK_48' [(1, zP b), (3, w_1'), (4, zP b_3'), (30, zB (decide (0 ≤ Lib.indexByte ((a8 c_0).2.2) 110)))] _ ?_)
   refine b9 (b := decide (0 ≤ Lib.indexByte ((a8 c_0).2.2) 110)) rfl (fun hb => ?_) (fun hb => ?_)
   ·replace h := j6 h hb
    refine a6 ?_
    refine wm ?_
    refine wv (OV.fieldAddr0 rfl aam) ?_
    refine wv (OV.load rfl (At.own 2 rfl) rfl g8) ?_
    obtain ⟨o_36', h⟩ := h
    refine WL.call (A := []) aay rfl (aax te2 fre2 c_6 o_36') rfl ⟨.inr (List.mem_of_getElem? (i := 1) rfl), trivial⟩ rfl rfl ?_
    refine WL.make (MV.buildSlice (cs := [st ([45, 110] : List UInt8), st (Lib.itoa c_6)]) rfl f0 (by kernel_rfl)) rfl rfl rfl (fun b_27' => ?_)
    obtain ⟨o_37', h⟩ := h
    refine WL.append (f := j3) (ms := [([45, 110] : List UInt8), Lib.itoa c_6]) 2 0 rfl rfl rfl rfl rfl rfl i6 (by decide) rfl f0 m9 rfl o_37' rfl rfl (fun w_28' => ?_)
    refine wA ?_
    refine WL.nil ?_
    exact kh (hK_6' (w_28', l ++ [([45, 110] : List UInt8), Lib.itoa c_6]) h) [1, 2, 3]
   ·replace h := j5 h hb
    refine b8 ?_
    exact kh (hK_6' (w_1', l) h) [0, 1, 2]
 ·skip
  refine a7 (fun _ hK_49' => ?_)
  refine a6 ?_
  refine wv (OV.fieldAddr0 rfl aap) ?_
  refine wv (OV.load rfl (At.own 2 rfl) rfl f7) ?_
  refine wv (OV.neqS rfl rfl) ?_
  refine WL.nil ?_
  refine kg (hK_49' [(1, zP b), (3, Value.slice (some ⟨b_1', 0, none⟩) 3 3), (16, zB (!decide (c_4 = [])))] _ ?_)
  refine b9 (b := !decide (c_4 = [])) rfl (fun hb => ?_) (fun hb => ?_)
  ·replace h := j6 h hb
   refine a6 ?_
   refine wm ?_
   refine wv (OV.fieldAddr0 rfl aap) ?_
   refine wv (OV.load rfl (At.own 2 rfl) rfl f7) ?_
   refine WL.make (MV.buildSlice (cs := [st ([45, 111] : List UInt8), st c_4]) rfl f0 (by kernel_rfl)) rfl rfl rfl (fun b_28' => ?_)
   obtain ⟨o_38', h⟩ := h
   refine WL.append (f := j3) (ms := [([45, 111] : List UInt8), c_4]) 1 0 rfl rfl rfl rfl rfl rfl i6 (by decide) rfl f0 m9 rfl o_38' rfl rfl (fun w_29' => ?_)
   refine wA ?_
   refine WL.nil ?_
   exact kh (hK_3' (w_29', [c_0, ([45, 98] : List UInt8), Lib.itoa c_5] ++ [([45, 111] : List UInt8), c_4]) h) [1, 3]
  ·replace h := j5 h hb
   refine b8 ?_
   exact kh (hK_3' (Value.slice (some ⟨b_1', 0, none⟩) 3 3, [c_0, ([45, 98] : List UInt8), Lib.itoa c_5]) h) [0, 2]
def aen (c_0 : List UInt8) (c_1 : List UInt8) (c_2 : List UInt8) (c_3 : List UInt8) (c_4 : List UInt8) (c_5 : Int) (c_6 : Int) (c_7 : Int) (c_8 : Int) (c_9 : Int) (c_10 : List UInt8) (K : (List (List UInt8)) → Prop) : Prop :=
 (I64 c_5) ∧
 ∃ (J0 : (List (List UInt8)) → Prop),
  (∀ (l : List (List UInt8)), J0 l →
   ∃ (J0_1' : (List (List UInt8)) → Prop),
    (∀ (l_1' : List (List UInt8)), J0_1' l_1' →
     ∃ (J0_2' : (List (List UInt8)) → Prop),
      (∀ (l_2' : List (List UInt8)), J0_2' l_2' →
       (((l_2'.length + 1) + (l_2'.length + 1) / 4 + 192) * 16 ≤ 281474976710656 ∧ l_2'.length + 1 ≤ 9223372036854775807) ∧
       (
        ∃ (Inv : Int → (List (List UInt8)) → Prop) (mu : Int → (List (List UInt8)) → Nat),
         Inv 0 (l_2' ++ [([45, 45] : List UInt8)]) ∧ ∀ (i_1' : Int) (l_6' : List (List UInt8)), Inv i_1' l_6' →
          (if (decide (i_1' < ((m1 c_0).length : Int))) = true then
           ∃ (J0_5' : (List (List UInt8)) → Prop),
            (∀ (l_7' : List (List UInt8)), J0_5' l_7' →
             (I64 (i_1' + 1)) ∧
             Inv (i_1' + 1) l_7' ∧ mu (i_1' + 1) l_7' < mu i_1' l_6') ∧
            (0 ≤ i_1' ∧ i_1' < ((m1 c_0).length : Int)) ∧
            (if (decide (((m1 c_0).getD (i_1').toNat default) = ([76, 101, 110, 115] : List UInt8))) = true then
             (((l_6'.length + 1) + (l_6'.length + 1) / 4 + 192) * 16 ≤ 281474976710656 ∧ l_6'.length + 1 ≤ 9223372036854775807) ∧
             J0_5' (l_6' ++ [c_1])
            else
             (if (decide (((m1 c_0).getD (i_1').toNat default) = ([86, 105, 101, 119] : List UInt8))) = true then
              (((l_6'.length + 1) + (l_6'.length + 1) / 4 + 192) * 16 ≤ 281474976710656 ∧ l_6'.length + 1 ≤ 9223372036854775807) ∧
              J0_5' (l_6' ++ [c_2])
             else
              (if (decide (((m1 c_0).getD (i_1').toNat default) = ([83, 111, 117, 114, 99, 101] : List UInt8))) = true then
               (((l_6'.length + 1) + (l_6'.length + 1) / 4 + 192) * 16 ≤ 281474976710656 ∧ l_6'.length + 1 ≤ 9223372036854775807) ∧
               J0_5' (l_6' ++ [c_3])
              else
               (if (decide (((m1 c_0).getD (i_1').toNat default) = ([84, 101, 120, 116] : List UInt8))) = true then
                (((l_6'.length + 1) + (l_6'.length + 1) / 4 + 192) * 16 ≤ 281474976710656 ∧ l_6'.length + 1 ≤ 9223372036854775807) ∧
                J0_5' (l_6' ++ [c_10])
               else
                (if (decide (((m1 c_0).getD (i_1').toNat default) = ([65, 116] : List UInt8))) = true then
                 (I64 c_8) ∧
                 (((l_6'.length + 1) + (l_6'.length + 1) / 4 + 192) * 16 ≤ 281474976710656 ∧ l_6'.length + 1 ≤ 9223372036854775807) ∧
                 J0_5' (l_6' ++ [Lib.itoa c_8])
                else
                 (I64 c_9) ∧
                 (((l_6'.length + 1) + (l_6'.length + 1) / 4 + 192) * 16 ≤ 281474976710656 ∧ l_6'.length + 1 ≤ 9223372036854775807) ∧
                 J0_5' (l_6' ++ [Lib.itoa c_9]))))))
          else
           K l_6'))) ∧
      (if (decide (c_0 = ([115, 116, 114, 101, 97, 109] : List UInt8))) = true then
       (I64 c_7) ∧
       (((l_1'.length + 2) + (l_1'.length + 2) / 4 + 192) * 16 ≤ 281474976710656 ∧ l_1'.length + 2 ≤ 9223372036854775807) ∧
       J0_2' (l_1' ++ [([45, 99] : List UInt8), Lib.itoa c_7])
      else
       J0_2' l_1')) ∧
    (if (decide (c_0 = ([119, 111, 114, 100, 115] : List UInt8))) = true then
     (I64 c_6) ∧
     (((l.length + 2) + (l.length + 2) / 4 + 192) * 16 ≤ 281474976710656 ∧ l.length + 2 ≤ 9223372036854775807) ∧
     J0_1' (l ++ [([45, 110] : List UInt8), Lib.itoa c_6])
    else
     J0_1' l)) ∧
  (if (!decide (c_4 = [])) = true then
   ((([c_0, ([45, 98] : List UInt8), Lib.itoa c_5].length + 2) + ([c_0, ([45, 98] : List UInt8), Lib.itoa c_5].length + 2) / 4 + 192) * 16 ≤ 281474976710656 ∧ [c_0, ([45, 98] : List UInt8), Lib.itoa c_5].length + 2 ≤ 9223372036854775807) ∧
   J0 ([c_0, ([45, 98] : List UInt8), Lib.itoa c_5] ++ [([45, 111] : List UInt8), c_4])
  else
   J0 [c_0, ([45, 98] : List UInt8), Lib.itoa c_5])
theorem ake  (c_0 : List UInt8) (c_1 : List UInt8) (c_2 : List UInt8) (c_3 : List UInt8) (c_4 : List UInt8) (c_5 : Int) (c_6 : Int) (c_7 : Int) (c_8 : Int) (c_9 : Int) (c_10 : List UInt8) (K : (List (List UInt8)) → Prop) (h : aen c_0 c_1 c_2 c_3 c_4 c_5 c_6 c_7 c_8 c_9 c_10 K) :
  j8 Tryd.prog 12 [Value.agg [st c_0, st c_1, st c_2, st c_3, st c_4, zI c_5, zI c_6, zI c_7, zI c_8, zI c_9, st c_10].toArray] [] [] (fun o => (∃ (w_52' : Value) (v : List (List UInt8)), K v ∧ o = .ret (w_52') [HA.row w_52' 9 1 v.length (v.flatMap j3)]) ∨ (False)) := by
 unfold aen at h
 refine g9 (n := 97) (L0 := [(0, Value.agg [st c_0, st c_1, st c_2, st c_3, st c_4, zI c_5, zI c_6, zI c_7, zI c_8, zI c_9, st c_10].toArray)]) Tryd.func12 rfl rfl rfl rfl (fun w0 M Q hE => ?_)
 refine a7 (fun _ hK => ?_)
 refine a6 ?_
 refine WL.make (MV.box (cs := [st c_0, st c_1, st c_2, st c_3, st c_4, zI c_5, zI c_6, zI c_7, zI c_8, zI c_9, st c_10]) rfl rfl) rfl rfl rfl (fun b => ?_)
 refine wA ?_
 refine WL.nilRow 9 1 j3 ?_
 refine WL.nil ?_
 refine kg (hK [(1, zP b)] _ ?_)
 refine a7 (fun _ hK_1' => ?_)
 refine w5 5 [] r5 (by kernel_rfl) rfl (fun T hT => ?_)
 refine fv (fun _ => OV.fieldAddr0 rfl r9) ?_
 refine fv (fun _ => OV.load rfl (At.own 1 rfl) rfl f7) ?_
 refine fv (fun _ => OV.fieldAddr0 rfl acd) ?_
 refine fv (fun _ => OV.load rfl (At.own 1 rfl) rfl g8) ?_
 obtain ⟨o, h⟩ := h
 refine FL.call aaz (fun _ => rfl) (aad c_5 o) trivial rfl (fun _ => rfl) rfl ?_
 refine FL.weak (L' := fun γ => [(1, zP b), (7, st c_0), (10, st (Lib.itoa c_5))]) (fun γ => ⟨rfl, rfl, rfl, trivial⟩) (FL.nil (hT (fun γ => [(1, zP b), (7, st c_0), (10, st (Lib.itoa c_5))]) (fun γ => ?_)))
 refine WL.make (MV.buildSlice (cs := [st c_0, st ([45, 98] : List UInt8), st (Lib.itoa c_5)]) rfl f0 (by kernel_rfl)) rfl rfl rfl (fun b_1' => ?_)
 refine WL.asRow (f := j3) (ms := [c_0, ([45, 98] : List UInt8), Lib.itoa c_5]) 0 rfl rfl rfl i6 rfl ?_
 refine wA ?_
 refine WL.nil ?_
 refine kg (hK_1' [(1, zP b), (3, Value.slice (some ⟨b_1', 0, none⟩) 3 3)] _ ?_)
 obtain ⟨J0, hJ, h⟩ := h
 refine q6 (X := Value × (List (List UInt8))) (fun σ => J0 σ.2) (fun σ => [(1, zP b), (3, σ.1)]) (fun σ => [HA.row σ.1 9 1 σ.2.length (σ.2.flatMap j3), HA.blk b (.cells [st c_0, st c_1, st c_2, st c_3, st c_4, zI c_5, zI c_6, zI c_7, zI c_8, zI c_9, st c_10].toArray 31 (0, 0))]) ?_ (fun K0_3' hK_3' => ?_)
 ·rintro ⟨w_1', l⟩ hj
  replace h := hJ l hj
  show WC _ _ _ _ [(1, zP b), (3, w_1')] [HA.row w_1' 9 1 l.length (l.flatMap j3), HA.blk b (.cells [st c_0, st c_1, st c_2, st c_3, st c_4, zI c_5, zI c_6, zI c_7, zI c_8, zI c_9, st c_10].toArray 31 (0, 0))]
  obtain ⟨J0_1', hJ_1', h⟩ := h
  refine q6 (X := Value × (List (List UInt8))) (fun σ => J0_1' σ.2) (fun σ => [(1, zP b), (3, σ.1)]) (fun σ => [HA.row σ.1 9 1 σ.2.length (σ.2.flatMap j3), HA.blk b (.cells [st c_0, st c_1, st c_2, st c_3, st c_4, zI c_5, zI c_6, zI c_7, zI c_8, zI c_9, st c_10].toArray 31 (0, 0))]) ?_ (fun K0_5' hK_5' => ?_)
  ·rintro ⟨w_3', l_1'⟩ hj
   replace h := hJ_1' l_1' hj
   show WC _ _ _ _ [(1, zP b), (3, w_3')] [HA.row w_3' 9 1 l_1'.length (l_1'.flatMap j3), HA.blk b (.cells [st c_0, st c_1, st c_2, st c_3, st c_4, zI c_5, zI c_6, zI c_7, zI c_8, zI c_9, st c_10].toArray 31 (0, 0))]
   obtain ⟨J0_2', hJ_2', h⟩ := h
   refine q6 (X := Value × (List (List UInt8))) (fun σ => J0_2' σ.2) (fun σ => [(1, zP b), (3, σ.1)]) (fun σ => [HA.row σ.1 9 1 σ.2.length (σ.2.flatMap j3), HA.blk b (.cells [st c_0, st c_1, st c_2, st c_3, st c_4, zI c_5, zI c_6, zI c_7, zI c_8, zI c_9, st c_10].toArray 31 (0, 0))]) ?_ (fun K0_7' hK_7' => ?_)
   ·rintro ⟨w_5', l_2'⟩ hj
    replace h := hJ_2' l_2' hj
    show WC _ _ _ _ [(1, zP b), (3, w_5')] [HA.row w_5' 9 1 l_2'.length (l_2'.flatMap j3), HA.blk b (.cells [st c_0, st c_1, st c_2, st c_3, st c_4, zI c_5, zI c_6, zI c_7, zI c_8, zI c_9, st c_10].toArray 31 (0, 0))]
    refine a7 (fun _ hK_8' => ?_)
    refine a6 ?_
    refine wm ?_
    refine WL.make (MV.buildSlice (cs := [st ([45, 45] : List UInt8)]) rfl f0 (by kernel_rfl)) rfl rfl rfl (fun b_5' => ?_)
    obtain ⟨o_6', h⟩ := h
    refine WL.append (f := j3) (ms := [([45, 45] : List UInt8)]) 1 0 rfl rfl rfl rfl rfl rfl i6 (by decide) rfl f0 m9 rfl o_6' rfl rfl (fun w_6' => ?_)
    refine wA ?_
    refine WL.nil ?_
    refine kg (hK_8' [(1, zP b), (3, w_6')] _ ?_)
    refine a7 (fun _ hK_9' => ?_)
    refine a6 ?_
    refine wv (OV.fieldAddr0 rfl r9) ?_
    refine wv (OV.load rfl (At.own 2 rfl) rfl f7) ?_
    refine WL.callS afo rfl (afn c_0) rfl trivial rfl rfl (fun r H' hS => ?_) (fun c H' hS => ?_)
    ·obtain ⟨w_7', ho⟩ := hS
     obtain ⟨hr1, hr2⟩ := Out.ret.inj ho
     subst hr2
     replace hr1 := hr1.symm
     subst hr1
     refine wA ?_
     refine WL.nil ?_
     refine kg (hK_9' [(1, zP b), (3, w_6'), (4, w_7')] _ ?_)
     refine a7 (fun _ hK_10' => ?_)
     refine a7 (fun _ hK_11' => ?_)
     refine a6 ?_
     refine wA ?_
     refine WL.nil ?_
     refine kg (hK_11' [(1, zP b), (3, w_6'), (4, w_7'), (5, zI 0)] _ ?_)
     refine f9 ?_
     refine WC.pick (H' := [HA.row w_7' 9 1 (m1 c_0).length ((m1 c_0).flatMap j3), HA.row w_6' 9 1 (l_2' ++ [([45, 45] : List UInt8)]).length ((l_2' ++ [([45, 45] : List UInt8)]).flatMap j3), HA.blk b (.cells [st c_0, st c_1, st c_2, st c_3, st c_4, zI c_5, zI c_6, zI c_7, zI c_8, zI c_9, st c_10].toArray 31 (0, 0))]) [0, 2, 3] rfl rfl ?_
     obtain ⟨Inv, mu, h0, hr⟩ := h
     refine x1 (S := Int × Value × (List (List UInt8))) (fun σ => Inv σ.1 σ.2.2) (fun σ => mu σ.1 σ.2.2) (fun σ => [(1, zP b), (3, σ.2.1), (4, w_7'), (5, zI σ.1)]) (fun σ => [HA.row w_7' 9 1 (m1 c_0).length ((m1 c_0).flatMap j3), HA.row σ.2.1 9 1 σ.2.2.length (σ.2.2.flatMap j3), HA.blk b (.cells [st c_0, st c_1, st c_2, st c_3, st c_4, zI c_5, zI c_6, zI c_7, zI c_8, zI c_9, st c_10].toArray 31 (0, 0))]) (0, w_6', l_2' ++ [([45, 45] : List UInt8)]) h0 ⟨rfl, rfl, rfl, rfl, trivial⟩ rfl ?_
     rintro ⟨i_1', w_35', l_6'⟩ hi K0_42' hK_42'
     have h := hr i_1' l_6' hi
     show WC _ _ _ _ [(1, zP b), (3, w_35'), (4, w_7'), (5, zI i_1')] [HA.row w_7' 9 1 (m1 c_0).length ((m1 c_0).flatMap j3), HA.row w_35' 9 1 l_6'.length (l_6'.flatMap j3), HA.blk b (.cells [st c_0, st c_1, st c_2, st c_3, st c_4, zI c_5, zI c_6, zI c_7, zI c_8, zI c_9, st c_10].toArray 31 (0, 0))]
     refine a7 (fun _ hK_43' => ?_)
     refine a7 (fun _ hK_44' => ?_)
     refine a6 ?_
     refine wm ?_
     refine wm ?_
     refine wv (OV.lenRow 0 rfl rfl f0) ?_
     refine wv (OV.lss rfl rfl) ?_
     refine WL.nil ?_
     refine kg (hK_44' [(1, zP b), (3, w_35'), (4, w_7'), (5, zI i_1'), (47, zB (decide (i_1' < ((m1 c_0).length : Int))))] _ ?_)
     refine b9 (b := decide (i_1' < ((m1 c_0).length : Int))) rfl (fun hb => ?_) (fun hb => ?_)
     ·replace h := j6 h hb
      refine b8 ?_
      refine kg (hK_43' [(1, zP b), (3, w_35'), (4, w_7'), (5, zI i_1')] _ ?_)
      obtain ⟨J0_5', hJ_5', h⟩ := h
      refine q6 (X := Value × (List (List UInt8))) (fun σ => J0_5' σ.2) (fun σ => [(1, zP b), (3, σ.1), (4, w_7'), (5, zI i_1')]) (fun σ => [HA.row w_7' 9 1 (m1 c_0).length ((m1 c_0).flatMap j3), HA.row σ.1 9 1 σ.2.length (σ.2.flatMap j3), HA.blk b (.cells [st c_0, st c_1, st c_2, st c_3, st c_4, zI c_5, zI c_6, zI c_7, zI c_8, zI c_9, st c_10].toArray 31 (0, 0))]) ?_ (fun K0_51' hK_51' => ?_)
      ·rintro ⟨w_42', l_7'⟩ hj
       replace h := hJ_5' l_7' hj
       show WC _ _ _ _ [(1, zP b), (3, w_42'), (4, w_7'), (5, zI i_1')] [HA.row w_7' 9 1 (m1 c_0).length ((m1 c_0).flatMap j3), HA.row w_42' 9 1 l_7'.length (l_7'.flatMap j3), HA.blk b (.cells [st c_0, st c_1, st c_2, st c_3, st c_4, zI c_5, zI c_6, zI c_7, zI c_8, zI c_9, st c_10].toArray 31 (0, 0))]
       refine a6 ?_
       refine wm ?_
       obtain ⟨o_53', h⟩ := h
       refine wv (OV.add rfl rfl o_53') ?_
       refine wA ?_
       refine WL.nil ?_
       exact kh (hK_42' (i_1' + 1, w_42', l_7') h.1 h.2) [0, 1, 2]
      ·skip
       refine f9 ?_
       refine a7 (fun _ hK_52' => ?_)
       refine a6 ?_
       refine wm ?_
       refine wm ?_
       obtain ⟨o_54', h⟩ := h
       refine wv (OV.indexRow 0 rfl rfl rfl f0 o_54') ?_
       refine wv (OV.loadE1 (f := j3) 0 rfl rfl i6 (by omega) rfl f7) ?_
       refine WL.nil ?_
       refine kg (hK_52' [(1, zP b), (3, w_35'), (4, w_7'), (5, zI i_1'), (53, st ((m1 c_0).getD (i_1').toNat default))] _ ?_)
       refine f9 ?_
       refine a7 (fun _ hK_53' => ?_)
       refine a6 ?_
       refine wv (OV.eqlS rfl rfl) ?_
       refine wA ?_
       refine WL.nil ?_
       refine kg (hK_53' [(1, zP b), (3, w_35'), (4, w_7'), (5, zI i_1'), (53, st ((m1 c_0).getD (i_1').toNat default)), (60, zB (decide (((m1 c_0).getD (i_1').toNat default) = ([76, 101, 110, 115] : List UInt8))))] _ ?_)
       refine b9 (b := decide (((m1 c_0).getD (i_1').toNat default) = ([76, 101, 110, 115] : List UInt8))) rfl (fun hb => ?_) (fun hb => ?_)
       ·replace h := j6 h hb
        refine a6 ?_
        refine wm ?_
        refine wv (OV.fieldAddr0 rfl aby) ?_
        refine wv (OV.load rfl (At.own 2 rfl) rfl f7) ?_
        refine WL.make (MV.buildSlice (cs := [st c_1]) rfl f0 (by kernel_rfl)) rfl rfl rfl (fun b_36' => ?_)
        obtain ⟨o_55', h⟩ := h
        refine WL.append (f := j3) (ms := [c_1]) 2 0 rfl rfl rfl rfl rfl rfl i6 (by decide) rfl f0 m9 rfl o_55' rfl rfl (fun w_43' => ?_)
        refine wA ?_
        refine WL.nil ?_
        exact kh (hK_51' (w_43', l_6' ++ [c_1]) h) [1, 2, 3]
       ·replace h := j5 h hb
        refine a7 (fun _ hK_54' => ?_)
        refine a6 ?_
        refine wv (OV.eqlS rfl rfl) ?_
        refine wA ?_
        refine WL.nil ?_
        refine kg (hK_54' [(1, zP b), (3, w_35'), (4, w_7'), (5, zI i_1'), (53, st ((m1 c_0).getD (i_1').toNat default)), (67, zB (decide (((m1 c_0).getD (i_1').toNat default) = ([86, 105, 101, 119] : List UInt8))))] _ ?_)
        refine b9 (b := decide (((m1 c_0).getD (i_1').toNat default) = ([86, 105, 101, 119] : List UInt8))) rfl (fun hb => ?_) (fun hb => ?_)
        ·replace h := j6 h hb
         refine a6 ?_
         refine wm ?_
         refine wv (OV.fieldAddr0 rfl ab4) ?_
         refine wv (OV.load rfl (At.own 2 rfl) rfl f7) ?_
         refine WL.make (MV.buildSlice (cs := [st c_2]) rfl f0 (by kernel_rfl)) rfl rfl rfl (fun b_37' => ?_)
         obtain ⟨o_56', h⟩ := h
         refine WL.append (f := j3) (ms := [c_2]) 2 0 rfl rfl rfl rfl rfl rfl i6 (by decide) rfl f0 m9 rfl o_56' rfl rfl (fun w_44' => ?_)
         refine wA ?_
         refine WL.nil ?_
         exact kh (hK_51' (w_44', l_6' ++ [c_2]) h) [1, 2, 3]
        ·replace h := j5 h hb
         refine a7 (fun _ hK_55' => ?_)
         refine a6 ?_
         refine wv (OV.eqlS rfl rfl) ?_
         refine wA ?_
         refine WL.nil ?_
         refine kg (hK_55' [(1, zP b), (3, w_35'), (4, w_7'), (5, zI i_1'), (53, st ((m1 c_0).getD (i_1').toNat default)), (74, zB (decide (((m1 c_0).getD (i_1').toNat default) = ([83, 111, 117, 114, 99, 101] : List UInt8))))] _ ?_)
         refine b9 (b := decide (((m1 c_0).getD (i_1').toNat default) = ([83, 111, 117, 114, 99, 101] : List UInt8))) rfl (fun hb => ?_) (fun hb => ?_)
         ·replace h := j6 h hb
          refine a6 ?_
          refine wm ?_
          refine wv (OV.fieldAddr0 rfl ab1) ?_
          refine wv (OV.load rfl (At.own 2 rfl) rfl f7) ?_
          refine WL.make (MV.buildSlice (cs := [st c_3]) rfl f0 (by kernel_rfl)) rfl rfl rfl (fun b_38' => ?_)
          obtain ⟨o_57', h⟩ := h
          refine WL.append (f := j3) (ms := [c_3]) 2 0 rfl rfl rfl rfl rfl rfl i6 (by decide) rfl f0 m9 rfl o_57' rfl rfl (fun w_45' => ?_)
          refine wA ?_
          refine WL.nil ?_
          exact kh (hK_51' (w_45', l_6' ++ [c_3]) h) [1, 2, 3]
         ·replace h := j5 h hb
          refine a7 (fun _ hK_56' => ?_)
          refine a6 ?_
          refine wv (OV.eqlS rfl rfl) ?_
          refine wA ?_
          refine WL.nil ?_
          refine kg (hK_56' [(1, zP b), (3, w_35'), (4, w_7'), (5, zI i_1'), (53, st ((m1 c_0).getD (i_1').toNat default)), (81, zB (decide (((m1 c_0).getD (i_1').toNat default) = ([84, 101, 120, 116] : List UInt8))))] _ ?_)
          refine b9 (b := decide (((m1 c_0).getD (i_1').toNat default) = ([84, 101, 120, 116] : List UInt8))) rfl (fun hb => ?_) (fun hb => ?_)
          ·replace h := j6 h hb
           refine a6 ?_
           refine wm ?_
           refine wv (OV.fieldAddr0 rfl abj) ?_
           refine wv (OV.load rfl (At.own 2 rfl) rfl f7) ?_
           refine WL.make (MV.buildSlice (cs := [st c_10]) rfl f0 (by kernel_rfl)) rfl rfl rfl (fun b_39' => ?_)
           obtain ⟨o_58', h⟩ := h
           refine WL.append (f := j3) (ms := [c_10]) 2 0 rfl rfl rfl rfl rfl rfl i6 (by decide) rfl f0 m9 rfl o_58' rfl rfl (fun w_46' => ?_)
           refine wA ?_
           refine WL.nil ?_
           exact kh (hK_51' (w_46', l_6' ++ [c_10]) h) [1, 2, 3]
          ·replace h := j5 h hb
           refine a7 (fun _ hK_57' => ?_)
           refine a6 ?_
           refine wv (OV.eqlS rfl rfl) ?_
           refine wA ?_
           refine WL.nil ?_
           refine kg (hK_57' [(1, zP b), (3, w_35'), (4, w_7'), (5, zI i_1'), (88, zB (decide (((m1 c_0).getD (i_1').toNat default) = ([65, 116] : List UInt8))))] _ ?_)
           refine b9 (b := decide (((m1 c_0).getD (i_1').toNat default) = ([65, 116] : List UInt8))) rfl (fun hb => ?_) (fun hb => ?_)
           ·replace h := j6 h hb
            refine a6 ?_
            refine wm ?_
            refine wv (OV.fieldAddr0 rfl ab6) ?_
            refine wv (OV.load rfl (At.own 2 rfl) rfl g8) ?_
            obtain ⟨o_59', h⟩ := h
            refine WL.call (A := []) aaz rfl (aad c_8 o_59') rfl trivial rfl rfl ?_
            refine WL.make (MV.buildSlice (cs := [st (Lib.itoa c_8)]) rfl f0 (by kernel_rfl)) rfl rfl rfl (fun b_40' => ?_)
            obtain ⟨o_60', h⟩ := h
            refine WL.append (f := j3) (ms := [Lib.itoa c_8]) 2 0 rfl rfl rfl rfl rfl rfl i6 (by decide) rfl f0 m9 rfl o_60' rfl rfl (fun w_47' => ?_)
            refine wA ?_
            refine WL.nil ?_
            exact kh (hK_51' (w_47', l_6' ++ [Lib.itoa c_8]) h) [1, 2, 3]
           ·replace h := j5 h hb
            refine a6 ?_
            refine wm ?_
            refine wv (OV.fieldAddr0 rfl acb) ?_
            refine wv (OV.load rfl (At.own 2 rfl) rfl g8) ?_
            obtain ⟨o_61', h⟩ := h
            refine WL.call (A := []) aaz rfl (aad c_9 o_61') rfl trivial rfl rfl ?_
            refine WL.make (MV.buildSlice (cs := [st (Lib.itoa c_9)]) rfl f0 (by kernel_rfl)) rfl rfl rfl (fun b_41' => ?_)
            obtain ⟨o_62', h⟩ := h
            refine WL.append (f := j3) (ms := [Lib.itoa c_9]) 2 0 rfl rfl rfl rfl rfl rfl i6 (by decide) rfl f0 m9 rfl o_62' rfl rfl (fun w_48' => ?_)
            refine wA ?_
            refine WL.nil ?_
            exact kh (hK_51' (w_48', l_6' ++ [Lib.itoa c_9]) h) [1, 2, 3]
     ·replace h := j5 h hb
      refine s8 ?_
      refine kg (hK_10' [(3, w_35')] _ ?_)
      refine a7 (fun _ hK_58' => ?_)
      refine a6 ?_
      refine wm ?_
      refine wA ?_
      refine WL.nil ?_
      refine kg (hK_58' [(2, w_35')] _ ?_)
      refine g7 ?_
      exact hE.ret [1] rfl rfl (.inl ⟨_, _, h, rfl⟩) (l7.of1 rfl (RV.tmp rfl))
    ·obtain ⟨w_7', ho⟩ := hS
     cases ho
   ·skip
    refine a7 (fun _ hK_59' => ?_)
    refine a6 ?_
    refine wv (OV.fieldAddr0 rfl r9) ?_
    refine wv (OV.load rfl (At.own 1 rfl) rfl f7) ?_
    refine wv (OV.eqlS rfl rfl) ?_
    refine WL.nil ?_
    refine kg (hK_59' [(1, zP b), (3, w_3'), (31, zB (decide (c_0 = ([115, 116, 114, 101, 97, 109] : List UInt8))))] _ ?_)
    refine b9 (b := decide (c_0 = ([115, 116, 114, 101, 97, 109] : List UInt8))) rfl (fun hb => ?_) (fun hb => ?_)
    ·replace h := j6 h hb
     refine a6 ?_
     refine wm ?_
     refine wv (OV.fieldAddr0 rfl aaq) ?_
     refine wv (OV.load rfl (At.own 1 rfl) rfl g8) ?_
     obtain ⟨o_63', h⟩ := h
     refine WL.call (A := []) aaz rfl (aad c_7 o_63') rfl trivial rfl rfl ?_
     refine WL.make (MV.buildSlice (cs := [st ([45, 99] : List UInt8), st (Lib.itoa c_7)]) rfl f0 (by kernel_rfl)) rfl rfl rfl (fun b_42' => ?_)
     obtain ⟨o_64', h⟩ := h
     refine WL.append (f := j3) (ms := [([45, 99] : List UInt8), Lib.itoa c_7]) 1 0 rfl rfl rfl rfl rfl rfl i6 (by decide) rfl f0 m9 rfl o_64' rfl rfl (fun w_49' => ?_)
     refine wA ?_
     refine WL.nil ?_
     exact kh (hK_7' (w_49', l_1' ++ [([45, 99] : List UInt8), Lib.itoa c_7]) h) [1, 2]
    ·replace h := j5 h hb
     refine b8 ?_
     exact kh (hK_7' (w_3', l_1') h) [0, 1]
  ·skip
   refine a7 (fun _ hK_60' => ?_)
   refine a6 ?_
   refine wv (OV.fieldAddr0 rfl r9) ?_
   refine wv (OV.load rfl (At.own 1 rfl) rfl f7) ?_
   refine wv (OV.eqlS rfl rfl) ?_
   refine WL.nil ?_
   refine kg (hK_60' [(1, zP b), (3, w_1'), (22, zB (decide (c_0 = ([119, 111, 114, 100, 115] : List UInt8))))] _ ?_)
   refine b9 (b := decide (c_0 = ([119, 111, 114, 100, 115] : List UInt8))) rfl (fun hb => ?_) (fun hb => ?_)
   ·replace h := j6 h hb
    refine a6 ?_
    refine wm ?_
    refine wv (OV.fieldAddr0 rfl aal) ?_
    refine wv (OV.load rfl (At.own 1 rfl) rfl g8) ?_
    obtain ⟨o_65', h⟩ := h
    refine WL.call (A := []) aaz rfl (aad c_6 o_65') rfl trivial rfl rfl ?_
    refine WL.make (MV.buildSlice (cs := [st ([45, 110] : List UInt8), st (Lib.itoa c_6)]) rfl f0 (by kernel_rfl)) rfl rfl rfl (fun b_43' => ?_)
    obtain ⟨o_66', h⟩ := h
    refine WL.append (f := j3) (ms := [([45, 110] : List UInt8), Lib.itoa c_6]) 1 0 rfl rfl rfl rfl rfl rfl i6 (by decide) rfl f0 m9 rfl o_66' rfl rfl (fun w_50' => ?_)
    refine wA ?_
    refine WL.nil ?_
    exact kh (hK_5' (w_50', l ++ [([45, 110] : List UInt8), Lib.itoa c_6]) h) [1, 2]
   ·replace h := j5 h hb
    refine b8 ?_
    exact kh (hK_5' (w_1', l) h) [0, 1]
 ·skip
  refine a7 (fun _ hK_61' => ?_)
  refine a6 ?_
  refine wv (OV.fieldAddr0 rfl aah) ?_
  refine wv (OV.load rfl (At.own 2 rfl) rfl f7) ?_
  refine wv (OV.neqS rfl rfl) ?_
  refine WL.nil ?_
  refine kg (hK_61' [(1, zP b), (3, Value.slice (some ⟨b_1', 0, none⟩) 3 3), (14, zB (!decide (c_4 = [])))] _ ?_)
  refine b9 (b := !decide (c_4 = [])) rfl (fun hb => ?_) (fun hb => ?_)
  ·replace h := j6 h hb
   refine a6 ?_
   refine wm ?_
   refine wv (OV.fieldAddr0 rfl aah) ?_
   refine wv (OV.load rfl (At.own 2 rfl) rfl f7) ?_
   refine WL.make (MV.buildSlice (cs := [st ([45, 111] : List UInt8), st c_4]) rfl f0 (by kernel_rfl)) rfl rfl rfl (fun b_44' => ?_)
   obtain ⟨o_67', h⟩ := h
   refine WL.append (f := j3) (ms := [([45, 111] : List UInt8), c_4]) 1 0 rfl rfl rfl rfl rfl rfl i6 (by decide) rfl f0 m9 rfl o_67' rfl rfl (fun w_51' => ?_)
   refine wA ?_
   refine WL.nil ?_
   exact kh (hK_3' (w_51', [c_0, ([45, 98] : List UInt8), Lib.itoa c_5] ++ [([45, 111] : List UInt8), c_4]) h) [1, 3]
  ·replace h := j5 h hb
   refine b8 ?_
   exact kh (hK_3' (Value.slice (some ⟨b_1', 0, none⟩) 3 3, [c_0, ([45, 98] : List UInt8), Lib.itoa c_5]) h) [0, 2]
def acr : CmT → UInt8 → List Bs
 | (_, le, vi, so, _, _, _, _, a, d, te), l => if l = 108 then [le] else if l = 118 then [vi] else if l = 115 then [so] else if l = 116 then [te] else if l = 97 then [Lib.itoa a] else if l = 100 then [Lib.itoa d] else []
def aej : CmT → List Bs
 | (nm, _, _, _, ou, bu, _, _, _, _, _) => [nm, [45, 98], Lib.itoa bu] ++ (if ou = [] then [] else [[45, 111], ou])
def adx : CmT → List Bs
 | (nm, le, vi, so, ou, bu, co, ch, a, d, te) => aej (nm, le, vi, so, ou, bu, co, ch, a, d, te) ++ (if 0 ≤ Lib.indexByte (a8 nm).2.2 110 then [[45, 110], Lib.itoa co] else [])
def afl : CmT → List Bs
 | (nm, le, vi, so, ou, bu, co, ch, a, d, te) => adx (nm, le, vi, so, ou, bu, co, ch, a, d, te) ++ (if 0 ≤ Lib.indexByte (a8 nm).2.2 99 then [[45, 99], Lib.itoa ch] else [])
section
variable (nm le vi so ou te : Bs) (bu co ch a d : Int)
theorem adt (l : UInt8) : acr (nm, le, vi, so, ou, bu, co, ch, a, d, te) l = if l = 108 then [le] else if l = 118 then [vi] else if l = 115 then [so] else if l = 116 then [te] else if l = 97 then [Lib.itoa a] else if l = 100 then [Lib.itoa d] else [] := rfl
theorem y8 : aej (nm, le, vi, so, ou, bu, co, ch, a, d, te) = [nm, [45, 98], Lib.itoa bu] ++ (if ou = [] then [] else [[45, 111], ou]) := rfl
theorem aab : adx (nm, le, vi, so, ou, bu, co, ch, a, d, te) = aej (nm, le, vi, so, ou, bu, co, ch, a, d, te) ++ (if 0 ≤ Lib.indexByte (a8 nm).2.2 110 then [[45, 110], Lib.itoa co] else []) := rfl
theorem aac : afl (nm, le, vi, so, ou, bu, co, ch, a, d, te) = adx (nm, le, vi, so, ou, bu, co, ch, a, d, te) ++ (if 0 ≤ Lib.indexByte (a8 nm).2.2 99 then [[45, 99], Lib.itoa ch] else []) := rfl
end
def b7 (c : CmT) : List Bs := (afl c ++ [[45, 45]]) ++ (a8 c.1).2.1.flatMap (acr c)
def agx (c : CmT) : Prop := u2 c.1 = true ∧ I64 c.2.2.2.2.2.1 ∧ I64 c.2.2.2.2.2.2.1 ∧ I64 c.2.2.2.2.2.2.2.1 ∧ I64 c.2.2.2.2.2.2.2.2.1 ∧ I64 c.2.2.2.2.2.2.2.2.2.1
theorem ajz (c : CmT) (l : UInt8) : (acr c l).length ≤ 1 := by
 obtain ⟨nm, le, vi, so, ou, bu, co, ch, a, d, te⟩ := c
 rw [adt]
 (repeat' split) <;> simp
theorem aeg (c : CmT) : ∀ l : Bs, (l.flatMap (acr c)).length ≤ l.length
 | [] => by simp
 | x :: r => by
  have := aeg c r
  have := ajz c x
  rw [List.flatMap_cons, List.length_append, List.length_cons]; omega
theorem abt (c : CmT) : (aej c).length ≤ 5 ∧ (adx c).length ≤ 7 ∧ (afl c).length ≤ 9 := by
 obtain ⟨nm, le, vi, so, ou, bu, co, ch, a, d, te⟩ := c
 have h1 : (aej (nm, le, vi, so, ou, bu, co, ch, a, d, te)).length ≤ 5 := by rw [y8, List.length_append]; split <;> simp
 have h2 : (adx (nm, le, vi, so, ou, bu, co, ch, a, d, te)).length ≤ 7 := by rw [aab, List.length_append]; split <;> simp <;> omega
 refine ⟨h1, h2, ?_⟩
 rw [aac, List.length_append]; split <;> simp <;> omega
theorem aag (nm : Bs) : (a8 nm).2.1.length ≤ 5 ∧ ∀ c ∈ (a8 nm).2.1, c.toNat < 128 := by
 unfold a8
 cases h : shapes.find? (fun s => decide (s.1 = nm)) with
 | none => exact ⟨by decide, fun c hc => by cases hc⟩
 | some s => exact (by decide : ∀ s ∈ shapes, s.2.1.length ≤ 5 ∧ ∀ c ∈ s.2.1, c.toNat < 128) s (List.mem_of_find?_eq_some h)
theorem ait {ops : Bs} {k : Int} (h0 : 0 ≤ k) (h : k < (ops.length : Int)) : ops.take (k + 1).toNat = ops.take k.toNat ++ [ops.getD k.toNat 0] := by
 rw [show (k + 1).toNat = k.toNat + 1 by omega, List.take_add_one, List.getD_eq_getElem?_getD, List.getElem?_eq_getElem (by omega)]
 rfl
def ahz (c : CmT) (k : Int) (l : List Bs) : Prop := 0 ≤ k ∧ k ≤ ((a8 c.1).2.1.length : Int) ∧ l = (afl c ++ [[45, 45]]) ++ ((a8 c.1).2.1.take k.toNat).flatMap (acr c)
theorem agj {c : CmT} {k : Int} {l : List Bs} (h : ahz c k l) : l.length ≤ 15 := by
 obtain ⟨h0, h1, rfl⟩ := h
 have := (abt c).2.2
 have := aeg c ((a8 c.1).2.1.take k.toNat)
 have := (aag c.1).1
 rw [List.length_append, List.length_append]
 simp only [List.length_take, List.length_cons, List.length_nil] at *
 omega
theorem afe {c : CmT} {k : Int} {l : List Bs} (h : ahz c k l) (hk : k < ((a8 c.1).2.1.length : Int)) : ahz c (k + 1) (l ++ acr c ((a8 c.1).2.1.getD k.toNat 0)) := by
 obtain ⟨h0, h1, rfl⟩ := h
 refine ⟨by omega, by omega, ?_⟩
 rw [ait h0 hk, List.flatMap_append, List.flatMap_singleton, List.append_assoc]
theorem age {c : CmT} {k : Int} {l : List Bs} (h : ahz c k l) (hk : ¬ k < ((a8 c.1).2.1.length : Int)) : l = b7 c := by
 obtain ⟨h0, h1, rfl⟩ := h
 rw [List.take_of_length_le (by omega)]; rfl
theorem aaf {c : UInt8} {n : UInt8} : ((c.toNat : Nat) : Int) = ((n.toNat : Nat) : Int) ↔ c = n := ⟨fun h => UInt8.toNat_inj.1 (by exact_mod_cast h), fun h => by rw [h]⟩
theorem acx (te : TypeId) (fre : Nat × Nat) (te2 : TypeId) (fre2 : Nat × Nat) (c : CmT) (hc : agx c) : j8 Tryd.prog 13 [.agg (cmL c).toArray] (adg te fre ++ [(2, .cells aau.toArray te2 fre2)]) []
  (fun o => ∃ w, o = .ret w [HA.row w 9 1 (b7 c).length ((b7 c).flatMap j3)]) := by
 obtain ⟨nm, le, vi, so, ou, bu, co, ch, a, d, te'⟩ := c
 refine (al8 te fre te2 fre2 nm le vi so ou bu co ch a d te' (fun v => v = b7 (nm, le, vi, so, ou, bu, co, ch, a, d, te')) ?_).weak ?_
 ·obtain ⟨_, b1, b2, b3, b4, b5⟩ := hc
  generalize hC : (nm, le, vi, so, ou, bu, co, ch, a, d, te') = c
  have hl := abt c
  unfold afx
  refine ⟨b1, fun l => l = aej c, fun l h => ?_, ?_⟩
  ·subst h
   refine ⟨fun l => l = adx c, fun l h => ?_, ?_⟩
   ·subst h
    refine ⟨fun l => l = afl c, fun l h => ?_, ?_⟩
    ·subst h
     refine ⟨⟨by omega, by omega⟩, ahz c, fun k _ => ((a8 c.1).2.1.length - k).toNat, ⟨by omega, by omega, by rw [show (0 : Int).toNat = 0 from rfl, List.take_zero, List.flatMap_nil, List.append_nil]⟩, fun k l h => ?_⟩
     have hn : nm = c.1 := by rw [← hC]
     have hs := aag nm
     refine ⟨⟨h.1, hs.2⟩, ?_⟩
     have hlen := agj h
     by_cases hk : k < ((a8 nm).2.1.length : Int)
     ·rw [if_pos (decide_eq_true hk)]
      have hst := afe h (by rw [← hn]; exact hk)
      rw [← hn] at hst
      have hmu : ((a8 c.1).2.1.length - (k + 1)).toNat < ((a8 c.1).2.1.length - k).toNat := by rw [← hn]; omega
      simp only [decide_eq_true_eq]
      generalize (a8 nm).2.1.getD k.toNat 0 = x at hst ⊢
      rw [← hC] at hst
      rw [adt, hC] at hst
      have e1 : ((x.toNat : Nat) : Int) = 108 ↔ x = 108 := aaf (n := 108)
      have e2 : ((x.toNat : Nat) : Int) = 118 ↔ x = 118 := aaf (n := 118)
      have e3 : ((x.toNat : Nat) : Int) = 115 ↔ x = 115 := aaf (n := 115)
      have e4 : ((x.toNat : Nat) : Int) = 116 ↔ x = 116 := aaf (n := 116)
      have e5 : ((x.toNat : Nat) : Int) = 97 ↔ x = 97 := aaf (n := 97)
      have e6 : ((x.toNat : Nat) : Int) = 100 ↔ x = 100 := aaf (n := 100)
      simp only [e1, e2, e3, e4, e5, e6]
      by_cases g1 : x = 108
      ·rw [if_pos g1] at hst ⊢; exact ⟨⟨by omega, by omega⟩, hst, hmu⟩
      rw [if_neg g1] at hst ⊢
      by_cases g2 : x = 118
      ·rw [if_pos g2] at hst ⊢; exact ⟨⟨by omega, by omega⟩, hst, hmu⟩
      rw [if_neg g2] at hst ⊢
      by_cases g3 : x = 115
      ·rw [if_pos g3] at hst ⊢; exact ⟨⟨by omega, by omega⟩, hst, hmu⟩
      rw [if_neg g3] at hst ⊢
      by_cases g4 : x = 116
      ·rw [if_pos g4] at hst ⊢; exact ⟨⟨by omega, by omega⟩, hst, hmu⟩
      rw [if_neg g4] at hst ⊢
      by_cases g5 : x = 97
      ·rw [if_pos g5] at hst ⊢; exact ⟨b4, ⟨by omega, by omega⟩, hst, hmu⟩
      rw [if_neg g5] at hst ⊢
      by_cases g6 : x = 100
      ·rw [if_pos g6] at hst ⊢; exact ⟨b5, ⟨by omega, by omega⟩, hst, hmu⟩
      rw [if_neg g6, List.append_nil] at hst
      rw [if_neg g6]
      exact ⟨hst, hmu⟩
     ·rw [if_neg (by rw [decide_eq_true_eq]; exact hk)]
      exact age h (by rw [← hn]; exact hk)
    ·by_cases h : 0 ≤ Lib.indexByte (a8 nm).2.2 99
     ·rw [if_pos (decide_eq_true h)]
      exact ⟨b3, ⟨by omega, by omega⟩, by show _ = _; rw [← hC, aac, if_pos h]⟩
     ·rw [if_neg (by rw [decide_eq_true_eq]; exact h)]
      show _ = _; rw [← hC, aac, if_neg h, List.append_nil]
   ·by_cases h : 0 ≤ Lib.indexByte (a8 nm).2.2 110
    ·rw [if_pos (decide_eq_true h)]
     exact ⟨b2, ⟨by omega, by omega⟩, by show _ = _; rw [← hC, aab, if_pos h]⟩
    ·rw [if_neg (by rw [decide_eq_true_eq]; exact h)]
     show _ = _; rw [← hC, aab, if_neg h, List.append_nil]
  ·by_cases h : ou = []
   ·rw [if_neg (by simp [h])]
    show _ = _; rw [← hC, y8, if_pos h, List.append_nil]
   ·rw [if_pos (by simp [h])]
    exact ⟨⟨by simp, by simp⟩, by show _ = _; rw [← hC, y8, if_neg h]⟩
 ·rintro o (⟨w, v, rfl, rfl⟩ | h)
  ·exact ⟨w, rfl⟩
  ·cases h
theorem ac6 {nm : Bs} (h : u2 nm = true) : (0 ≤ Lib.indexByte (a8 nm).2.2 110 ↔ nm = [119, 111, 114, 100, 115]) ∧ (0 ≤ Lib.indexByte (a8 nm).2.2 99 ↔ nm = [115, 116, 114, 101, 97, 109]) := by
 obtain ⟨h1, h2⟩ := adw h
 have := (by decide : ∀ s ∈ shapes, (0 ≤ Lib.indexByte s.2.2 110 ↔ s.1 = [119, 111, 114, 100, 115]) ∧ (0 ≤ Lib.indexByte s.2.2 99 ↔ s.1 = [115, 116, 114, 101, 97, 109])) _ h1
 rw [h2] at this
 exact this
theorem amg {x : UInt8} (h : x ∈ ([108, 118, 115, 97, 100, 116] : Bs)) : (z7 x = abe ↔ x = 108) ∧ (z7 x = adh ↔ x = 118) ∧ (z7 x = y4 ↔ x = 115) ∧ (z7 x = ad5 ↔ x = 116) ∧ (z7 x = fAt ↔ x = 97) := by
 exact (by decide : ∀ x ∈ ([108, 118, 115, 97, 100, 116] : Bs), (z7 x = abe ↔ x = 108) ∧ (z7 x = adh ↔ x = 118) ∧ (z7 x = y4 ↔ x = 115) ∧ (z7 x = ad5 ↔ x = 116) ∧ (z7 x = fAt ↔ x = 97)) x h
theorem ahm (c : CmT) (hc : agx c) : j8 Tryd.prog 12 [.agg (cmL c).toArray] [] []
  (fun o => ∃ w, o = .ret w [HA.row w 9 1 (b7 c).length ((b7 c).flatMap j3)]) := by
 obtain ⟨nm, le, vi, so, ou, bu, co, ch, a, d, te'⟩ := c
 refine (ake nm le vi so ou bu co ch a d te' (fun v => v = b7 (nm, le, vi, so, ou, bu, co, ch, a, d, te')) ?_).weak ?_
 ·obtain ⟨hcm, b1, b2, b3, b4, b5⟩ := hc
  have hcm : u2 nm = true := hcm
  obtain ⟨n1, n2⟩ := ac6 hcm
  obtain ⟨o1, o2, _⟩ := afz hcm
  have olen : (m1 nm).length = (a8 nm).2.1.length := by rw [o1, List.length_map]
  generalize hC : (nm, le, vi, so, ou, bu, co, ch, a, d, te') = c
  have hl := abt c
  unfold aen
  refine ⟨b1, fun l => l = aej c, fun l h => ?_, ?_⟩
  ·subst h
   refine ⟨fun l => l = adx c, fun l h => ?_, ?_⟩
   ·subst h
    refine ⟨fun l => l = afl c, fun l h => ?_, ?_⟩
    ·subst h
     refine ⟨⟨by omega, by omega⟩, ahz c, fun k _ => ((a8 c.1).2.1.length - k).toNat, ⟨by omega, by omega, by rw [show (0 : Int).toNat = 0 from rfl, List.take_zero, List.flatMap_nil, List.append_nil]⟩, fun k l h => ?_⟩
     have hn : nm = c.1 := by rw [← hC]
     have hs := aag nm
     have hlen := agj h
     have hk0 := h.1
     by_cases hk : k < ((a8 nm).2.1.length : Int)
     ·rw [if_pos (by rw [decide_eq_true_eq]; omega)]
      have hst := afe h (by rw [← hn]; exact hk)
      rw [← hn] at hst
      have hx : (m1 nm).getD k.toNat default = z7 ((a8 nm).2.1.getD k.toNat 0) := by
       rw [o1, List.getD_eq_getElem?_getD, List.getD_eq_getElem?_getD, List.getElem?_map, List.getElem?_eq_getElem (by omega)]
       rfl
      have hxm : (a8 nm).2.1.getD k.toNat 0 ∈ ([108, 118, 115, 97, 100, 116] : Bs) := by
       rw [List.getD_eq_getElem?_getD, List.getElem?_eq_getElem (by omega)]
       exact o2 _ (List.getElem_mem _)
      rw [hx]
      obtain ⟨f1, f2, f3, f4, f5⟩ := amg hxm
      refine ⟨fun l2 => ahz c (k + 1) l2, fun l2 h2 => ⟨by unfold I64; omega, h2, by dsimp only; rw [← hn]; omega⟩, ⟨hk0, by omega⟩, ?_⟩
      simp only [decide_eq_true_eq]
      generalize (a8 nm).2.1.getD k.toNat 0 = x at hst hxm f1 f2 f3 f4 f5 ⊢
      rw [← hC] at hst
      rw [adt, hC] at hst
      simp only [show ([76, 101, 110, 115] : Bs) = abe from rfl, show ([86, 105, 101, 119] : Bs) = adh from rfl, show ([83, 111, 117, 114, 99, 101] : Bs) = y4 from rfl, show ([84, 101, 120, 116] : Bs) = ad5 from rfl, show ([65, 116] : Bs) = fAt from rfl, f1, f2, f3, f4, f5]
      by_cases g1 : x = 108
      ·rw [if_pos g1] at hst ⊢; exact ⟨⟨by omega, by omega⟩, hst⟩
      rw [if_neg g1] at hst ⊢
      by_cases g2 : x = 118
      ·rw [if_pos g2] at hst ⊢; exact ⟨⟨by omega, by omega⟩, hst⟩
      rw [if_neg g2] at hst ⊢
      by_cases g3 : x = 115
      ·rw [if_pos g3] at hst ⊢; exact ⟨⟨by omega, by omega⟩, hst⟩
      rw [if_neg g3] at hst ⊢
      by_cases g4 : x = 116
      ·rw [if_pos g4] at hst ⊢; exact ⟨⟨by omega, by omega⟩, hst⟩
      rw [if_neg g4] at hst ⊢
      by_cases g5 : x = 97
      ·rw [if_pos g5] at hst ⊢; exact ⟨b4, ⟨by omega, by omega⟩, hst⟩
      rw [if_neg g5] at hst ⊢
      have g6 : x = 100 := by
       simp only [List.mem_cons, List.mem_nil_iff, or_false, g1, g2, g3, g4, g5, false_or] at hxm
       exact hxm
      rw [if_pos g6] at hst
      exact ⟨b5, ⟨by omega, by omega⟩, hst⟩
     ·rw [if_neg (by rw [decide_eq_true_eq]; omega)]
      exact age h (by rw [← hn]; exact hk)
    ·by_cases h : nm = [115, 116, 114, 101, 97, 109]
     ·rw [if_pos (decide_eq_true h)]
      exact ⟨b3, ⟨by omega, by omega⟩, by show _ = _; rw [← hC, aac, if_pos (n2.2 h)]⟩
     ·rw [if_neg (by rw [decide_eq_true_eq]; exact h)]
      show _ = _; rw [← hC, aac, if_neg (fun q => h (n2.1 q)), List.append_nil]
   ·by_cases h : nm = [119, 111, 114, 100, 115]
    ·rw [if_pos (decide_eq_true h)]
     exact ⟨b2, ⟨by omega, by omega⟩, by show _ = _; rw [← hC, aab, if_pos (n1.2 h)]⟩
    ·rw [if_neg (by rw [decide_eq_true_eq]; exact h)]
     show _ = _; rw [← hC, aab, if_neg (fun q => h (n1.1 q)), List.append_nil]
  ·by_cases h : ou = []
   ·rw [if_neg (by simp [h])]
    show _ = _; rw [← hC, y8, if_pos h, List.append_nil]
   ·rw [if_pos (by simp [h])]
    exact ⟨⟨by simp, by simp⟩, by show _ = _; rw [← hC, y8, if_neg h]⟩
 ·rintro o (⟨w, v, rfl, rfl⟩ | h)
  ·exact ⟨w, rfl⟩
  ·cases h
def ac3 (argv : List (List UInt8)) (K : Bool → Prop) : Prop :=
 (((([] : List (List UInt8)).length + argv.length) + (([] : List (List UInt8)).length + argv.length) / 4 + 192) * 16 ≤ 281474976710656 ∧ ([] : List (List UInt8)).length + argv.length ≤ 9223372036854775807) ∧
 (AvB argv) ∧
 (AvB argv) ∧
 (if ((o8 [decide ((m4 argv).1 = 0), decide ((m4 argv).2.1 = 0), decide ((m4 argv).2.2 = [])]) == (aat argv)) = true then
  K false
 else
  (if (aat argv) = true then
   K true
  else
   (agx (b6 argv)) ∧
   (
    (agx (b6 argv)) ∧
    (
     (agx (b6 argv)) ∧
     (
      (AvB (b7 (b6 argv)) ∧ AvB (b7 (b6 argv))) ∧
      ((!(decide ((b7 (b6 argv)) = (b7 (b6 argv))))) = false → (AvB (b7 (b6 argv)) ∧ AvB (b7 (b6 argv)))) ∧
      (if ((!(decide ((b7 (b6 argv)) = (b7 (b6 argv))))) || (!(decide ((b7 (b6 argv)) = (b7 (b6 argv)))))) = true then
       K false
      else
       ∃ (Inv : Int → (List (List UInt8)) → Prop) (mu : Int → (List (List UInt8)) → Nat),
        Inv 0 (b7 (b6 argv)) ∧ ∀ (i_1' : Int) (l_1' : List (List UInt8)), Inv i_1' l_1' →
         (if (decide (i_1' < (l_1'.length : Int))) = true then
          (0 ≤ i_1' ∧ i_1' < (l_1'.length : Int)) ∧
          (I64 (i_1' + 1)) ∧
          Inv (i_1' + 1) (l_1'.set ((i_1').toNat) ([115, 112, 111, 105, 108, 116] : List UInt8)) ∧ mu (i_1' + 1) (l_1'.set ((i_1').toNat) ([115, 112, 111, 105, 108, 116] : List UInt8)) < mu i_1' l_1'
         else
          (agx (b6 argv)) ∧
          (
           (AvB (b7 (b6 argv))) ∧
           (AvB (b7 (b6 argv)) ∧ AvB (b7 (b6 argv))) ∧
           ((decide ((b7 (b6 argv)) = (b7 (b6 argv)))) = true → (AvB (b7 (b6 argv)) ∧ AvB (b7 (b6 argv)))) ∧
           K ((((decide ((b7 (b6 argv)) = (b7 (b6 argv)))) && (decide ((b7 (b6 argv)) = (b7 (b6 argv))))) && (o8 [decide ((m4 (b7 (b6 argv))).1 = 0), decide ((m4 (b7 (b6 argv))).2.1 = 0), decide ((m4 (b7 (b6 argv))).2.2 = [])])) && (o8 [decide ((b6 (b7 (b6 argv))).1 = (b6 argv).1), decide ((b6 (b7 (b6 argv))).2.1 = (b6 argv).2.1), decide ((b6 (b7 (b6 argv))).2.2.1 = (b6 argv).2.2.1), decide ((b6 (b7 (b6 argv))).2.2.2.1 = (b6 argv).2.2.2.1), decide ((b6 (b7 (b6 argv))).2.2.2.2.1 = (b6 argv).2.2.2.2.1), decide ((b6 (b7 (b6 argv))).2.2.2.2.2.1 = (b6 argv).2.2.2.2.2.1), decide ((b6 (b7 (b6 argv))).2.2.2.2.2.2.1 = (b6 argv).2.2.2.2.2.2.1), decide ((b6 (b7 (b6 argv))).2.2.2.2.2.2.2.1 = (b6 argv).2.2.2.2.2.2.2.1), decide ((b6 (b7 (b6 argv))).2.2.2.2.2.2.2.2.1 = (b6 argv).2.2.2.2.2.2.2.2.1), decide ((b6 (b7 (b6 argv))).2.2.2.2.2.2.2.2.2.1 = (b6 argv).2.2.2.2.2.2.2.2.2.1), decide ((b6 (b7 (b6 argv))).2.2.2.2.2.2.2.2.2.2 = (b6 argv).2.2.2.2.2.2.2.2.2.2)]))))))))))
theorem ai9 (w : Value) (te : TypeId) (fre : Nat × Nat) (te2 : TypeId) (fre2 : Nat × Nat) (argv : List (List UInt8)) (Ri1 : List (Nat × Obj)) (hRi1 : w8 w Ri1 argv.length (argv.flatMap j3)) (K : Bool → Prop) (h : ac3 argv K) :
  j8 Tryd.prog 5 [w] (Ri1 ++ [(0, .cells [st ([99, 104, 101, 99, 107] : List UInt8), st ([108] : List UInt8), st ([98] : List UInt8), st ([99, 111, 100, 101] : List UInt8), st ([108] : List UInt8), st ([98] : List UInt8), st ([119, 111, 114, 100, 115] : List UInt8), st ([108] : List UInt8), st ([98, 110] : List UInt8), st ([103, 101, 116] : List UInt8), st ([108, 115] : List UInt8), st ([98, 111] : List UInt8), st ([99, 97, 110, 111, 110] : List UInt8), st ([108, 115] : List UInt8), st ([98, 111] : List UInt8), st ([119, 104, 101, 114, 101] : List UInt8), st ([108, 115] : List UInt8), st ([98] : List UInt8), st ([115, 116, 114, 101, 97, 109] : List UInt8), st ([108, 115] : List UInt8), st ([98, 99] : List UInt8), st ([99, 114, 101, 97, 116, 101] : List UInt8), st ([108, 118] : List UInt8), st ([98, 111] : List UInt8), st ([112, 117, 116] : List UInt8), st ([108, 118, 115] : List UInt8), st ([98, 111] : List UInt8), st ([101, 100, 105, 116] : List UInt8), st ([108, 115, 97, 100, 116] : List UInt8), st ([98, 111] : List UInt8)].toArray te fre), (2, .cells [Value.int .u64 1, Value.int .u64 10, Value.int .u64 100, Value.int .u64 1000, Value.int .u64 10000, Value.int .u64 100000, Value.int .u64 1000000, Value.int .u64 10000000, Value.int .u64 100000000, Value.int .u64 1000000000, Value.int .u64 10000000000, Value.int .u64 100000000000, Value.int .u64 1000000000000, Value.int .u64 10000000000000, Value.int .u64 100000000000000, Value.int .u64 1000000000000000, Value.int .u64 10000000000000000, Value.int .u64 100000000000000000, Value.int .u64 1000000000000000000, Value.int .u64 10000000000000000000].toArray te2 fre2)]) [] (fun o => (∃ (v : Bool), K v ∧ o = .ret (zB v) []) ∨ (False)) := by
 unfold ac3 at h
 refine g9 (n := 88) (L0 := [(0, w)]) Tryd.func5 rfl rfl rfl rfl (fun w0 M Q hE => ?_)
 have hi1 : LIn ⟨88, [], w0, M, (Ri1 ++ [(0, .cells [st ([99, 104, 101, 99, 107] : List UInt8), st ([108] : List UInt8), st ([98] : List UInt8), st ([99, 111, 100, 101] : List UInt8), st ([108] : List UInt8), st ([98] : List UInt8), st ([119, 111, 114, 100, 115] : List UInt8), st ([108] : List UInt8), st ([98, 110] : List UInt8), st ([103, 101, 116] : List UInt8), st ([108, 115] : List UInt8), st ([98, 111] : List UInt8), st ([99, 97, 110, 111, 110] : List UInt8), st ([108, 115] : List UInt8), st ([98, 111] : List UInt8), st ([119, 104, 101, 114, 101] : List UInt8), st ([108, 115] : List UInt8), st ([98] : List UInt8), st ([115, 116, 114, 101, 97, 109] : List UInt8), st ([108, 115] : List UInt8), st ([98, 99] : List UInt8), st ([99, 114, 101, 97, 116, 101] : List UInt8), st ([108, 118] : List UInt8), st ([98, 111] : List UInt8), st ([112, 117, 116] : List UInt8), st ([108, 118, 115] : List UInt8), st ([98, 111] : List UInt8), st ([101, 100, 105, 116] : List UInt8), st ([108, 115, 97, 100, 116] : List UInt8), st ([98, 111] : List UInt8)].toArray te fre), (2, .cells [Value.int .u64 1, Value.int .u64 10, Value.int .u64 100, Value.int .u64 1000, Value.int .u64 10000, Value.int .u64 100000, Value.int .u64 1000000, Value.int .u64 10000000, Value.int .u64 100000000, Value.int .u64 1000000000, Value.int .u64 10000000000, Value.int .u64 100000000000, Value.int .u64 1000000000000, Value.int .u64 10000000000000, Value.int .u64 100000000000000, Value.int .u64 1000000000000000, Value.int .u64 10000000000000000, Value.int .u64 100000000000000000, Value.int .u64 1000000000000000000, Value.int .u64 10000000000000000000].toArray te2 fre2)])⟩ w argv.length (argv.flatMap j3) := LIn.mk hRi1 (fun p hp => by simp [hp])
 refine a7 (fun _ hK => ?_)
 refine a6 ?_
 refine wA ?_
 refine WL.nil ?_
 refine kg (hK [(0, w)] _ ?_)
 refine a7 (fun _ hK_1' => ?_)
 refine a7 (fun _ hK_2' => ?_)
 refine a6 ?_
 refine WL.call (A := []) alb rfl (ahd te fre) rfl ⟨.inr (List.mem_append_right _ (List.mem_of_getElem? (i := 0) rfl)), trivial⟩ rfl rfl ?_
 refine wv (OV.not rfl) ?_
 refine WL.nil ?_
 refine kg (hK_2' [(0, w), (17, zB false)] _ ?_)
 refine m5 rfl ?_
 refine b8 ?_
 refine kg (hK_1' [(0, w)] _ ?_)
 refine a7 (fun _ hK_3' => ?_)
 refine a6 ?_
 refine WL.make (MV.buildSlice0 f0) rfl rfl rfl (fun b => ?_)
 refine WL.asRow (f := j3) (ms := []) 0 rfl rfl rfl i6 rfl ?_
 refine wm ?_
 obtain ⟨o, h⟩ := h
 refine WL.appendIn (f := j3) (ms := argv) 0 rfl rfl hi1 rfl i6 (by decide) (fun x => rfl) f0 m9 rfl o rfl rfl (fun w_1' => ?_)
 obtain ⟨o_1', h⟩ := h
 refine WL.call1 (A := []) ad3 rfl (acq te fre w_1' argv o_1') rfl (LOk.row 0 rfl) ⟨.inr (List.mem_append_right _ (List.mem_of_getElem? (i := 0) rfl)), trivial⟩ rfl rfl ?_
 refine wm ?_
 refine wv (OV.extract 0 rfl rfl) ?_
 refine wv (OV.extract 1 rfl rfl) ?_
 refine WL.make (MV.alloc aa1) rfl rfl rfl (fun b_1' => ?_)
 refine WL.make (MV.alloc aa5) rfl rfl rfl (fun b_2' => ?_)
 refine WL.storeW (vs := [st ((b6 argv).1), st ((b6 argv).2.1), st ((b6 argv).2.2.1), st ((b6 argv).2.2.2.1), st ((b6 argv).2.2.2.2.1), zI ((b6 argv).2.2.2.2.2.1), zI ((b6 argv).2.2.2.2.2.2.1), zI ((b6 argv).2.2.2.2.2.2.2.1), zI ((b6 argv).2.2.2.2.2.2.2.2.1), zI ((b6 argv).2.2.2.2.2.2.2.2.2.1), st ((b6 argv).2.2.2.2.2.2.2.2.2.2)]) 1 rfl rfl rfl rfl rfl y7 rfl rfl rfl ?_
 refine WL.storeW (vs := [zI ((m4 argv).1), zI ((m4 argv).2.1), st ((m4 argv).2.2)]) 0 rfl rfl rfl rfl rfl y9 rfl rfl rfl ?_
 refine WL.nil ?_
 refine kg (hK_3' [(0, w), (3, zP b_1'), (4, zP b_2')] _ ?_)
 refine a7 (fun _ hK_4' => ?_)
 refine a6 ?_
 refine wm ?_
 obtain ⟨o_2', h⟩ := h
 refine WL.call1 (A := []) akr rfl (ag3 w argv o_2') rfl (LOk.inn hi1) trivial rfl rfl ?_
 refine wm ?_
 refine wv (OV.extract 0 rfl rfl) ?_
 refine wv (OV.extract 1 rfl rfl) ?_
 refine wv (OV.extract 2 rfl rfl) ?_
 refine wv (OV.extract 3 rfl rfl) ?_
 refine WL.make (MV.alloc aa3) rfl rfl rfl (fun b_3' => ?_)
 refine WL.storeW (vs := [st ((b6 argv).1), st ((b6 argv).2.1), st ((b6 argv).2.2.1), st ((b6 argv).2.2.2.1), st ((b6 argv).2.2.2.2.1), zI ((b6 argv).2.2.2.2.2.1), zI ((b6 argv).2.2.2.2.2.2.1), zI ((b6 argv).2.2.2.2.2.2.2.1), zI ((b6 argv).2.2.2.2.2.2.2.2.1), zI ((b6 argv).2.2.2.2.2.2.2.2.2.1), st ((b6 argv).2.2.2.2.2.2.2.2.2.2)]) 0 rfl rfl rfl rfl rfl p4 rfl rfl rfl ?_
 refine wA ?_
 refine wA ?_
 refine wA ?_
 refine WL.nil ?_
 refine kg (hK_4' [(3, zP b_1'), (4, zP b_2'), (5, zP b_3'), (6, zB (aat argv))] _ ?_)
 refine a7 (fun _ hK_5' => ?_)
 refine a7 (fun _ hK_6' => ?_)
 refine a6 ?_
 refine wv (OV.loadR rfl (At.own 1 rfl) aar) ?_
 refine wv (OV.build rfl (cs := [zI 0, zI 0, st []]) rfl) ?_
 refine wv (OV.eqlF (rs := [decide ((m4 argv).1 = 0), decide ((m4 argv).2.1 = 0), decide ((m4 argv).2.2 = [])]) rfl rfl Tryd.underlying28 abc ac5 ⟨rfl, acg, ⟨_, _, rfl, rfl, m7.int Tryd.underlying26⟩, ⟨rfl, g8, ⟨_, _, rfl, rfl, m7.int Tryd.underlying3⟩, ⟨rfl, f7, ⟨_, _, rfl, rfl, m7.str Tryd.underlying9⟩, trivial⟩⟩⟩) ?_
 refine wm ?_
 refine wv (OV.eqlB rfl rfl Tryd.underlying4) ?_
 refine WL.nil ?_
 refine kg (hK_6' [(3, zP b_1'), (5, zP b_3'), (6, zB (aat argv)), (36, zB ((o8 [decide ((m4 argv).1 = 0), decide ((m4 argv).2.1 = 0), decide ((m4 argv).2.2 = [])]) == (aat argv)))] _ ?_)
 refine b9 (b := (o8 [decide ((m4 argv).1 = 0), decide ((m4 argv).2.1 = 0), decide ((m4 argv).2.2 = [])]) == (aat argv)) rfl (fun hb => ?_) (fun hb => ?_)
 ·replace h := j6 h hb
  refine a7 (fun _ hK_7' => ?_)
  refine a6 ?_
  refine wA ?_
  refine WL.nil ?_
  refine kg (hK_7' [(2, zB false)] _ ?_)
  refine g7 ?_
  exact hE.ret [] rfl rfl (.inl ⟨_, h, rfl⟩) (l7.of1 rfl (RV.tmp rfl))
 ·replace h := j5 h hb
  refine b8 ?_
  refine kg (hK_5' [(3, zP b_1'), (5, zP b_3'), (6, zB (aat argv))] _ ?_)
  refine a7 (fun _ hK_8' => ?_)
  refine a7 (fun _ hK_9' => ?_)
  refine a6 ?_
  refine wm ?_
  refine WL.nil ?_
  refine kg (hK_9' [(3, zP b_1'), (5, zP b_3'), (37, zB (aat argv))] _ ?_)
  refine b9 (b := aat argv) rfl (fun hb => ?_) (fun hb => ?_)
  ·replace h := j6 h hb
   refine a7 (fun _ hK_10' => ?_)
   refine a6 ?_
   refine wA ?_
   refine WL.nil ?_
   refine kg (hK_10' [(2, zB true)] _ ?_)
   refine g7 ?_
   exact hE.ret [] rfl rfl (.inl ⟨_, h, rfl⟩) (l7.of1 rfl (RV.tmp rfl))
  ·replace h := j5 h hb
   refine b8 ?_
   refine kg (hK_8' [(3, zP b_1'), (5, zP b_3')] _ ?_)
   refine a7 (fun _ hK_11' => ?_)
   refine a6 ?_
   refine wv (OV.loadR rfl (At.own 0 rfl) m2) ?_
   obtain ⟨o_3', h⟩ := h
   refine WL.callS ajk rfl (ahm (b6 argv) o_3') rfl trivial rfl rfl (fun r H' hS => ?_) (fun c H' hS => ?_)
   ·obtain ⟨w_2', ho⟩ := hS
    obtain ⟨hr1, hr2⟩ := Out.ret.inj ho
    subst hr2
    replace hr1 := hr1.symm
    subst hr1
    refine wA ?_
    refine WL.nil ?_
    refine kg (hK_11' [(3, zP b_1'), (9, w_2')] _ ?_)
    refine a7 (fun _ hK_12' => ?_)
    refine aj8 [0, 2] [1, 3, 4, 5] [0, 1, 2, 3, 4] [HA.row w_2' 9 1 (b7 (b6 argv)).length ((b7 (b6 argv)).flatMap j3), HA.blk b_3' (.cells [st ((b6 argv).1), st ((b6 argv).2.1), st ((b6 argv).2.2.1), st ((b6 argv).2.2.2.1), st ((b6 argv).2.2.2.2.1), zI ((b6 argv).2.2.2.2.2.1), zI ((b6 argv).2.2.2.2.2.2.1), zI ((b6 argv).2.2.2.2.2.2.2.1), zI ((b6 argv).2.2.2.2.2.2.2.2.1), zI ((b6 argv).2.2.2.2.2.2.2.2.2.1), st ((b6 argv).2.2.2.2.2.2.2.2.2.2)].toArray 31 (0, 0)), HA.blk b_2' (.cells [zI ((m4 argv).1), zI ((m4 argv).2.1), st ((m4 argv).2.2)].toArray 28 (0, 0)), HA.blk b_1' (.cells [st ((b6 argv).1), st ((b6 argv).2.1), st ((b6 argv).2.2.1), st ((b6 argv).2.2.2.1), st ((b6 argv).2.2.2.2.1), zI ((b6 argv).2.2.2.2.2.1), zI ((b6 argv).2.2.2.2.2.2.1), zI ((b6 argv).2.2.2.2.2.2.2.1), zI ((b6 argv).2.2.2.2.2.2.2.2.1), zI ((b6 argv).2.2.2.2.2.2.2.2.2.1), st ((b6 argv).2.2.2.2.2.2.2.2.2.2)].toArray 25 (0, 0)), HA.row w_1' 9 1 argv.length (argv.flatMap j3)] rfl rfl r5 (by kernel_rfl) (fun T hT => ?_)
    refine TW.val (OV.loadR rfl (At.own 3 rfl) v8) rfl rfl rfl ?_
    refine TW.val (OV.loadR rfl (At.own 3 rfl) v8) rfl rfl rfl ?_
    refine TW.nil (hT _ ?_)
    obtain ⟨o_4', h⟩ := h
    refine WLX.callS [0, 1, 2, 3, 4] rfl (EN.fn ac7 rfl) rfl (acx te fre te2 fre2 (b6 argv) o_4') rfl rfl ⟨.inr (List.mem_append_right _ (List.mem_of_getElem? (i := 0) rfl)), ⟨.inr (List.mem_append_right _ (List.mem_of_getElem? (i := 1) rfl)), trivial⟩⟩ rfl rfl (fun r H' hS => ?_) (fun c H' hS => ?_)
    ·obtain ⟨w_3', ho⟩ := hS
     obtain ⟨hr1, hr2⟩ := Out.ret.inj ho
     subst hr2
     replace hr1 := hr1.symm
     subst hr1
     obtain ⟨o_5', h⟩ := h
     refine WLX.callS [1, 2, 3, 4, 5] rfl (EN.fn ac7 rfl) rfl (acx te fre te2 fre2 (b6 argv) o_5') rfl rfl ⟨.inr (List.mem_append_right _ (List.mem_of_getElem? (i := 0) rfl)), ⟨.inr (List.mem_append_right _ (List.mem_of_getElem? (i := 1) rfl)), trivial⟩⟩ rfl rfl (fun r H' hS => ?_) (fun c H' hS => ?_)
     ·obtain ⟨w_4', ho⟩ := hS
      obtain ⟨hr1, hr2⟩ := Out.ret.inj ho
      subst hr2
      replace hr1 := hr1.symm
      subst hr1
      refine WLX.op [2, 3, 4, 5, 6] rfl rfl (OpK.val (OV.assign rfl) rfl rfl) rfl ?_
      refine WLX.opZ (OpK.val (OV.assign rfl) rfl rfl) rfl ?_
      refine WLX.nil ?_
      refine kg (hK_12' [(3, zP b_1'), (9, w_2'), (10, w_3'), (11, w_4')] _ ?_)
      refine a7 (fun _ hK_13' => ?_)
      refine a7 (fun _ hK_14' => ?_)
      refine a6 ?_
      refine wm ?_
      refine wm ?_
      obtain ⟨o_6', h⟩ := h
      refine WL.call2 (A := []) acv rfl (aa7 w_3' (b7 (b6 argv)) w_2' (b7 (b6 argv)) o_6') rfl (LOk.row 1 rfl) (LOk.row 2 rfl) trivial rfl rfl ?_
      refine wv (OV.not rfl) ?_
      refine wm ?_
      obtain ⟨o_8', h⟩ := h
      refine WL.cut 5 [(3, zP b_1'), (9, w_2'), (10, w_3'), (11, w_4'), (53, zB ((!(decide ((b7 (b6 argv)) = (b7 (b6 argv))))) || (!(decide ((b7 (b6 argv)) = (b7 (b6 argv)))))))] ?_ (fun K0_15' hK_15' => ?_)
      rotate_left
      ·refine WL.split (!(decide ((b7 (b6 argv)) = (b7 (b6 argv))))) (fun hb => ?_) (fun hb => ?_)
       ·refine WL.set 48 rfl (congrArg zB hb) ?_
        refine wk ?_
        refine wk ?_
        refine wk ?_
        refine wk ?_
        refine wv (OV.pickT rfl rfl) ?_
        refine WL.set 53 rfl (oT (v := !(decide ((b7 (b6 argv)) = (b7 (b6 argv))))) hb) ?_
        exact WL.end_ (kg hK_15')
       ·have o_7' := o_8' hb
        refine WL.set 48 rfl (congrArg zB hb) ?_
        refine wm ?_
        refine wm ?_
        refine WL.call2 (A := []) acv rfl (aa7 w_4' (b7 (b6 argv)) w_2' (b7 (b6 argv)) o_7') rfl (LOk.row 0 rfl) (LOk.row 2 rfl) trivial rfl rfl ?_
        refine wv (OV.not rfl) ?_
        refine wv (OV.pickF rfl rfl) ?_
        refine WL.set 53 rfl (oF (v := !(decide ((b7 (b6 argv)) = (b7 (b6 argv))))) hb) ?_
        exact WL.end_ (kg hK_15')
      refine WL.nil ?_
      refine kg (hK_14' [(3, zP b_1'), (9, w_2'), (10, w_3'), (11, w_4'), (53, zB ((!(decide ((b7 (b6 argv)) = (b7 (b6 argv))))) || (!(decide ((b7 (b6 argv)) = (b7 (b6 argv)))))))] _ ?_)
      refine b9 (b := (!(decide ((b7 (b6 argv)) = (b7 (b6 argv))))) || (!(decide ((b7 (b6 argv)) = (b7 (b6 argv)))))) rfl (fun hb => ?_) (fun hb => ?_)
      ·replace h := j6 h hb
       refine a7 (fun _ hK_16' => ?_)
       refine a6 ?_
       refine wA ?_
       refine WL.nil ?_
       refine kg (hK_16' [(2, zB false)] _ ?_)
       refine g7 ?_
       exact hE.ret [] rfl rfl (.inl ⟨_, h, rfl⟩) (l7.of1 rfl (RV.tmp rfl))
      ·replace h := j5 h hb
       refine b8 ?_
       refine kg (hK_13' [(3, zP b_1'), (9, w_2'), (10, w_3'), (11, w_4')] _ ?_)
       refine a7 (fun _ hK_17' => ?_)
       refine a7 (fun _ hK_18' => ?_)
       refine a6 ?_
       refine wA ?_
       refine WL.nil ?_
       refine kg (hK_18' [(3, zP b_1'), (9, w_2'), (10, w_3'), (11, w_4'), (12, zI 0)] _ ?_)
       refine f9 ?_
       refine WC.pick (H' := [HA.row w_4' 9 1 (b7 (b6 argv)).length ((b7 (b6 argv)).flatMap j3), HA.row w_3' 9 1 (b7 (b6 argv)).length ((b7 (b6 argv)).flatMap j3), HA.row w_2' 9 1 (b7 (b6 argv)).length ((b7 (b6 argv)).flatMap j3), HA.blk b_1' (.cells [st ((b6 argv).1), st ((b6 argv).2.1), st ((b6 argv).2.2.1), st ((b6 argv).2.2.2.1), st ((b6 argv).2.2.2.2.1), zI ((b6 argv).2.2.2.2.2.1), zI ((b6 argv).2.2.2.2.2.2.1), zI ((b6 argv).2.2.2.2.2.2.2.1), zI ((b6 argv).2.2.2.2.2.2.2.2.1), zI ((b6 argv).2.2.2.2.2.2.2.2.2.1), st ((b6 argv).2.2.2.2.2.2.2.2.2.2)].toArray 25 (0, 0))]) [0, 1, 2, 5] rfl rfl ?_
       obtain ⟨Inv, mu, h0, hr⟩ := h
       refine x1 (S := Int × (List (List UInt8))) (fun σ => Inv σ.1 σ.2) (fun σ => mu σ.1 σ.2) (fun σ => [(3, zP b_1'), (9, w_2'), (10, w_3'), (11, w_4'), (12, zI σ.1)]) (fun σ => [HA.row w_4' 9 1 (b7 (b6 argv)).length ((b7 (b6 argv)).flatMap j3), HA.row w_3' 9 1 σ.2.length (σ.2.flatMap j3), HA.row w_2' 9 1 (b7 (b6 argv)).length ((b7 (b6 argv)).flatMap j3), HA.blk b_1' (.cells [st ((b6 argv).1), st ((b6 argv).2.1), st ((b6 argv).2.2.1), st ((b6 argv).2.2.2.1), st ((b6 argv).2.2.2.2.1), zI ((b6 argv).2.2.2.2.2.1), zI ((b6 argv).2.2.2.2.2.2.1), zI ((b6 argv).2.2.2.2.2.2.2.1), zI ((b6 argv).2.2.2.2.2.2.2.2.1), zI ((b6 argv).2.2.2.2.2.2.2.2.2.1), st ((b6 argv).2.2.2.2.2.2.2.2.2.2)].toArray 25 (0, 0))]) (0, b7 (b6 argv)) h0 ⟨rfl, rfl, rfl, rfl, rfl, trivial⟩ rfl ?_
       rintro ⟨i_1', l_1'⟩ hi K0_25' hK_25'
       have h := hr i_1' l_1' hi
       show WC _ _ _ _ [(3, zP b_1'), (9, w_2'), (10, w_3'), (11, w_4'), (12, zI i_1')] [HA.row w_4' 9 1 (b7 (b6 argv)).length ((b7 (b6 argv)).flatMap j3), HA.row w_3' 9 1 l_1'.length (l_1'.flatMap j3), HA.row w_2' 9 1 (b7 (b6 argv)).length ((b7 (b6 argv)).flatMap j3), HA.blk b_1' (.cells [st ((b6 argv).1), st ((b6 argv).2.1), st ((b6 argv).2.2.1), st ((b6 argv).2.2.2.1), st ((b6 argv).2.2.2.2.1), zI ((b6 argv).2.2.2.2.2.1), zI ((b6 argv).2.2.2.2.2.2.1), zI ((b6 argv).2.2.2.2.2.2.2.1), zI ((b6 argv).2.2.2.2.2.2.2.2.1), zI ((b6 argv).2.2.2.2.2.2.2.2.2.1), st ((b6 argv).2.2.2.2.2.2.2.2.2.2)].toArray 25 (0, 0))]
       refine a7 (fun _ hK_26' => ?_)
       refine a7 (fun _ hK_27' => ?_)
       refine a6 ?_
       refine wm ?_
       refine wm ?_
       refine wv (OV.lenRow 1 rfl rfl f0) ?_
       refine wv (OV.lss rfl rfl) ?_
       refine WL.nil ?_
       refine kg (hK_27' [(3, zP b_1'), (9, w_2'), (10, w_3'), (11, w_4'), (12, zI i_1'), (57, zB (decide (i_1' < (l_1'.length : Int))))] _ ?_)
       refine b9 (b := decide (i_1' < (l_1'.length : Int))) rfl (fun hb => ?_) (fun hb => ?_)
       ·replace h := j6 h hb
        refine b8 ?_
        refine kg (hK_26' [(3, zP b_1'), (9, w_2'), (10, w_3'), (11, w_4'), (12, zI i_1')] _ ?_)
        refine a7 (fun _ hK_28' => ?_)
        refine f9 ?_
        refine a6 ?_
        refine wm ?_
        refine wm ?_
        obtain ⟨o_12', h⟩ := h
        refine wv (OV.indexRow 1 rfl rfl rfl f0 o_12') ?_
        refine WL.storeE (f := j3) (z := ([115, 112, 111, 105, 108, 116] : List UInt8)) 1 rfl rfl rfl i6 (by decide) (by omega) rfl r3 rfl rfl ?_
        refine WL.nil ?_
        refine kg (hK_28' [(3, zP b_1'), (9, w_2'), (10, w_3'), (11, w_4'), (12, zI i_1')] _ ?_)
        refine a6 ?_
        refine wm ?_
        obtain ⟨o_13', h⟩ := h
        refine wv (OV.add rfl rfl o_13') ?_
        refine wA ?_
        refine WL.nil ?_
        exact kh (hK_25' (i_1' + 1, l_1'.set ((i_1').toNat) ([115, 112, 111, 105, 108, 116] : List UInt8)) h.1 h.2) [0, 1, 2, 3]
       ·replace h := j5 h hb
        refine s8 ?_
        refine kg (hK_17' [(3, zP b_1'), (9, w_2'), (11, w_4')] _ ?_)
        refine a7 (fun _ hK_29' => ?_)
        refine a6 ?_
        refine wv (OV.loadR rfl (At.own 3 rfl) v8) ?_
        obtain ⟨o_14', h⟩ := h
        refine WL.callS ac7 rfl (acx te fre te2 fre2 (b6 argv) o_14') rfl ⟨.inr (List.mem_append_right _ (List.mem_of_getElem? (i := 0) rfl)), ⟨.inr (List.mem_append_right _ (List.mem_of_getElem? (i := 1) rfl)), trivial⟩⟩ rfl rfl (fun r H' hS => ?_) (fun c H' hS => ?_)
        ·obtain ⟨w_5', ho⟩ := hS
         obtain ⟨hr1, hr2⟩ := Out.ret.inj ho
         subst hr2
         replace hr1 := hr1.symm
         subst hr1
         refine wA ?_
         refine WL.nil ?_
         refine kg (hK_29' [(3, zP b_1'), (9, w_2'), (11, w_4'), (13, w_5')] _ ?_)
         refine a7 (fun _ hK_30' => ?_)
         refine a6 ?_
         refine wm ?_
         obtain ⟨o_15', h⟩ := h
         refine WL.call1 (A := []) ad3 rfl (acq te fre w_5' (b7 (b6 argv)) o_15') rfl (LOk.row 0 rfl) ⟨.inr (List.mem_append_right _ (List.mem_of_getElem? (i := 0) rfl)), trivial⟩ rfl rfl ?_
         refine wm ?_
         refine wv (OV.extract 0 rfl rfl) ?_
         refine wv (OV.extract 1 rfl rfl) ?_
         refine WL.make (MV.alloc aa1) rfl rfl rfl (fun b_4' => ?_)
         refine WL.make (MV.alloc aa5) rfl rfl rfl (fun b_5' => ?_)
         refine WL.storeW (vs := [st ((b6 (b7 (b6 argv))).1), st ((b6 (b7 (b6 argv))).2.1), st ((b6 (b7 (b6 argv))).2.2.1), st ((b6 (b7 (b6 argv))).2.2.2.1), st ((b6 (b7 (b6 argv))).2.2.2.2.1), zI ((b6 (b7 (b6 argv))).2.2.2.2.2.1), zI ((b6 (b7 (b6 argv))).2.2.2.2.2.2.1), zI ((b6 (b7 (b6 argv))).2.2.2.2.2.2.2.1), zI ((b6 (b7 (b6 argv))).2.2.2.2.2.2.2.2.1), zI ((b6 (b7 (b6 argv))).2.2.2.2.2.2.2.2.2.1), st ((b6 (b7 (b6 argv))).2.2.2.2.2.2.2.2.2.2)]) 1 rfl rfl rfl rfl rfl y7 rfl rfl rfl ?_
         refine WL.storeW (vs := [zI ((m4 (b7 (b6 argv))).1), zI ((m4 (b7 (b6 argv))).2.1), st ((m4 (b7 (b6 argv))).2.2)]) 0 rfl rfl rfl rfl rfl y9 rfl rfl rfl ?_
         refine WL.nil ?_
         refine kg (hK_30' [(3, zP b_1'), (9, w_2'), (11, w_4'), (13, w_5'), (14, zP b_4'), (15, zP b_5')] _ ?_)
         refine a7 (fun _ hK_31' => ?_)
         refine a6 ?_
         refine wm ?_
         refine wm ?_
         obtain ⟨o_16', h⟩ := h
         refine WL.call2 (A := []) acv rfl (aa7 w_4' (b7 (b6 argv)) w_2' (b7 (b6 argv)) o_16') rfl (LOk.row 3 rfl) (LOk.row 5 rfl) trivial rfl rfl ?_
         refine wm ?_
         obtain ⟨o_18', h⟩ := h
         refine WL.cut 4 [(3, zP b_1'), (14, zP b_4'), (15, zP b_5'), (77, zB ((decide ((b7 (b6 argv)) = (b7 (b6 argv)))) && (decide ((b7 (b6 argv)) = (b7 (b6 argv))))))] ?_ (fun K0_32' hK_32' => ?_)
         rotate_left
         ·refine WL.split (decide ((b7 (b6 argv)) = (b7 (b6 argv)))) (fun hb => ?_) (fun hb => ?_)
          ·have o_17' := o_18' hb
           refine WL.set 73 rfl (congrArg zB hb) ?_
           refine wm ?_
           refine wm ?_
           refine WL.call2 (A := []) acv rfl (aa7 w_5' (b7 (b6 argv)) w_2' (b7 (b6 argv)) o_17') rfl (LOk.row 2 rfl) (LOk.row 5 rfl) trivial rfl rfl ?_
           refine wv (OV.pickT rfl rfl) ?_
           refine WL.set 77 rfl (bT (v := decide ((b7 (b6 argv)) = (b7 (b6 argv)))) hb) ?_
           exact WL.end_ (kg hK_32')
          ·refine WL.set 73 rfl (congrArg zB hb) ?_
           refine wk ?_
           refine wk ?_
           refine wk ?_
           refine wv (OV.pickF rfl rfl) ?_
           refine WL.set 77 rfl (bF (v := decide ((b7 (b6 argv)) = (b7 (b6 argv)))) hb) ?_
           exact WL.end_ (kg hK_32')
         refine wm ?_
         refine WL.cut 4 [(3, zP b_1'), (14, zP b_4'), (82, zB (((decide ((b7 (b6 argv)) = (b7 (b6 argv)))) && (decide ((b7 (b6 argv)) = (b7 (b6 argv))))) && (o8 [decide ((m4 (b7 (b6 argv))).1 = 0), decide ((m4 (b7 (b6 argv))).2.1 = 0), decide ((m4 (b7 (b6 argv))).2.2 = [])])))] ?_ (fun K0_33' hK_33' => ?_)
         rotate_left
         ·refine WL.split ((decide ((b7 (b6 argv)) = (b7 (b6 argv)))) && (decide ((b7 (b6 argv)) = (b7 (b6 argv))))) (fun hb => ?_) (fun hb => ?_)
          ·refine WL.set 78 rfl (congrArg zB hb) ?_
           refine wv (OV.loadR rfl (At.own 0 rfl) aar) ?_
           refine wv (OV.build rfl (cs := [zI 0, zI 0, st []]) rfl) ?_
           refine wv (OV.eqlF (rs := [decide ((m4 (b7 (b6 argv))).1 = 0), decide ((m4 (b7 (b6 argv))).2.1 = 0), decide ((m4 (b7 (b6 argv))).2.2 = [])]) rfl rfl Tryd.underlying28 abc ac5 ⟨rfl, acg, ⟨_, _, rfl, rfl, m7.int Tryd.underlying26⟩, ⟨rfl, g8, ⟨_, _, rfl, rfl, m7.int Tryd.underlying3⟩, ⟨rfl, f7, ⟨_, _, rfl, rfl, m7.str Tryd.underlying9⟩, trivial⟩⟩⟩) ?_
           refine wv (OV.pickT rfl rfl) ?_
           refine WL.set 82 rfl (bT (v := o8 [decide ((m4 (b7 (b6 argv))).1 = 0), decide ((m4 (b7 (b6 argv))).2.1 = 0), decide ((m4 (b7 (b6 argv))).2.2 = [])]) hb) ?_
           exact WL.end_ (kg hK_33')
          ·refine WL.set 78 rfl (congrArg zB hb) ?_
           refine wk ?_
           refine wk ?_
           refine wk ?_
           refine wv (OV.pickF rfl rfl) ?_
           refine WL.set 82 rfl (bF (v := o8 [decide ((m4 (b7 (b6 argv))).1 = 0), decide ((m4 (b7 (b6 argv))).2.1 = 0), decide ((m4 (b7 (b6 argv))).2.2 = [])]) hb) ?_
           exact WL.end_ (kg hK_33')
         refine wm ?_
         refine WL.cut 4 [(87, zB ((((decide ((b7 (b6 argv)) = (b7 (b6 argv)))) && (decide ((b7 (b6 argv)) = (b7 (b6 argv))))) && (o8 [decide ((m4 (b7 (b6 argv))).1 = 0), decide ((m4 (b7 (b6 argv))).2.1 = 0), decide ((m4 (b7 (b6 argv))).2.2 = [])])) && (o8 [decide ((b6 (b7 (b6 argv))).1 = (b6 argv).1), decide ((b6 (b7 (b6 argv))).2.1 = (b6 argv).2.1), decide ((b6 (b7 (b6 argv))).2.2.1 = (b6 argv).2.2.1), decide ((b6 (b7 (b6 argv))).2.2.2.1 = (b6 argv).2.2.2.1), decide ((b6 (b7 (b6 argv))).2.2.2.2.1 = (b6 argv).2.2.2.2.1), decide ((b6 (b7 (b6 argv))).2.2.2.2.2.1 = (b6 argv).2.2.2.2.2.1), decide ((b6 (b7 (b6 argv))).2.2.2.2.2.2.1 = (b6 argv).2.2.2.2.2.2.1), decide ((b6 (b7 (b6 argv))).2.2.2.2.2.2.2.1 = (b6 argv).2.2.2.2.2.2.2.1), decide ((b6 (b7 (b6 argv))).2.2.2.2.2.2.2.2.1 = (b6 argv).2.2.2.2.2.2.2.2.1), decide ((b6 (b7 (b6 argv))).2.2.2.2.2.2.2.2.2.1 = (b6 argv).2.2.2.2.2.2.2.2.2.1), decide ((b6 (b7 (b6 argv))).2.2.2.2.2.2.2.2.2.2 = (b6 argv).2.2.2.2.2.2.2.2.2.2)])))] ?_ (fun K0_34' hK_34' => ?_)
         rotate_left
         ·refine WL.split (((decide ((b7 (b6 argv)) = (b7 (b6 argv)))) && (decide ((b7 (b6 argv)) = (b7 (b6 argv))))) && (o8 [decide ((m4 (b7 (b6 argv))).1 = 0), decide ((m4 (b7 (b6 argv))).2.1 = 0), decide ((m4 (b7 (b6 argv))).2.2 = [])])) (fun hb => ?_) (fun hb => ?_)
          ·refine WL.set 83 rfl (congrArg zB hb) ?_
           refine wv (OV.loadR rfl (At.own 1 rfl) v8) ?_
           refine wv (OV.loadR rfl (At.own 6 rfl) v8) ?_
           refine wv (OV.eqlF (rs := [decide ((b6 (b7 (b6 argv))).1 = (b6 argv).1), decide ((b6 (b7 (b6 argv))).2.1 = (b6 argv).2.1), decide ((b6 (b7 (b6 argv))).2.2.1 = (b6 argv).2.2.1), decide ((b6 (b7 (b6 argv))).2.2.2.1 = (b6 argv).2.2.2.1), decide ((b6 (b7 (b6 argv))).2.2.2.2.1 = (b6 argv).2.2.2.2.1), decide ((b6 (b7 (b6 argv))).2.2.2.2.2.1 = (b6 argv).2.2.2.2.2.1), decide ((b6 (b7 (b6 argv))).2.2.2.2.2.2.1 = (b6 argv).2.2.2.2.2.2.1), decide ((b6 (b7 (b6 argv))).2.2.2.2.2.2.2.1 = (b6 argv).2.2.2.2.2.2.2.1), decide ((b6 (b7 (b6 argv))).2.2.2.2.2.2.2.2.1 = (b6 argv).2.2.2.2.2.2.2.2.1), decide ((b6 (b7 (b6 argv))).2.2.2.2.2.2.2.2.2.1 = (b6 argv).2.2.2.2.2.2.2.2.2.1), decide ((b6 (b7 (b6 argv))).2.2.2.2.2.2.2.2.2.2 = (b6 argv).2.2.2.2.2.2.2.2.2.2)]) rfl rfl Tryd.underlying25 adk ae5 ⟨rfl, f7, ⟨_, _, rfl, rfl, m7.str Tryd.underlying9⟩, ⟨rfl, f7, ⟨_, _, rfl, rfl, m7.str Tryd.underlying9⟩, ⟨rfl, f7, ⟨_, _, rfl, rfl, m7.str Tryd.underlying9⟩, ⟨rfl, f7, ⟨_, _, rfl, rfl, m7.str Tryd.underlying9⟩, ⟨rfl, f7, ⟨_, _, rfl, rfl, m7.str Tryd.underlying9⟩, ⟨rfl, g8, ⟨_, _, rfl, rfl, m7.int Tryd.underlying3⟩, ⟨rfl, g8, ⟨_, _, rfl, rfl, m7.int Tryd.underlying3⟩, ⟨rfl, g8, ⟨_, _, rfl, rfl, m7.int Tryd.underlying3⟩, ⟨rfl, g8, ⟨_, _, rfl, rfl, m7.int Tryd.underlying3⟩, ⟨rfl, g8, ⟨_, _, rfl, rfl, m7.int Tryd.underlying3⟩, ⟨rfl, f7, ⟨_, _, rfl, rfl, m7.str Tryd.underlying9⟩, trivial⟩⟩⟩⟩⟩⟩⟩⟩⟩⟩⟩) ?_
           refine wv (OV.pickT rfl rfl) ?_
           refine WL.set 87 rfl (bT (v := o8 [decide ((b6 (b7 (b6 argv))).1 = (b6 argv).1), decide ((b6 (b7 (b6 argv))).2.1 = (b6 argv).2.1), decide ((b6 (b7 (b6 argv))).2.2.1 = (b6 argv).2.2.1), decide ((b6 (b7 (b6 argv))).2.2.2.1 = (b6 argv).2.2.2.1), decide ((b6 (b7 (b6 argv))).2.2.2.2.1 = (b6 argv).2.2.2.2.1), decide ((b6 (b7 (b6 argv))).2.2.2.2.2.1 = (b6 argv).2.2.2.2.2.1), decide ((b6 (b7 (b6 argv))).2.2.2.2.2.2.1 = (b6 argv).2.2.2.2.2.2.1), decide ((b6 (b7 (b6 argv))).2.2.2.2.2.2.2.1 = (b6 argv).2.2.2.2.2.2.2.1), decide ((b6 (b7 (b6 argv))).2.2.2.2.2.2.2.2.1 = (b6 argv).2.2.2.2.2.2.2.2.1), decide ((b6 (b7 (b6 argv))).2.2.2.2.2.2.2.2.2.1 = (b6 argv).2.2.2.2.2.2.2.2.2.1), decide ((b6 (b7 (b6 argv))).2.2.2.2.2.2.2.2.2.2 = (b6 argv).2.2.2.2.2.2.2.2.2.2)]) hb) ?_
           exact WL.end_ (kg hK_34')
          ·refine WL.set 83 rfl (congrArg zB hb) ?_
           refine wk ?_
           refine wk ?_
           refine wk ?_
           refine wv (OV.pickF rfl rfl) ?_
           refine WL.set 87 rfl (bF (v := o8 [decide ((b6 (b7 (b6 argv))).1 = (b6 argv).1), decide ((b6 (b7 (b6 argv))).2.1 = (b6 argv).2.1), decide ((b6 (b7 (b6 argv))).2.2.1 = (b6 argv).2.2.1), decide ((b6 (b7 (b6 argv))).2.2.2.1 = (b6 argv).2.2.2.1), decide ((b6 (b7 (b6 argv))).2.2.2.2.1 = (b6 argv).2.2.2.2.1), decide ((b6 (b7 (b6 argv))).2.2.2.2.2.1 = (b6 argv).2.2.2.2.2.1), decide ((b6 (b7 (b6 argv))).2.2.2.2.2.2.1 = (b6 argv).2.2.2.2.2.2.1), decide ((b6 (b7 (b6 argv))).2.2.2.2.2.2.2.1 = (b6 argv).2.2.2.2.2.2.2.1), decide ((b6 (b7 (b6 argv))).2.2.2.2.2.2.2.2.1 = (b6 argv).2.2.2.2.2.2.2.2.1), decide ((b6 (b7 (b6 argv))).2.2.2.2.2.2.2.2.2.1 = (b6 argv).2.2.2.2.2.2.2.2.2.1), decide ((b6 (b7 (b6 argv))).2.2.2.2.2.2.2.2.2.2 = (b6 argv).2.2.2.2.2.2.2.2.2.2)]) hb) ?_
           exact WL.end_ (kg hK_34')
         refine wA ?_
         refine WL.nil ?_
         refine kg (hK_31' [(2, zB ((((decide ((b7 (b6 argv)) = (b7 (b6 argv)))) && (decide ((b7 (b6 argv)) = (b7 (b6 argv))))) && (o8 [decide ((m4 (b7 (b6 argv))).1 = 0), decide ((m4 (b7 (b6 argv))).2.1 = 0), decide ((m4 (b7 (b6 argv))).2.2 = [])])) && (o8 [decide ((b6 (b7 (b6 argv))).1 = (b6 argv).1), decide ((b6 (b7 (b6 argv))).2.1 = (b6 argv).2.1), decide ((b6 (b7 (b6 argv))).2.2.1 = (b6 argv).2.2.1), decide ((b6 (b7 (b6 argv))).2.2.2.1 = (b6 argv).2.2.2.1), decide ((b6 (b7 (b6 argv))).2.2.2.2.1 = (b6 argv).2.2.2.2.1), decide ((b6 (b7 (b6 argv))).2.2.2.2.2.1 = (b6 argv).2.2.2.2.2.1), decide ((b6 (b7 (b6 argv))).2.2.2.2.2.2.1 = (b6 argv).2.2.2.2.2.2.1), decide ((b6 (b7 (b6 argv))).2.2.2.2.2.2.2.1 = (b6 argv).2.2.2.2.2.2.2.1), decide ((b6 (b7 (b6 argv))).2.2.2.2.2.2.2.2.1 = (b6 argv).2.2.2.2.2.2.2.2.1), decide ((b6 (b7 (b6 argv))).2.2.2.2.2.2.2.2.2.1 = (b6 argv).2.2.2.2.2.2.2.2.2.1), decide ((b6 (b7 (b6 argv))).2.2.2.2.2.2.2.2.2.2 = (b6 argv).2.2.2.2.2.2.2.2.2.2)])))] _ ?_)
         refine g7 ?_
         exact hE.ret [] rfl rfl (.inl ⟨_, h, rfl⟩) (l7.of1 rfl (RV.tmp rfl))
        ·obtain ⟨w_5', ho⟩ := hS
         cases ho
     ·obtain ⟨w_4', ho⟩ := hS
      cases ho
    ·obtain ⟨w_3', ho⟩ := hS
     cases ho
   ·obtain ⟨w_2', ho⟩ := hS
    cases ho
end Go.Proofs.YtaaepdlajkdneaaDoor
