/-
  The calculus of walks: the rules for operations on memory, strings, arrays, and for calls.
-/
import Derived.Test.YtlfolgbaageknaaDoorGwo
import Derived.Deep.MidRow
import Derived.Laws.IdiomStrings
namespace Go.Proofs.YtlfolgbaageknaaDoor
open Go Go.RowKit

variable {P : Program} {ops : Array Oper} {Q : Exit → Act → World → Prop} {C : Cx} {L : Sl} {H : List HA} {rest : List Oper} {o : Oper}

abbrev st (l : List UInt8) : Value := .string ⟨l.toArray⟩
/-- n cells, told by a function. -/
def arr (n : Nat) (g : Nat → Value) : List Value := (List.range n).map g
theorem arr_length (n : Nat) (g : Nat → Value) : (arr n g).length = n := by simp [arr]
theorem arr_get {n i : Nat} {g : Nat → Value} (h : i < n) : (arr n g)[i]? = some (g i) := by simp [arr, h]
theorem arr_get_int {n : Nat} {i : Int} {g : Nat → Value} (h : 0 ≤ i ∧ i < n) : (arr n g)[i.toNat]? = some (g i.toNat) := arr_get (by omega)
theorem arr_set {n i : Nat} {g : Nat → Value} {v : Value} : (arr n g).set i v = arr n (fun j => if j = i then v else g j) := by
  apply List.ext_getElem?
  intro j
  rw [List.getElem?_set]
  simp only [arr, List.length_map, List.length_range, List.getElem?_map]
  by_cases hj : j < n
  · rw [List.getElem?_eq_getElem (by simpa using hj)]
    by_cases e : i = j
    · subst e; simp [hj]
    · rw [if_neg e]; simp [show ¬ j = i from fun h => e h.symm]
  · rw [List.getElem?_eq_none (by simpa using hj)]
    split <;> simp_all
theorem arr_congr {n : Nat} {g g' : Nat → Value} (h : ∀ i, i < n → g i = g' i) : arr n g = arr n g' := by
  unfold arr; exact List.map_congr_left fun i hi => h i (List.mem_range.1 hi)

/-- In all such worlds block b holds o. -/
def At (C : Cx) (H : List HA) (b : Nat) (o : Obj) : Prop := ∀ w, Hp C H w → w.heap[b]? = some o
theorem At.own {b : Nat} {ob : Obj} (i : Nat) (hi : H[i]? = some (.blk b ob)) : At C H b ob := fun _ hp => hp.blk hi
theorem At.ro {b : Nat} {ob : Obj} (i : Nat) (hi : C.R[i]? = some (b, ob)) : At C H b ob := fun _ hp => hp.old (List.mem_of_getElem? hi)
theorem At.old {b : Nat} {ob : Obj} (hb : (b, ob) ∈ C.R) : At C H b ob := fun _ hp => hp.old hb

def scalB (P : Program) (t : TypeId) : Bool := match P.underlying t with | some d => !d.isRow | none => false
def fieldOff (P : Program) (t : TypeId) (i : Nat) : Option Nat := match P.underlying t with
  | some (.struct fs) => match fs[i]? with
    | some f => match (P.info? f.type).map (·.size) with
      | some n => if n = 0 then none else some f.offset
      | none => none
    | none => none
  | _ => none
def sizeB (P : Program) (t : TypeId) (n : Nat) : Bool := (P.info? t).map (·.size) == some n
theorem run_size {t : TypeId} {n : Nat} (h : sizeB P t n = true) (w : World) : (sizeOf t).run P w = .ok n w := by
  unfold sizeB at h
  cases hq : P.info? t with
  | none => simp [hq] at h
  | some i => simp [hq] at h; simp [sizeOf, typeInfo, hq, h]
theorem run_isAgg_no {t : TypeId} (h : scalB P t = true) (w : World) : (isAgg t).run P w = .ok false w := by
  unfold scalB at h
  split at h
  · rename_i d hd
    unfold isAgg
    rw [Sem.run_bind, run_under hd]
    cases d <;> simp_all
  · cases h
def arrB (P : Program) (t e : TypeId) (n sz : Nat) : Bool := (match P.underlying t with | some (.array m f) => m == n && f == e | _ => false) && sizeB P e sz
def slB (P : Program) (t e : TypeId) (sz : Nat) : Bool := (match P.underlying t with | some (.slice f) => f == e | _ => false) && sizeB P e sz
theorem arrB_spec {t e : TypeId} {n sz : Nat} (h : arrB P t e n sz = true) : P.underlying t = some (.array n e) ∧ sizeB P e sz = true := by
  unfold arrB at h
  rw [Bool.and_eq_true] at h
  refine ⟨?_, h.2⟩
  have h1 := h.1
  split at h1
  · rename_i m f hd; simp at h1; rw [hd, h1.1, h1.2]
  · cases h1
theorem slB_spec {t e : TypeId} {sz : Nat} (h : slB P t e sz = true) : P.underlying t = some (.slice e) ∧ sizeB P e sz = true := by
  unfold slB at h
  rw [Bool.and_eq_true] at h
  refine ⟨?_, h.2⟩
  have h1 := h.1
  split at h1
  · rename_i f hd; simp at h1; rw [hd, h1]
  · cases h1
def strB (P : Program) (t : TypeId) : Bool := match P.underlying t with | some .string => true | _ => false
theorem strB_spec {t : TypeId} (h : strB P t = true) : P.underlying t = some .string := by
  unfold strB at h; split at h
  · assumption
  · cases h

section ov
variable {x y z : Operand} {u v : Value} {t t' ty e' : TypeId} {d : Option Tmp} {p : String} {e : Array Edge} {g : Option (Nat × Bool)} {n m : Int} {k k' : IntKind} {b off sz : Nat}
theorem OV.fieldAddr {i f : Nat} (hx : ev L x = some (.pointer (some ⟨b, off, none⟩))) (hf : fieldOff P t i = some f) : OV P C L H ⟨d, .fieldAddr t x i, ty, p, e, g⟩ (.pointer (some ⟨b, off + f, none⟩)) := fun a w hfr _ => by
  unfold fieldOff at hf
  split at hf
  · rename_i fs hu
    split at hf
    · rename_i fl hfl
      split at hf
      · rename_i nn hs
        have hsz : (sizeOf fl.type).run P w = .ok nn w := run_size (by unfold sizeB; rw [hs]; simp) w
        split at hf
        · cases hf
        · rename_i hnz
          have hf' : fl.offset = f := by simpa using hf
          simp [execOp, hfr.ev hx, Instr.fieldAt, run_under hu, hfl, Instr.sureAddr, fieldPlace, hsz, hnz, hf', Addr.add_mid]
      · cases hf
    · cases hf
  · cases hf
theorem OV.fieldAddr0 {i : Nat} (hx : ev L x = some (.pointer (some ⟨b, 0, none⟩))) {f : Nat} (hf : fieldOff P t i = some f) : OV P C L H ⟨d, .fieldAddr t x i, ty, p, e, g⟩ (.pointer (some ⟨b, f, none⟩)) := by
  have := OV.fieldAddr (C := C) (H := H) (d := d) (ty := ty) (p := p) (e := e) (g := g) hx hf
  rwa [Nat.zero_add] at this
theorem OV.indexAddr {nn : Nat} {i : Int} (hx : ev L x = some (.pointer (some ⟨b, off, none⟩))) (hy : ev L y = some (.int k i)) (ht : arrB P t e' nn sz = true) (hb : 0 ≤ i ∧ i < nn) {off' : Nat} (he : off + i.toNat * sz = off') :
    OV P C L H ⟨d, .indexAddr t x y, ty, p, e, g⟩ (.pointer (some ⟨b, off', none⟩)) := fun a w hfr _ => by
  obtain ⟨hu, hs⟩ := arrB_spec ht
  subst he
  simp [execOp, hfr.ev hx, hfr.ev hy, Instr.indexAt, run_under hu, asIntOf, Instr.sureAddr, hb, run_size hs, Addr.add_mid]
theorem OV.indexAddr1 {nn : Nat} {i : Int} (hx : ev L x = some (.pointer (some ⟨b, 0, none⟩))) (hy : ev L y = some (.int k i)) (ht : arrB P t e' nn 1 = true) (hb : 0 ≤ i ∧ i < nn) :
    OV P C L H ⟨d, .indexAddr t x y, ty, p, e, g⟩ (.pointer (some ⟨b, i.toNat, none⟩)) := OV.indexAddr hx hy ht hb (by omega)
theorem OV.indexSl {nn cap : Nat} {i : Int} (hx : ev L x = some (.slice (some ⟨b, off, none⟩) nn cap)) (hy : ev L y = some (.int k i)) (ht : slB P t e' sz = true) (hb : 0 ≤ i ∧ i < nn) {off' : Nat} (he : off + i.toNat * sz = off') :
    OV P C L H ⟨d, .indexAddr t x y, ty, p, e, g⟩ (.pointer (some ⟨b, off', none⟩)) := fun a w hfr _ => by
  obtain ⟨hu, hs⟩ := slB_spec ht
  subst he
  simp [execOp, hfr.ev hx, hfr.ev hy, Instr.indexAt, run_under hu, asIntOf, hb, run_size hs, Addr.add_mid]
theorem OV.load {cs : List Value} {T : TypeId} {fr : Nat × Nat} (hx : ev L x = some (.pointer (some ⟨b, off, none⟩))) (hb : At C H b (.cells cs.toArray T fr)) (hc : cs[off]? = some v) (ht : scalB P t = true) :
    OV P C L H ⟨d, .load t x, ty, p, e, g⟩ v := fun a w hfr hp => by
  have hcell : w.cell? ⟨b, off, none⟩ = some v := by simp [World.cell?, hb w hp, hc]
  simp [execOp, hfr.ev hx, Instr.loadAt, Instr.sureAddr, loadVar, run_isAgg_no ht, hcell]
theorem rangeAt_of {cs : List Value} {T : TypeId} {fr : Nat × Nat} {w : World} (hb : w.heap[b]? = some (.cells cs.toArray T fr)) {vs : List Value} (hv : (cs.drop off).take vs.length = vs) : w.rangeAt b off vs := fun j u hj => by
  have hlt : j < vs.length := (List.getElem?_eq_some_iff.1 hj).1
  have : cs[off + j]? = some u := by
    rw [← hv] at hj
    rw [List.getElem?_take, if_pos hlt, List.getElem?_drop] at hj
    exact hj
  simp [World.cell?, hb, this]
/-- A struct or an array out of a block. -/
theorem OV.loadM {cs vs : List Value} {T : TypeId} {fr : Nat × Nat} (hx : ev L x = some (.pointer (some ⟨b, off, none⟩))) (hb : At C H b (.cells cs.toArray T fr)) (hv : (cs.drop off).take vs.length = vs) (ht : RowT P t vs.length) :
    OV P C L H ⟨d, .load t x, ty, p, e, g⟩ (.agg vs.toArray) := fun a w hfr hp => by
  obtain ⟨dd, hu, hd⟩ : ∃ dd, P.underlying t = some dd ∧ dd.isRow = true := by
    rcases ht.desc with ⟨_, h⟩ | ⟨_, _, h⟩ <;> exact ⟨_, h, rfl⟩
  simp [execOp, hfr.ev hx, run_loadAt_mid w b off t vs dd (rangeAt_of (hb w hp) hv) hu hd ht.size]
theorem OV.loadR {cs : List Value} {T : TypeId} {fr : Nat × Nat} (hx : ev L x = some (.pointer (some ⟨b, 0, none⟩))) (hb : At C H b (.cells cs.toArray T fr)) (ht : RowT P t cs.length) :
    OV P C L H ⟨d, .load t x, ty, p, e, g⟩ (.agg cs.toArray) := OV.loadM hx hb (by simp) ht
theorem OV.index {l : List UInt8} {i : Int} (hx : ev L x = some (st l)) (hy : ev L y = some (.int k i)) (ht : strB P t = true) (hb : 0 ≤ i ∧ i < l.length) : OV P C L H ⟨d, .index t x y, ty, p, e, g⟩ (.int .u8 ((l.getD i.toNat 0).toNat : Int)) := fun a w hf _ => by
  have hlt : i.toNat < l.length := by omega
  have hc : 0 ≤ i ∧ i < (ByteArray.size ⟨l.toArray⟩ : Nat) := by simpa [ByteArray.size] using hb
  have hg : (ByteArray.mk l.toArray)[i.toNat]'(by simpa [ByteArray.size] using hlt) = l.getD i.toNat 0 := by
    rw [List.getD_eq_getElem?_getD, List.getElem?_eq_getElem hlt]
    show l.toArray[i.toNat]'_ = _
    simp
  simp only [execOp, hf.ev hx, hf.ev hy, Sem.run_bind, run_index_string w t _ k i (strB_spec ht), dif_pos hc, hg, Result.andThen_ok, Sem.run_pure]
theorem OV.len {l : List UInt8} (hx : ev L x = some (st l)) (ht : strB P t = true) : OV P C L H ⟨d, .call ⟨.builtin .len, #[x], #[t]⟩, ty, p, e, g⟩ (.int .i64 (l.length : Int)) := fun a w hf _ => by
  have := run_len_string (P := P) w t ty ⟨l.toArray⟩ (strB_spec ht)
  simp only [execOp, resolve, invoke, builtin, Sem.run_bind, Sem.run_pure, Result.andThen_ok, List.map_toArray, List.map_cons, List.map_nil, hf.ev hx, this]
  simp [goInt, ByteArray.size]
theorem OV.lenS {a0 : Option Addr} {nn cap : Nat} (hx : ev L x = some (.slice a0 nn cap)) (ht : slB P t e' sz = true) : OV P C L H ⟨d, .call ⟨.builtin .len, #[x], #[t]⟩, ty, p, e, g⟩ (.int .i64 (nn : Int)) := fun a w hf _ => by
  have hu := (slB_spec ht).1
  have : (Builtin.len_ #[t] ty #[.slice a0 nn cap]).run P w = .ok (goInt nn) w := by simp [Builtin.len_, run_under hu]
  simp only [execOp, resolve, invoke, builtin, Sem.run_bind, Sem.run_pure, Result.andThen_ok, List.map_toArray, List.map_cons, List.map_nil, hf.ev hx, this]
  rfl
theorem OV.cat {l r : List UInt8} (hx : ev L x = some (st l)) (hy : ev L y = some (st r)) (hb : l.length + r.length ≤ 9223372036854775807) : OV P C L H ⟨d, .binOp .add t x y t', ty, p, e, g⟩ (st (l ++ r)) := fun a w hf _ => by
  have h1 := run_string_add_sum (P := P) w ⟨l.toArray⟩ ⟨r.toArray⟩ (by simpa [ByteArray.size] using hb)
  have h2 : binOp .add t (st l) (st r) = Op.stringOp .add ⟨l.toArray⟩ ⟨r.toArray⟩ := rfl
  simp only [execOp, hf.ev hx, hf.ev hy, eqGuard_add, Sem.run_bind, Sem.run_pure, Result.andThen_ok, h2, h1]
  rw [ByteArray.mk_append_mk]
theorem OV.eqlS {l r : List UInt8} (hx : ev L x = some (st l)) (hy : ev L y = some (st r)) : OV P C L H ⟨d, .binOp .eql t x y t', ty, p, e, g⟩ (.bool (decide (l = r))) := fun a w hf _ => by
  have h2 : binOp .eql t (st l) (st r) = pure (.bool ((⟨l.toArray⟩ : ByteArray).toList == (⟨r.toArray⟩ : ByteArray).toList)) := rfl
  have h3 : ((⟨l.toArray⟩ : ByteArray).toList == (⟨r.toArray⟩ : ByteArray).toList) = decide (l = r) := by
    rw [ByteArray.toList_eq, ByteArray.toList_eq, Bool.eq_iff_iff]; simp
  simp only [execOp, hf.ev hx, hf.ev hy, eqGuard_at_string, Sem.run_bind, Sem.run_pure, Result.andThen_ok, h2, h3]
theorem OV.neqS {l r : List UInt8} (hx : ev L x = some (st l)) (hy : ev L y = some (st r)) : OV P C L H ⟨d, .binOp .neq t x y t', ty, p, e, g⟩ (.bool (!decide (l = r))) := fun a w hf _ => by
  have h2 : binOp .neq t (st l) (st r) = pure (.bool (!((⟨l.toArray⟩ : ByteArray).toList == (⟨r.toArray⟩ : ByteArray).toList))) := rfl
  have h3 : ((⟨l.toArray⟩ : ByteArray).toList == (⟨r.toArray⟩ : ByteArray).toList) = decide (l = r) := by
    rw [ByteArray.toList_eq, ByteArray.toList_eq, Bool.eq_iff_iff]; simp
  simp only [execOp, hf.ev hx, hf.ev hy, eqGuard_at_string, Sem.run_bind, Sem.run_pure, Result.andThen_ok, h2, h3]
end ov
end Go.Proofs.YtlfolgbaageknaaDoor
