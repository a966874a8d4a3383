/-
  Merged: Gwm, Gww, Gwf, Gwx, FlowB, Gwg, Gwr, Gws, Gwt, Gwe, Gwb, Gwl, Gwi, Gwk.
-/
import Derived.Deep.MidRow
import Derived.Laws.IdiomStrings
import Derived.Great.Walk
import Derived.Laws.Strings2
import Derived.OrdersHeld
import Derived.LoopN
import Derived.Laws.BytesString
import Derived.Laws.BitsAllLaws
import Derived.Maps.AppendAt
import Derived.Deep.DeepAppendWide
import Derived.Laws.OwnMore
import Derived.Lib.AppendStr
import Derived.Laws.StructEq
import Derived.Lib.Builder
import Derived.Laws.Pointers
import Derived.Laws.Externs
import Derived.Test.YtohnchdnkbadaaaDoorPb0
namespace Go.Proofs.YtohnchdnkbadaaaDoor
open Go Go.RowKit

variable {P : Program} {ops : Array Oper} {Q : Exit → Act → World → Prop} {C : Cx} {L : Sl} {H : List HA} {rest : List Oper} {o : Oper}

abbrev st (l : List UInt8) : Value := .string ⟨l.toArray⟩
/-- In all such worlds block b holds o. -/
def At (C : Cx) (H : List HA) (b : Nat) (o : Obj) : Prop := ∀ w, Hp C H w → w.heap[b]? = some o
theorem At.own {b : Nat} {ob : Obj} (i : Nat) (hi : H[i]? = some (.blk b ob)) : At C H b ob := fun _ hp => hp.blk hi
theorem At.ro {b : Nat} {ob : Obj} (i : Nat) (hi : C.R[i]? = some (b, ob)) : At C H b ob := fun _ hp => hp.old (List.mem_of_getElem? hi)
theorem At.old {b : Nat} {ob : Obj} (hb : (b, ob) ∈ C.R) : At C H b ob := fun _ hp => hp.old hb

def scalB (P : Program) (t : TypeId) : Bool := match P.underlying t with | some d => !d.isRow | none => false
def fieldOff (P : Program) (t : TypeId) (i : Nat) : Option Nat := match P.underlying t with
 | some (.struct fs) => match fs[i]? with
  | some f => match (P.info? f.type).map (·.size) with
   | some n => if n = 0 then none else some f.offset
   | none => none
  | none => none
 | _ => none
def sizeB (P : Program) (t : TypeId) (n : Nat) : Bool := (P.info? t).map (·.size) == some n
theorem run_size {t : TypeId} {n : Nat} (h : sizeB P t n = true) (w : World) : (sizeOf t).run P w = .ok n w := by
 unfold sizeB at h
 cases hq : P.info? t with
 | none => simp [hq] at h
 | some i => simp [hq] at h; simp [sizeOf, typeInfo, hq, h]
theorem run_isAgg_no {t : TypeId} (h : scalB P t = true) (w : World) : (isAgg t).run P w = .ok false w := by
 unfold scalB at h
 split at h
 ·rename_i d hd
  unfold isAgg
  rw [Sem.run_bind, run_under hd]
  cases d <;> simp_all
 ·cases h
def arrB (P : Program) (t e : TypeId) (n sz : Nat) : Bool := (match P.underlying t with | some (.array m f) => m == n && f == e | _ => false) && sizeB P e sz
def slB (P : Program) (t e : TypeId) (sz : Nat) : Bool := (match P.underlying t with | some (.slice f) => f == e | _ => false) && sizeB P e sz
theorem arrB_spec {t e : TypeId} {n sz : Nat} (h : arrB P t e n sz = true) : P.underlying t = some (.array n e) ∧ sizeB P e sz = true := by
 unfold arrB at h
 rw [Bool.and_eq_true] at h
 refine ⟨?_, h.2⟩
 have h1 := h.1
 split at h1
 ·rename_i m f hd; simp at h1; rw [hd, h1.1, h1.2]
 ·cases h1
theorem slB_spec {t e : TypeId} {sz : Nat} (h : slB P t e sz = true) : P.underlying t = some (.slice e) ∧ sizeB P e sz = true := by
 unfold slB at h
 rw [Bool.and_eq_true] at h
 refine ⟨?_, h.2⟩
 have h1 := h.1
 split at h1
 ·rename_i f hd; simp at h1; rw [hd, h1]
 ·cases h1
def strB (P : Program) (t : TypeId) : Bool := match P.underlying t with | some .string => true | _ => false
theorem strB_spec {t : TypeId} (h : strB P t = true) : P.underlying t = some .string := by
 unfold strB at h; split at h
 ·assumption
 ·cases h

section ov
variable {x y z : Operand} {u v : Value} {t t' ty e' : TypeId} {d : Option Tmp} {p : String} {e : Array Edge} {g : Option (Nat × Bool)} {n m : Int} {k k' : IntKind} {b off sz : Nat}
theorem OV.fieldAddr {i f : Nat} (hx : ev L x = some (.pointer (some ⟨b, off, none⟩))) (hf : fieldOff P t i = some f) : OV P C L H ⟨d, .fieldAddr t x i, ty, p, e, g⟩ (.pointer (some ⟨b, off + f, none⟩)) := fun a w hfr _ => by
 unfold fieldOff at hf
 split at hf
 ·rename_i fs hu
  split at hf
  ·rename_i fl hfl
   split at hf
   ·rename_i nn hs
    have hsz : (sizeOf fl.type).run P w = .ok nn w := run_size (by unfold sizeB; rw [hs]; simp) w
    split at hf
    ·cases hf
    ·rename_i hnz
     have hf' : fl.offset = f := by simpa using hf
     simp [execOp, hfr.ev hx, Instr.fieldAt, run_under hu, hfl, Instr.sureAddr, fieldPlace, hsz, hnz, hf', Addr.add_mid]
   ·cases hf
  ·cases hf
 ·cases hf
theorem OV.fieldAddr0 {i : Nat} (hx : ev L x = some (.pointer (some ⟨b, 0, none⟩))) {f : Nat} (hf : fieldOff P t i = some f) : OV P C L H ⟨d, .fieldAddr t x i, ty, p, e, g⟩ (.pointer (some ⟨b, f, none⟩)) := by
 have := OV.fieldAddr (C := C) (H := H) (d := d) (ty := ty) (p := p) (e := e) (g := g) hx hf
 rwa [Nat.zero_add] at this
theorem OV.indexSl {nn cap : Nat} {i : Int} (hx : ev L x = some (.slice (some ⟨b, off, none⟩) nn cap)) (hy : ev L y = some (.int k i)) (ht : slB P t e' sz = true) (hb : 0 ≤ i ∧ i < nn) {off' : Nat} (he : off + i.toNat * sz = off') :
  OV P C L H ⟨d, .indexAddr t x y, ty, p, e, g⟩ (.pointer (some ⟨b, off', none⟩)) := fun a w hfr _ => by
 obtain ⟨hu, hs⟩ := slB_spec ht
 subst he
 simp [execOp, hfr.ev hx, hfr.ev hy, Instr.indexAt, run_under hu, asIntOf, hb, run_size hs, Addr.add_mid]
theorem OV.load {cs : List Value} {T : TypeId} {fr : Nat × Nat} (hx : ev L x = some (.pointer (some ⟨b, off, none⟩))) (hb : At C H b (.cells cs.toArray T fr)) (hc : cs[off]? = some v) (ht : scalB P t = true) :
  OV P C L H ⟨d, .load t x, ty, p, e, g⟩ v := fun a w hfr hp => by
 have hcell : w.cell? ⟨b, off, none⟩ = some v := by simp [World.cell?, hb w hp, hc]
 simp [execOp, hfr.ev hx, Instr.loadAt, Instr.sureAddr, loadVar, run_isAgg_no ht, hcell]
theorem rangeAt_of {cs : List Value} {T : TypeId} {fr : Nat × Nat} {w : World} (hb : w.heap[b]? = some (.cells cs.toArray T fr)) {vs : List Value} (hv : (cs.drop off).take vs.length = vs) : w.rangeAt b off vs := fun j u hj => by
 have hlt : j < vs.length := (List.getElem?_eq_some_iff.1 hj).1
 have : cs[off + j]? = some u := by
  rw [← hv] at hj
  rw [List.getElem?_take, if_pos hlt, List.getElem?_drop] at hj
  exact hj
 simp [World.cell?, hb, this]
/-- A struct or an array out of a block. -/
theorem OV.loadM {cs vs : List Value} {T : TypeId} {fr : Nat × Nat} (hx : ev L x = some (.pointer (some ⟨b, off, none⟩))) (hb : At C H b (.cells cs.toArray T fr)) (hv : (cs.drop off).take vs.length = vs) (ht : RowT P t vs.length) :
  OV P C L H ⟨d, .load t x, ty, p, e, g⟩ (.agg vs.toArray) := fun a w hfr hp => by
 obtain ⟨dd, hu, hd⟩ : ∃ dd, P.underlying t = some dd ∧ dd.isRow = true := by
  rcases ht.desc with ⟨_, h⟩ | ⟨_, _, h⟩ <;> exact ⟨_, h, rfl⟩
 simp [execOp, hfr.ev hx, run_loadAt_mid w b off t vs dd (rangeAt_of (hb w hp) hv) hu hd ht.size]
theorem OV.loadR {cs : List Value} {T : TypeId} {fr : Nat × Nat} (hx : ev L x = some (.pointer (some ⟨b, 0, none⟩))) (hb : At C H b (.cells cs.toArray T fr)) (ht : RowT P t cs.length) :
  OV P C L H ⟨d, .load t x, ty, p, e, g⟩ (.agg cs.toArray) := OV.loadM hx hb (by simp) ht
theorem OV.index {l : List UInt8} {i : Int} (hx : ev L x = some (st l)) (hy : ev L y = some (.int k i)) (ht : strB P t = true) (hb : 0 ≤ i ∧ i < l.length) : OV P C L H ⟨d, .index t x y, ty, p, e, g⟩ (.int .u8 ((l.getD i.toNat 0).toNat : Int)) := fun a w hf _ => by
 have hlt : i.toNat < l.length := by omega
 have hc : 0 ≤ i ∧ i < (ByteArray.size ⟨l.toArray⟩ : Nat) := by simpa [ByteArray.size] using hb
 have hg : (ByteArray.mk l.toArray)[i.toNat]'(by simpa [ByteArray.size] using hlt) = l.getD i.toNat 0 := by
  rw [List.getD_eq_getElem?_getD, List.getElem?_eq_getElem hlt]
  show l.toArray[i.toNat]'_ = _
  simp
 simp only [execOp, hf.ev hx, hf.ev hy, Sem.run_bind, run_index_string w t _ k i (strB_spec ht), dif_pos hc, hg, Result.andThen_ok, Sem.run_pure]
theorem OV.len {l : List UInt8} (hx : ev L x = some (st l)) (ht : strB P t = true) : OV P C L H ⟨d, .call ⟨.builtin .len, #[x], #[t]⟩, ty, p, e, g⟩ (.int .i64 (l.length : Int)) := fun a w hf _ => by
 have := run_len_string (P := P) w t ty ⟨l.toArray⟩ (strB_spec ht)
 simp only [execOp, resolve, invoke, builtin, Sem.run_bind, Sem.run_pure, Result.andThen_ok, List.map_toArray, List.map_cons, List.map_nil, hf.ev hx, this]
 simp [goInt, ByteArray.size]
theorem OV.lenS {a0 : Option Addr} {nn cap : Nat} (hx : ev L x = some (.slice a0 nn cap)) (ht : slB P t e' sz = true) : OV P C L H ⟨d, .call ⟨.builtin .len, #[x], #[t]⟩, ty, p, e, g⟩ (.int .i64 (nn : Int)) := fun a w hf _ => by
 have hu := (slB_spec ht).1
 have : (Builtin.len_ #[t] ty #[.slice a0 nn cap]).run P w = .ok (goInt nn) w := by simp [Builtin.len_, run_under hu]
 simp only [execOp, resolve, invoke, builtin, Sem.run_bind, Sem.run_pure, Result.andThen_ok, List.map_toArray, List.map_cons, List.map_nil, hf.ev hx, this]
 rfl
theorem OV.cat {l r : List UInt8} (hx : ev L x = some (st l)) (hy : ev L y = some (st r)) (hb : l.length + r.length ≤ 9223372036854775807) : OV P C L H ⟨d, .binOp .add t x y t', ty, p, e, g⟩ (st (l ++ r)) := fun a w hf _ => by
 have h1 := run_string_add_sum (P := P) w ⟨l.toArray⟩ ⟨r.toArray⟩ (by simpa [ByteArray.size] using hb)
 have h2 : binOp .add t (st l) (st r) = Op.stringOp .add ⟨l.toArray⟩ ⟨r.toArray⟩ := rfl
 simp only [execOp, hf.ev hx, hf.ev hy, eqGuard_add, Sem.run_bind, Sem.run_pure, Result.andThen_ok, h2, h1]
 rw [ByteArray.mk_append_mk]
theorem OV.eqlS {l r : List UInt8} (hx : ev L x = some (st l)) (hy : ev L y = some (st r)) : OV P C L H ⟨d, .binOp .eql t x y t', ty, p, e, g⟩ (.bool (decide (l = r))) := fun a w hf _ => by
 have h2 : binOp .eql t (st l) (st r) = pure (.bool ((⟨l.toArray⟩ : ByteArray).toList == (⟨r.toArray⟩ : ByteArray).toList)) := rfl
 have h3 : ((⟨l.toArray⟩ : ByteArray).toList == (⟨r.toArray⟩ : ByteArray).toList) = decide (l = r) := by
  rw [ByteArray.toList_eq, ByteArray.toList_eq, Bool.eq_iff_iff]; simp
 simp only [execOp, hf.ev hx, hf.ev hy, eqGuard_at_string, Sem.run_bind, Sem.run_pure, Result.andThen_ok, h2, h3]
theorem OV.neqS {l r : List UInt8} (hx : ev L x = some (st l)) (hy : ev L y = some (st r)) : OV P C L H ⟨d, .binOp .neq t x y t', ty, p, e, g⟩ (.bool (!decide (l = r))) := fun a w hf _ => by
 have h2 : binOp .neq t (st l) (st r) = pure (.bool (!((⟨l.toArray⟩ : ByteArray).toList == (⟨r.toArray⟩ : ByteArray).toList))) := rfl
 have h3 : ((⟨l.toArray⟩ : ByteArray).toList == (⟨r.toArray⟩ : ByteArray).toList) = decide (l = r) := by
  rw [ByteArray.toList_eq, ByteArray.toList_eq, Bool.eq_iff_iff]; simp
 simp only [execOp, hf.ev hx, hf.ev hy, eqGuard_at_string, Sem.run_bind, Sem.run_pure, Result.andThen_ok, h2, h3]
end ov
end Go.Proofs.YtohnchdnkbadaaaDoor
namespace Go.Proofs.YtohnchdnkbadaaaDoor
open Go Go.RowKit

variable {P : Program} {ops : Array Oper} {Q : Exit → Act → World → Prop} {C : Cx} {L : Sl} {H : List HA} {rest : List Oper} {o : Oper}

/-- The operation makes the block Z and gives f of its number. -/
def MV (P : Program) (C : Cx) (L : Sl) (H : List HA) (o : Oper) (Z : Obj) (f : Nat → Value) : Prop := ∀ a w, Fr C L a → Hp C H w → (execOp a.eval o).run P w = .ok (.value (f w.heap.size)) (w.alloc Z)
theorem WL.make {Z : Obj} {f : Nat → Value} {d : Nat} (hv : MV P C L H o Z f) (hw : wantB ops L o = some true) (hd : o.dst = some d) (hn : Nat.blt d C.n = true) (h : ∀ b, WL P ops Q C ((d, f b) :: L) (.blk b Z :: H) rest) : WL P ops Q C L H (o :: rest) := by
 intro a w hf hp
 refine wpList_want' (wanted_of hf hw) ?_
 unfold Oper.wp
 rw [hv a w hf hp]
 simp only [Oper.upon, hd]
 exact h _ _ _ (hf.put hn _) (hp.alloc Z)
section mv
variable {x y z : Operand} {u v : Value} {t t' ty e' : TypeId} {d : Option Tmp} {p : String} {e : Array Edge} {g : Option (Nat × Bool)} {n m : Int} {k k' : IntKind} {b off sz : Nat}
def zeroB (P : Program) (t : TypeId) : Option (List Value) := ((P.info? t).bind (·.zero)).map (·.cells.toList)
theorem MV.alloc {cs : List Value} (hz : zeroB P t = some cs) : MV P C L H ⟨d, .alloc t, ty, p, e, g⟩ (.cells cs.toArray t (0, 0)) (fun b => .pointer (some ⟨b, 0, none⟩)) := fun a w _ _ => by
 unfold zeroB at hz
 cases hq : P.info? t with
 | none => simp [hq] at hz
 | some i =>
  cases hz2 : i.zero with
  | none => simp [hq, hz2] at hz
  | some zv =>
   simp only [hq, hz2, Option.bind_some, Option.map_some, Option.some.injEq] at hz
   subst hz
   have hzr : (zeroValue t).run P w = .ok zv w := by simp [zeroValue, typeInfo, hq, hz2]
   simp only [execOp, Instr.alloc, Sem.run_bind, hzr, Result.andThen_ok, Sem.run_pure, newVar, newRow, newObj, Array.toArray_toList]
   rfl
theorem MV.box {cs : List Value} (hx : ev L x = some v) (hc : v.cells = cs.toArray) : MV P C L H ⟨d, .box t x, ty, p, e, g⟩ (.cells cs.toArray t (0, 0)) (fun b => .pointer (some ⟨b, 0, none⟩)) := fun a w hf _ => by
 simp only [execOp, Instr.box, hf.ev hx, hc, Sem.run_bind, Sem.run_pure, newVar, newRow, newObj]
 rfl
def evs (L : Sl) : List Operand → Option (List Value)
 | [] => some []
 | x :: r => match ev L x, evs L r with
  | some v, some vs => some (v :: vs)
  | _, _ => none
theorem evs_spec {a : Act} (hf : Fr C L a) : ∀ {xs : List Operand} {vs : List Value}, evs L xs = some vs → xs.map a.eval = vs
 | [], vs, h => by simp [evs] at h; simp [h]
 | x :: r, vs, h => by
  unfold evs at h
  split at h
  ·rename_i v ws h1 h2
   simp only [Option.some.injEq] at h
   rw [← h, List.map_cons, hf.ev h1, evs_spec hf h2]
  ·cases h
def evp (L : Sl) : List (Nat × Operand) → Option (List (Nat × Value))
 | [] => some []
 | x :: r => match ev L x.2, evp L r with
  | some v, some vs => some ((x.1, v) :: vs)
  | _, _ => none
theorem evp_spec {a : Act} (hf : Fr C L a) : ∀ {xs : List (Nat × Operand)} {vs : List (Nat × Value)}, evp L xs = some vs → xs.map (fun q => (q.1, a.eval q.2)) = vs
 | [], vs, h => by simp [evp] at h; simp [h]
 | x :: r, vs, h => by
  unfold evp at h
  split at h
  ·rename_i v ws h1 h2
   simp only [Option.some.injEq] at h
   rw [← h, List.map_cons, hf.ev h1, evp_spec hf h2]
  ·cases h
theorem OV.build {ps : List (Nat × Operand)} {vs : List (Nat × Value)} {cs : List Value} (hx : evp L ps = some vs) (hb : P.built t vs = some cs.toArray) : OV P C L H ⟨d, .build t ps.toArray, ty, p, e, g⟩ (.agg cs.toArray) := fun a w hf _ => by
 have h1 := evp_spec hf hx
 have h2 : (ps.toArray.map fun (i, x) => (i, a.eval x)).toList = vs := by simpa using h1
 have h3 := run_build (P := P) w t (ps.toArray.map fun (i, x) => (i, a.eval x)) cs.toArray (by rw [h2]; exact hb)
 simp only [execOp, Sem.run_bind, h3, Result.andThen_ok, Sem.run_pure]
theorem MV.buildSlice {ps : List (Nat × Operand)} {vs : List (Nat × Value)} {cs : List Value} {len : Nat} (hx : evp L ps = some vs) (hs : slB P t e' sz = true) (hb : P.builtSlice e' len vs = some cs.toArray) :
  MV P C L H ⟨d, .buildSlice t len ps.toArray, ty, p, e, g⟩ (.cells cs.toArray e' (0, 0)) (fun b => .slice (some ⟨b, 0, none⟩) len len) := fun a w hf _ => by
 have h1 := evp_spec hf hx
 have h2 : (ps.toArray.map fun (i, x) => (i, a.eval x)).toList = vs := by simpa using h1
 have hu := (slB_spec hs).1
 unfold Program.builtSlice at hb
 cases hie : P.info? e' with
 | none => simp [hie] at hb
 | some ie =>
  simp only [hie] at hb
  cases hz : ie.zero with
  | none => simp [hz] at hb
  | some z =>
   simp only [hz] at hb
   by_cases hc : len * ie.size > 2 ^ 24 ∨ len * ie.size = 0
   ·simp [hc] at hb
   ·rw [if_neg hc] at hb
    have hc1 : ¬ len * ie.size > 2 ^ 24 := fun h' => hc (.inl h')
    have hc2 : ¬ len * ie.size = 0 := fun h' => hc (.inr h')
    have hfill : Instr.fill (fun i => some (i * ie.size, ie.size)) ((Array.range (len * ie.size)).map (z.cells[· % z.cells.size]!)) (ps.toArray.map fun (i, x) => (i, a.eval x)).toList = some cs.toArray := by rw [h2]; exact hb
    have hzr : (zeroValue e').run P w = .ok z w := by simp [zeroValue, typeInfo, hie, hz]
    have hsr : (sizeOf e').run P w = .ok ie.size w := by simp [sizeOf, typeInfo, hie]
    simp only [execOp, Instr.buildSlice, Sem.run_bind, run_under hu, Result.andThen_ok, hsr, if_neg hc1, if_neg hc2, hzr, Sem.run_pure, hfill, newRow, newObj]
    rfl
end mv

/-- An operation from one state to another. -/
def OpK (P : Program) (o : Oper) (Q : Exit → Act → World → Prop) (C : Cx) (L : Sl) (H : List HA) (L' : Sl) (H' : List HA) : Prop :=
 ∀ K : Act → World → Prop, (∀ a w, Fr C L' a → Hp C H' w → K a w) → ∀ a w, Fr C L a → Hp C H w → o.wp P a w K Q
theorem WL.op {L' : Sl} {H' : List HA} (hop : OpK P o Q C L H L' H') (hw : wantB ops L o = some true) (h : WL P ops Q C L' H' rest) : WL P ops Q C L H (o :: rest) :=
 fun a w hf hp => wpList_want' (wanted_of hf hw) (hop _ h a w hf hp)
theorem OpK.val {v : Value} {d : Nat} (hv : OV P C L H o v) (hd : o.dst = some d) (hn : Nat.blt d C.n = true) : OpK P o Q C L H ((d, v) :: L) H := by
 intro K hK a w hf hp
 unfold Oper.wp
 rw [hv a w hf hp]
 simp only [Oper.upon, hd]
 exact hK _ _ (hf.put hn v) hp
/-- A store: the cells of the value go into the block from an offset on. -/
theorem OpK.store {x y : Operand} {t ty T : TypeId} {p : String} {e : Array Edge} {g : Option (Nat × Bool)} {b off : Nat} {v : Value} {cs vs cs' : List Value} (i : Nat)
  (hx : ev L x = some (.pointer (some ⟨b, off, none⟩))) (hy : ev L y = some v) (hi : H[i]? = some (.blk b (.cells cs.toArray T (0, 0)))) (hv : v.cells = vs.toArray) (hs : sizeB P t vs.length = true)
  (hfit : off + vs.length ≤ cs.length) (h1 : vs.all (·.oneCell') = true) (he : cs.take off ++ vs ++ cs.drop (off + vs.length) = cs') :
  OpK P ⟨none, .store t x y, ty, p, e, g⟩ Q C L H L (H.set i (.blk b (.cells cs'.toArray T (0, 0)))) := by
 intro K hK a w hf hp
 have hb := hp.blk hi
 have hrun := run_storeCells_at (P := P) b off T vs 0 cs.toArray w hb (by simpa using hfit) (by simpa using h1)
 simp only [Nat.add_zero] at hrun
 rw [he] at hrun
 have hst : (storeVar t ⟨b, off, none⟩ v).run P w = .ok () (w.setRow b cs'.toArray) := by
  simp only [storeVar, Sem.run_bind, run_size hs, Result.andThen_ok, hv, List.size_toArray, ne_eq, not_true_eq_false, if_false, hrun]
 unfold Oper.wp
 simp only [execOp, hf.ev hx, hf.ev hy, Instr.storeAt, Instr.sureAddr, Sem.run_bind, Sem.run_pure, Result.andThen_ok, hst, Oper.upon]
 refine hK _ _ (hf.put0 _) (hp.set hi rfl rfl rfl ?_ (fun k hk => setRow_other w b k _ hk) (heap_setRow_same hb))
 simp [World.setRow]
theorem WL.store {x y : Operand} {t ty T : TypeId} {p : String} {e : Array Edge} {g : Option (Nat × Bool)} {b off : Nat} {v : Value} {cs vs cs' : List Value} (i : Nat)
  (hx : ev L x = some (.pointer (some ⟨b, off, none⟩))) (hy : ev L y = some v) (hi : H[i]? = some (.blk b (.cells cs.toArray T (0, 0)))) (hv : v.cells = vs.toArray) (hs : sizeB P t vs.length = true)
  (hfit : off + vs.length ≤ cs.length) (h1 : vs.all (·.oneCell') = true) (he : cs.take off ++ vs ++ cs.drop (off + vs.length) = cs') (hw : wantB ops L ⟨none, .store t x y, ty, p, e, g⟩ = some true)
  (h : WL P ops Q C L (H.set i (.blk b (.cells cs'.toArray T (0, 0)))) rest) : WL P ops Q C L H (⟨none, .store t x y, ty, p, e, g⟩ :: rest) :=
 WL.op (OpK.store i hx hy hi hv hs hfit h1 he) hw h
/-! ### contracts -/
inductive Out where
 | ret (v : Value) (H : List HA)
 | pan (c : List PanicEntry) (H : List HA)
def OutR (S : Out → Prop) (e : Ending) (H' : List HA) : Prop := (∃ v, e = .returned v ∧ S (.ret v H')) ∨ (∃ c, e = .panicked c ∧ S (.pan c H'))
/-- What a call does: A the blocks that it may write, R blocks that it reads alone, S what it may come to. -/
def Does (P : Program) (f : FuncId) (args : List Value) (R : List (Nat × Obj)) (A : List HA) (S : Out → Prop) : Prop :=
 ∀ w M, Own w A M → M.Nodup → (∀ k ∈ M, k < w.heap.size) → (∀ p ∈ R, w.heap[p.1]? = some p.2 ∧ p.1 ∉ M) → Calls P f args.toArray w (fun e w' => ∃ H', OutR S e H' ∧ Hp ⟨0, [], w, M, R⟩ H' w')
def Ret (v : Value) (A' : List HA) : Out → Prop := fun o => o = .ret v A'
def ROk (C : Cx) (Rest : List HA) : List (Nat × Obj) → Prop
 | [] => True
 | p :: r => ((∃ i : Nat, Rest[i]? = some (HA.blk p.1 p.2)) ∨ p ∈ C.R) ∧ ROk C Rest r
theorem ROk.all {Rest : List HA} : ∀ {R : List (Nat × Obj)}, ROk C Rest R → ∀ p ∈ R, (∃ i : Nat, Rest[i]? = some (HA.blk p.1 p.2)) ∨ p ∈ C.R
 | [], _, p, hp => by cases hp
 | q :: r, h, p, hp => by
  rcases List.mem_cons.1 hp with rfl | hp
  ·exact h.1
  ·exact h.2.all p hp
theorem Own.mem_blk {w : World} : ∀ {H : List HA} {F : List Nat}, Own w H F → ∀ {i b : Nat} {ob : Obj}, H[i]? = some (.blk b ob) → b ∈ F
 | [], _, _, i, b, ob, h => by simp at h
 | x :: H, F, ⟨F1, F2, hF, h1, h2⟩, i, b, ob, h => by
  cases i with
  | zero =>
   simp at h
   subst h
   rw [hF, h1.1]; simp
  | succ i => rw [hF]; exact List.mem_append.2 (.inr (h2.mem_blk (i := i) (by simpa using h)))
theorem call_at {f : FuncId} {args : List Value} {R : List (Nat × Obj)} {A Rest : List HA} {S : Out → Prop} {w : World} (hc : Does P f args R A S) (hp : Hp C (A ++ Rest) w) (hR : ROk C Rest R) :
  Calls P f args.toArray w (fun e w' => ∃ H', OutR S e H' ∧ Hp C (H' ++ Rest) w') := by
 obtain ⟨F, h1, h2, h3⟩ := hp.own
 obtain ⟨F1, F2, rfl, hA, hB⟩ := h1.split
 have hn := List.nodup_append.1 h2
 refine (hc w F1 hA hn.1 (fun k hk => (h3 k (List.mem_append.2 (.inl hk))).1) ?_).mono ?_
 ·intro q hq
  rcases hR.all q hq with ⟨i, hi⟩ | hm
  ·refine ⟨hp.blk (i := A.length + i) (by rw [List.getElem?_append_right (by omega)]; simpa using hi), fun hm => ?_⟩
   exact hn.2.2 q.1 hm q.1 (hB.mem_blk hi) rfl
  ·refine ⟨hp.old hm, fun hk => ?_⟩
   have hro := hp.ro q hm
   have hlt := lt_of_blk hro.1
   rcases (h3 q.1 (List.mem_append.2 (.inl hk))).2 with h4 | h4
   ·omega
   ·exact hro.2 h4
 ·rintro e w' ⟨H', hS, hh⟩
  exact ⟨H', hS, hp.call hB h2 h3 hh⟩
theorem exec_callV {a : Act} {f : FuncId} {xs : List Operand} {ats : Array TypeId} {d : Option Tmp} {ty : TypeId} {p : String} {e : Array Edge} {g : Option (Nat × Bool)} {w : World} {vs : List Value} (he : entB P f = true) (hf : Fr C L a) (hx : evs L xs = some vs) :
  (execOp a.eval ⟨d, .call ⟨.value (.func f), xs.toArray, ats⟩, ty, p, e, g⟩).run P w = .ok (.enter f vs.toArray) w := by
 rw [exec_call _ _ _ _ _ _ _ _ _ _ he]
 have : xs.toArray.map a.eval = vs.toArray := by rw [List.map_toArray, evs_spec hf hx]
 rw [this]
section call
variable {f : FuncId} {xs : List Operand} {ats : Array TypeId} {d : Nat} {ty : TypeId} {p : String} {e : Array Edge} {g : Option (Nat × Bool)} {vs : List Value} {R : List (Nat × Obj)} {A Rest : List HA} {S : Out → Prop} {v : Value} {A' : List HA}
theorem WL.callS (he : entB P f = true) (hx : evs L xs = some vs) (hc : Does P f vs R A S) (hH : H = A ++ Rest) (hR : ROk C Rest R) (hw : wantB ops L ⟨some d, .call ⟨.value (.func f), xs.toArray, ats⟩, ty, p, e, g⟩ = some true) (hn : Nat.blt d C.n = true)
  (h : ∀ r H', S (.ret r H') → WL P ops Q C ((d, r) :: L) (H' ++ Rest) rest) (hpan : ∀ c H', S (.pan c H') → QX Q (.panic c) C L (H' ++ Rest)) : WL P ops Q C L H (⟨some d, .call ⟨.value (.func f), xs.toArray, ats⟩, ty, p, e, g⟩ :: rest) := by
 intro a w hf hp
 subst hH
 refine wpList_want' (wanted_of hf hw) ?_
 unfold Oper.wp
 rw [exec_callV he hf hx]
 simp only [Oper.upon]
 refine (call_at hc hp hR).mono ?_
 rintro en w' ⟨H', hS, hh⟩
 rcases hS with ⟨r, rfl, hS⟩ | ⟨c, rfl, hS⟩
 ·exact h r H' hS _ _ (hf.put hn r) hh
 ·exact hpan c H' hS _ _ hf hh
/-- A call that hands back one value. -/
theorem WL.call (he : entB P f = true) (hx : evs L xs = some vs) (hc : Does P f vs R A (Ret v A')) (hH : H = A ++ Rest) (hR : ROk C Rest R) (hw : wantB ops L ⟨some d, .call ⟨.value (.func f), xs.toArray, ats⟩, ty, p, e, g⟩ = some true) (hn : Nat.blt d C.n = true)
  (h : WL P ops Q C ((d, v) :: L) (A' ++ Rest) rest) : WL P ops Q C L H (⟨some d, .call ⟨.value (.func f), xs.toArray, ats⟩, ty, p, e, g⟩ :: rest) :=
 WL.callS he hx hc hH hR hw hn (fun r H' hS => by cases hS; exact h) (fun c H' hS => by cases hS)
/-- A call that only makes memory, by a contract of the elder form. -/
theorem Does.ofPure (h : Pure P f vs.toArray v) : Does P f vs [] [] (Ret v []) := fun w M hO hn _ _ => by
 have : M = [] := hO
 subst this
 refine (h w).mono ?_
 rintro en w' ⟨rfl, hb⟩
 exact ⟨[], .inl ⟨v, rfl, rfl⟩, (Hp.start 0 [] w (H := []) rfl hn (fun k hk => by cases hk) (fun p hp => by cases hp)).below hb⟩
theorem Does.weak {S' : Out → Prop} (h : Does P f vs R A S) (hs : ∀ o, S o → S' o) : Does P f vs R A S' := fun w M hO hn hl hr => (h w M hO hn hl hr).mono fun en w' ⟨H', hS, hh⟩ => ⟨H', by
  rcases hS with ⟨r, e1, hS⟩ | ⟨c, e1, hS⟩
  ·exact .inl ⟨r, e1, hs _ hS⟩
  ·exact .inr ⟨c, e1, hs _ hS⟩, hh⟩
end call
theorem WL.panic {x : Operand} {ty : TypeId} {p : String} {e : Array Edge} {g : Option (Nat × Bool)} {d : Option Tmp} {t : TypeId} {v : Value} (hx : ev L x = some (.iface t v)) (hw : wantB ops L ⟨d, .panic x, ty, p, e, g⟩ = some true)
  (h : QX Q (.panic [{ v := .iface t v, recovered := false }]) C L H) : WL P ops Q C L H (⟨d, .panic x, ty, p, e, g⟩ :: rest) := by
 intro a w hf hp
 refine wpList_want' (wanted_of hf hw) ?_
 unfold Oper.wp
 have : (execOp a.eval ⟨d, .panic x, ty, p, e, g⟩).run P w = .halt (.panic (.iface t v)) w := by
  simp [execOp, hf.ev hx, Instr.panic, goPanic]
 rw [this]
 exact h _ _ hf hp

/-! ### a function's start and end -/
def ResV (P : Program) (fn : Func) (C : Cx) (L : Sl) (H : List HA) (v : Value) : Prop := ∀ a w, Fr C L a → Hp C H w → (results fn a.tmps).run P w = .ok v w
/-- Where a panic leaves no slot counts. -/
def Stays (Q : Exit → Act → World → Prop) : Prop := ∀ c a d v w, Q (.panic c) (a.put d v) w → Q (.panic c) a w
structure Ends (P : Program) (fn : Func) (C : Cx) (S : Out → Prop) (Q : Exit → Act → World → Prop) : Prop where
 ret : ∀ {L : Sl} {H H' : List HA} {v : Value} (idx : List Nat), nodupB idx = true → sel H idx = H' → S (.ret v H') → ResV P fn C L H v → QX Q .ret C L H
 norm : ∀ {L : Sl} {H H' : List HA} {v : Value} (idx : List Nat), nodupB idx = true → sel H idx = H' → S (.ret v H') → ResV P fn C L H v → QX Q .normal C L H
 pan : ∀ {L : Sl} {H H' : List HA} {c : List PanicEntry} (idx : List Nat), nodupB idx = true → sel H idx = H' → S (.pan c H') → QX Q (.panic c) C L H
theorem QX.pick {e : Exit} (idx : List Nat) (hi : nodupB idx = true) {H' : List HA} (he : sel H idx = H') (h : QX Q e C L H') : QX Q e C L H := fun a w hf hp => h a w hf (he ▸ hp.pick idx hi)
theorem if_T {b : Bool} {A B : Prop} (h : if b = true then A else B) (hb : b = true) : A := by rw [if_pos hb] at h; exact h
theorem if_F {b : Bool} {A B : Prop} (h : if b = true then A else B) (hb : b = false) : B := by rw [if_neg (by simp [hb])] at h; exact h
theorem bT {b : Bool} {v : Bool} (hb : b = true) : Value.bool v = Value.bool (b && v) := by rw [hb]; rfl
theorem bF {b : Bool} {v : Bool} (hb : b = false) : Value.bool false = Value.bool (b && v) := by rw [hb]; rfl
theorem oT {b : Bool} {v : Bool} (hb : b = true) : Value.bool true = Value.bool (b || v) := by rw [hb]; rfl
theorem oF {b : Bool} {v : Bool} (hb : b = false) : Value.bool v = Value.bool (b || v) := by rw [hb]; rfl
theorem does_of_wc {f : FuncId} {fn : Func} {c : Code} {args : List Value} {R : List (Nat × Obj)} {A : List HA} {S : Out → Prop} {L0 : Sl} {n : Nat} (hf : P.funcs[f]? = some fn) (hb : fn.body = some c) (hnt : fn.ntmps = n) (hl : Nat.ble args.length n = true)
  (hL : (List.range args.length).zip args = L0)
  (h : ∀ w0 M Q, Ends P fn ⟨n, [], w0, M, R⟩ S Q → WC P c Q ⟨n, [], w0, M, R⟩ L0 A) : Does P f args R A S := by
 intro w M hO hn hlt hR
 subst hnt
 have hle : args.length ≤ fn.ntmps := Nat.le_of_ble_eq_true hl
 refine calls_of_wp hf hb ?_
 refine h w M _ ?_ _ _ ⟨rfl, ?_, ?_⟩ (Hp.start _ _ w hO hn hlt hR)
 ·refine ⟨fun idx hi he hS hr a w' hfr hp => ?_, fun idx hi he hS hr a w' hfr hp => ?_, fun idx hi he hS a w' hfr hp => ?_⟩
  ·exact ⟨hfr.defers, _, hr a w' hfr hp, _, .inl ⟨_, rfl, hS⟩, he ▸ (hp.pick idx hi).ctx⟩
  ·exact ⟨hfr.defers, _, hr a w' hfr hp, _, .inl ⟨_, rfl, hS⟩, he ▸ (hp.pick idx hi).ctx⟩
  ·exact ⟨hfr.defers, _, .inr ⟨_, rfl, hS⟩, he ▸ (hp.pick idx hi).ctx⟩
 ·simp; omega
 ·intro i v hg
  subst hL
  have hm := Sl.get_mem hg
  obtain ⟨j, hj⟩ := List.mem_iff_getElem?.1 hm
  rw [List.getElem?_zip_eq_some] at hj
  obtain ⟨h1, h2⟩ := hj
  have hij : j = i := by
   have h3 := (List.getElem?_eq_some_iff.1 h1)
   obtain ⟨h4, h5⟩ := h3
   simp at h5; exact h5
  subst hij
  have hjl : j < args.length := (List.getElem?_eq_some_iff.1 h2).1
  simp only [List.size_toArray]
  rw [Array.getElem?_append_left (by simpa using hjl)]
  simpa using h2
section res
variable {fn : Func}
theorem ResV.none (hr : fn.results = #[]) : ResV P fn C L H (.tuple #[]) := fun _ _ _ _ => results_none hr _ _ _
theorem ResV.one {t : Tmp} {v : Value} (hr : fn.results = #[.tmp t]) (ht : L.get t = some v) : ResV P fn C L H v := fun a w hf _ => by
 have := results_tmp hr a.tmps P w
 simpa [Array.getD_eq_getD_getElem?, hf.get _ _ ht] using this
def resRun (tmps : Array Value) (r : ResultVar) : Sem Value := match r with
 | .tmp t => pure (tmps.getD t undef)
 | .cell q t => do loadVar t (← asAddr (tmps.getD q undef))
theorem results_eq (fn : Func) (tmps : Array Value) : results fn tmps = (do let vs ← fn.results.mapM (resRun tmps); pure (if h : vs.size = 1 then vs[0] else .tuple vs)) := rfl
/-- One result variable: what it holds. -/
def RV (P : Program) (C : Cx) (L : Sl) (H : List HA) (r : ResultVar) (v : Value) : Prop := ∀ a w, Fr C L a → Hp C H w → (resRun a.tmps r).run P w = .ok v w
theorem RV.tmp {t : Tmp} {v : Value} (ht : L.get t = some v) : RV P C L H (.tmp t) v := fun a w hf _ => by
 simp [resRun, Array.getD_eq_getD_getElem?, hf.get _ _ ht]
theorem RV.row {q : Tmp} {t T : TypeId} {b : Nat} {cs : List Value} {fr : Nat × Nat} (hq : L.get q = some (.pointer (some ⟨b, 0, none⟩))) (hb : At C H b (.cells cs.toArray T fr)) (ht : RowT P t cs.length) : RV P C L H (.cell q t) (.agg cs.toArray) := fun a w hf hp => by
 have h1 : (loadVar t ⟨b, 0, none⟩).run P w = .ok (.agg cs.toArray) w := run_loadT (hb w hp) (by simpa using ht)
 simp [resRun, Array.getD_eq_getD_getElem?, hf.get _ _ hq, asAddr, h1]
theorem RV.cell {q : Tmp} {t T : TypeId} {b : Nat} {cs : List Value} {v : Value} {fr : Nat × Nat} (hq : L.get q = some (.pointer (some ⟨b, 0, none⟩))) (hb : At C H b (.cells cs.toArray T fr)) (hc : cs[0]? = some v) (ht : scalB P t = true) : RV P C L H (.cell q t) v := fun a w hf hp => by
 have hcell : w.cell? ⟨b, 0, none⟩ = some v := by simp [World.cell?, hb w hp, hc]
 have h1 : (loadVar t ⟨b, 0, none⟩).run P w = .ok v w := by simp [loadVar, run_isAgg_no ht, hcell]
 simp [resRun, Array.getD_eq_getD_getElem?, hf.get _ _ hq, asAddr, h1]
theorem ResV.of1 {r : ResultVar} {v : Value} (hr : fn.results = #[r]) (h0 : RV P C L H r v) : ResV P fn C L H v := fun a w hf hp => by
 rw [results_eq, hr]
 simp [h0 a w hf hp]
theorem ResV.of2 {r s : ResultVar} {v u : Value} (hr : fn.results = #[r, s]) (h0 : RV P C L H r v) (h1 : RV P C L H s u) : ResV P fn C L H (.tuple #[v, u]) := fun a w hf hp => by
 rw [results_eq, hr]
 simp [h0 a w hf hp, h1 a w hf hp]
theorem ResV.of3 {r s q : ResultVar} {v u x : Value} (hr : fn.results = #[r, s, q]) (h0 : RV P C L H r v) (h1 : RV P C L H s u) (h2 : RV P C L H q x) : ResV P fn C L H (.tuple #[v, u, x]) := fun a w hf hp => by
 rw [results_eq, hr]
 simp [h0 a w hf hp, h1 a w hf hp, h2 a w hf hp]
end res
end Go.Proofs.YtohnchdnkbadaaaDoor
namespace Go.Proofs.YtohnchdnkbadaaaDoor
open Go Go.RowKit

variable {P : Program} {ops : Array Oper} {Q : Exit → Act → World → Prop} {C : Cx} {H : List HA} {rest : List Oper} {o : Oper}

def zget : List (Nat × Obj) → Nat → Option Obj
 | [], _ => none
 | p :: r, i => bif Nat.beq p.1 i then some p.2 else zget r i
abbrev FSl := Blocks → Sl
/-- The walk through the head of a drawn region, in the text's order; zl: what is made there, by the operation's number. -/
def FL (P : Program) (ops : Array Oper) (T : World → Blocks → Act → Prop) (C : Cx) (L : FSl) (H : List HA) (zl : List (Nat × Obj)) (k : Nat) (l : List Oper) : Prop :=
 ∀ (A : Fam) (w0 : World), (∀ β, Fr C (L β) (A β)) → Hp C H w0 → wpFlowA P ops w0.heap.size w0 (zget zl) (fun A => ∀ γ, T w0 γ (A γ)) l k A

variable {T : World → Blocks → Act → Prop} {L : FSl} {zl : List (Nat × Obj)} {k : Nat}
theorem FL.val {v : Value} {d : Nat} (hv : ∀ β, OV P C (L β) H o v) (hz : zget zl k = none) (hw : ∀ β, wantB ops (L β) o = some true) (hd : o.dst = some d) (hn : Nat.blt d C.n = true) (h : FL P ops T C (fun β => (d, v) :: L β) H zl (k + 1) rest) : FL P ops T C L H zl k (o :: rest) := by
 intro A w0 hf hp
 refine ⟨fun _ => v, .inr ⟨hz, v, rfl, fun β => .inl ⟨wanted_of (hf β) (hw β), fun w hb => ?_⟩⟩, ?_⟩
 ·rw [hv β _ w (hf β) (hp.below hb)]
  exact ⟨rfl, Below.refl _ _⟩
 ·rw [hd]; exact h _ w0 (fun β => (hf β).put hn v) hp
theorem FL.skip {d : Nat} (hz : zget zl k = none) (hw : ∀ β, wantB ops (L β) o = some false) (hd : o.dst = some d) (hn : Nat.blt d C.n = true) (h : FL P ops T C (fun β => (d, undef) :: L β) H zl (k + 1) rest) : FL P ops T C L H zl k (o :: rest) := by
 intro A w0 hf hp
 refine ⟨fun _ => undef, .inr ⟨hz, undef, rfl, fun β => .inr ⟨wanted_of (hf β) (hw β), rfl⟩⟩, ?_⟩
 rw [hd]; exact h _ w0 (fun β => (hf β).put hn undef) hp
theorem FL.make {Z : Obj} {f : Nat → Value} {d : Nat} (hv : ∀ β, MV P C (L β) H o Z f) (hz : zget zl k = some Z) (hw : ∀ β, wantB ops (L β) o = some true) (hd : o.dst = some d) (hn : Nat.blt d C.n = true) (h : FL P ops T C (fun β => (d, f (β k)) :: L β) H zl (k + 1) rest) : FL P ops T C L H zl k (o :: rest) := by
 intro A w0 hf hp
 refine ⟨fun β => f (β k), .inl ⟨Z, f, hz, rfl, fun β => ⟨wanted_of (hf β) (hw β), fun w hb => hv β _ w (hf β) (hp.below hb)⟩⟩, ?_⟩
 rw [hd]; exact h _ w0 (fun β => (hf β).put hn _) hp
theorem FL.call {f : FuncId} {xs : List Operand} {ats : Array TypeId} {d : Nat} {ty : TypeId} {p : String} {e : Array Edge} {g : Option (Nat × Bool)} {vs : List Value} {R : List (Nat × Obj)} {v : Value} (he : entB P f = true) (hx : ∀ β, evs (L β) xs = some vs)
  (hc : Does P f vs R [] (Ret v [])) (hR : ROk C H R) (hz : zget zl k = none) (hw : ∀ β, wantB ops (L β) ⟨some d, .call ⟨.value (.func f), xs.toArray, ats⟩, ty, p, e, g⟩ = some true) (hn : Nat.blt d C.n = true)
  (h : FL P ops T C (fun β => (d, v) :: L β) H zl (k + 1) rest) : FL P ops T C L H zl k (⟨some d, .call ⟨.value (.func f), xs.toArray, ats⟩, ty, p, e, g⟩ :: rest) := by
 intro A w0 hf hp
 refine ⟨fun _ => v, .inr ⟨hz, v, rfl, fun β => .inl ⟨wanted_of (hf β) (hw β), fun w hb => ?_⟩⟩, ?_⟩
 ·rw [exec_callV he (hf β) (hx β)]
  have hpw := hp.below hb
  refine (hc w [] rfl List.nodup_nil (fun k hk => by cases hk) (fun q hq => ?_)).mono ?_
  ·refine ⟨?_, by simp⟩
   rcases hR.all q hq with ⟨i, hi⟩ | hm
   ·exact hpw.blk hi
   ·exact hpw.old hm
  ·rintro en w' ⟨H', hS, hh⟩
   rcases hS with ⟨r, rfl, hS⟩ | ⟨c, rfl, hS⟩
   ·cases hS; exact ⟨rfl, hh.toBelow⟩
   ·cases hS
 ·exact h _ w0 (fun β => (hf β).put hn v) hp
theorem FL.set {l : List Oper} (i : Nat) {v u : Value} (hL : ∀ β, (L β).get i = some v) (hv : v = u) (h : FL P ops T C (fun β => (i, u) :: L β) H zl k l) : FL P ops T C L H zl k l := fun A w0 hf hp => h A w0 (fun β => ⟨(hf β).defers, (hf β).size, fun j x hj => by
 unfold Sl.get at hj
 cases hb : Nat.beq i j with
 | true =>
  obtain rfl : i = j := Nat.eq_of_beq_eq_true hb
  simp only [hb, cond_true, Option.some.injEq] at hj
  rw [← hj, ← hv]; exact (hf β).get _ _ (hL β)
 | false => simp only [hb, cond_false] at hj; exact (hf β).get _ _ hj⟩) hp
theorem FL.weak {l : List Oper} {L' : FSl} (hs : ∀ β, Sub (L β) (L' β)) (h : FL P ops T C L' H zl k l) : FL P ops T C L H zl k l := fun A w0 hf hp => h A w0 (fun β => (hf β).sub (hs β)) hp
theorem FL.split {l : List Oper} (b : Bool) (ht : b = true → FL P ops T C L H zl k l) (hf : b = false → FL P ops T C L H zl k l) : FL P ops T C L H zl k l := by
 cases b
 ·exact hf rfl
 ·exact ht rfl
theorem FL.nil (h : ∀ (A : Fam) (w0 : World), (∀ β, Fr C (L β) (A β)) → Hp C H w0 → ∀ γ, T w0 γ (A γ)) : FL P ops T C L H zl k [] := fun A w0 hf hp => h A w0 hf hp
theorem wpFlowA_cut {B : Nat} {w0 : World} {Zs : Nat → Option Obj} {Qf : Fam → Prop} : ∀ {l1 l2 : List Oper} {k : Nat} {A : Fam}, wpFlowA P ops B w0 Zs (fun A => wpFlowA P ops B w0 Zs Qf l2 (k + l1.length) A) l1 k A → wpFlowA P ops B w0 Zs Qf (l1 ++ l2) k A
 | [], _, _, _, h => h
 | o :: l1, l2, k, A, ⟨v, hv, h⟩ => ⟨v, hv, wpFlowA_cut (by rw [show k + 1 + l1.length = k + (o :: l1).length by simp; omega]; exact h)⟩
/-- Some operations first; behind them a state of one form, whatever way was taken. -/
theorem FL.cut {l : List Oper} (n : Nat) (hl : Nat.ble n l.length = true) (Lj : FSl) (hj : FL P ops T C Lj H zl (k + n) (l.drop n)) (h : ∀ T' : World → Blocks → Act → Prop, (∀ (A : Fam) (w0 : World), (∀ β, Fr C (Lj β) (A β)) → Hp C H w0 → ∀ γ, T' w0 γ (A γ)) → FL P ops T' C L H zl k (l.take n)) : FL P ops T C L H zl k l := by
 have hn : n ≤ l.length := Nat.le_of_ble_eq_true hl
 intro A w0 hf hp
 have hjoin : ∀ (l1 : List Oper) (k0 : Nat) (A : Fam), wpFlowA P ops w0.heap.size w0 (zget zl) (fun A => ∀ β, Fr C (Lj β) (A β)) l1 k0 A → wpFlowA P ops w0.heap.size w0 (zget zl) (fun A => wpFlowA P ops w0.heap.size w0 (zget zl) (fun A => ∀ γ, T w0 γ (A γ)) (l.drop n) (k + n) A) l1 k0 A := by
  intro l1
  induction l1 with
  | nil => intro k0 A h; exact hj A w0 h hp
  | cons o l1 ih => intro k0 A ⟨v, hv, h⟩; exact ⟨v, hv, ih _ _ h⟩
 have h0 : wpFlowA P ops w0.heap.size w0 (zget zl) (fun A => ∀ β, Fr C (Lj β) (A β)) (l.take n) k A := by
  have := h (fun w0' γ a => w0' = w0 → Fr C (Lj γ) a) (fun A w0' hf' _ γ _ => hf' γ) A w0 hf hp
  have hm : ∀ (l1 : List Oper) (k0 : Nat) (A : Fam), wpFlowA P ops w0.heap.size w0 (zget zl) (fun A => ∀ γ, w0 = w0 → Fr C (Lj γ) (A γ)) l1 k0 A → wpFlowA P ops w0.heap.size w0 (zget zl) (fun A => ∀ β, Fr C (Lj β) (A β)) l1 k0 A := by
   intro l1
   induction l1 with
   | nil => intro k0 A h γ; exact h γ rfl
   | cons o l1 ih => intro k0 A ⟨v, hv, h⟩; exact ⟨v, hv, ih _ _ h⟩
  exact hm _ _ _ this
 have := wpFlowA_cut (l1 := l.take n) (l2 := l.drop n) (k := k) (A := A) (P := P) (ops := ops) (B := w0.heap.size) (w0 := w0) (Zs := zget zl) (Qf := fun A => ∀ γ, T w0 γ (A γ)) (by
  have hlen : (l.take n).length = n := by simp; omega
  rw [hlen]; exact hjoin _ _ _ h0)
 rwa [List.take_append_drop] at this

/-! ### the blocks that the head made -/
def zblk (zl : List (Nat × Obj)) (γ : Blocks) (H : List HA) : List HA := match zl with
 | [] => H
 | p :: r => .blk (γ p.1) p.2 :: zblk r γ H
def zkeys (n : Nat) (zl : List (Nat × Obj)) : Bool := nodupB (zl.map (·.1)) && zl.all (fun p => Nat.blt p.1 n)
theorem zget_of {zl : List (Nat × Obj)} (hn : (zl.map (·.1)).Nodup) {p : Nat × Obj} (hp : p ∈ zl) : zget zl p.1 = some p.2 := by
 induction zl with
 | nil => cases hp
 | cons q r ih =>
  unfold zget
  rw [List.map_cons, List.nodup_cons] at hn
  rcases List.mem_cons.1 hp with rfl | hp
  ·simp
  ·have hne : ¬ q.1 = p.1 := fun e => hn.1 (e ▸ List.mem_map_of_mem hp)
   have : Nat.beq q.1 p.1 = false := by
    cases hb : Nat.beq q.1 p.1 with
    | false => rfl
    | true => exact absurd (Nat.eq_of_beq_eq_true hb) hne
   rw [this]; exact ih hn.2 hp
theorem hp_made {n : Nat} {w0 w : World} {γ : Blocks} (hp : Hp C H w0) (hz : zkeys n zl = true) (hm : Made w0.heap.size w0 (zget zl) n γ w) : Hp C (zblk zl γ H) w := by
 simp only [zkeys, Bool.and_eq_true, List.all_eq_true] at hz
 have hnd := nodupB_spec hz.1
 have hb := hp.below hm.below
 obtain ⟨F, h1, h2, h3⟩ := hp.own
 have hF : ∀ k ∈ F, k < w0.heap.size := fun k hk => (h3 k hk).1
 have key : ∀ zl' : List (Nat × Obj), (zl'.map (·.1)).Nodup → (∀ p ∈ zl', p ∈ zl) → Own w (zblk zl' γ H) (zl'.map (fun p => γ p.1) ++ F) ∧ (zl'.map (fun p => γ p.1) ++ F).Nodup := by
  intro zl'
  induction zl' with
  | nil => intro _ _; exact ⟨by simpa [zblk] using h1.keep fun k hk => hm.below.block k (hF k hk), by simpa using h2⟩
  | cons q r ih =>
   intro hn hsub
   rw [List.map_cons, List.nodup_cons] at hn
   obtain ⟨i1, i2⟩ := ih hn.2 fun p hp => hsub p (List.mem_cons_of_mem _ hp)
   have hqm := hsub q (List.mem_cons_self ..)
   have hq := hm.blk q.1 q.2 (Nat.blt_eq ▸ hz.2 q hqm) (zget_of hnd hqm)
   refine ⟨⟨[γ q.1], r.map (fun p => γ p.1) ++ F, rfl, ⟨rfl, hq.1⟩, i1⟩, ?_⟩
   show (γ q.1 :: (r.map (fun p => γ p.1) ++ F)).Nodup
   refine List.nodup_cons.2 ⟨fun hmem => ?_, i2⟩
   rcases List.mem_append.1 hmem with hmem | hmem
   ·obtain ⟨p, hp', he⟩ := List.mem_map.1 hmem
    have hpm := hsub p (List.mem_cons_of_mem _ hp')
    have := hm.inj q.1 p.1 q.2 p.2 (Nat.blt_eq ▸ hz.2 q hqm) (Nat.blt_eq ▸ hz.2 p hpm) (zget_of hnd hqm) (zget_of hnd hpm) he.symm
    exact hn.1 (this ▸ List.mem_map_of_mem hp')
   ·have := hF _ hmem; omega
 obtain ⟨k1, k2⟩ := key zl hnd fun _ h => h
 refine ⟨hb.os, hb.tape, hb.output, hb.size, hb.keep, hb.ro, _, k1, k2, fun k hk => ?_⟩
 rcases List.mem_append.1 hk with hk | hk
 ·obtain ⟨p, hp', rfl⟩ := List.mem_map.1 hk
  have hq := hm.blk p.1 p.2 (Nat.blt_eq ▸ hz.2 p hp') (zget_of hnd hp')
  exact ⟨lt_of_blk hq.1, .inl (Nat.le_trans hp.size hq.2)⟩
 ·exact ⟨Nat.lt_of_lt_of_le (h3 k hk).1 hm.below.size, (h3 k hk).2⟩

/-- The first n operations in whatever order, then the rest, whose order is forced. -/
theorem wc_draw {id : Nat} {l : List Oper} {L : Sl} (n : Nat) (zl : List (Nat × Obj)) (hm : P.follows .mixedOrders = true) (hB : Region.lexTailB .any l.toArray n = true) (hz : zkeys n zl = true)
  (h : ∀ T : World → Blocks → Act → Prop, (∀ (L' : FSl), (∀ γ, WL P l.toArray Q C (L' γ) (zblk zl γ H) (l.drop n)) → ∀ (A : Fam) (w0 : World), (∀ β, Fr C (L' β) (A β)) → Hp C H w0 → ∀ γ, T w0 γ (A γ)) → FL P l.toArray T C (fun _ => L) H zl 0 (l.take n)) : WC P (.region id l.toArray true) Q C L H := by
 intro a w hf hp
 refine wp_region_flowA (zget zl) n hm hB ?_
 exact h (fun w0 γ a' => ∀ w', Made w0.heap.size w0 (zget zl) n γ w' → wpList P l.toArray Q (l.drop n) a' w')
  (fun L' hL A w0 hA hw0 γ w' hmade => hL γ (A γ) w' (hA γ) (hp_made hw0 hz hmade)) (fun _ => a) w.drew (fun _ => hf) hp.drew
/-- A region that is all head. -/
theorem wc_draw_all {id : Nat} {l : List Oper} {L : Sl} (zl : List (Nat × Obj)) (hm : P.follows .mixedOrders = true) (hB : flowB l.toArray = true) (hz : zkeys l.length zl = true)
  (h : ∀ T : World → Blocks → Act → Prop, (∀ (L' : FSl), (∀ γ, QX Q .normal C (L' γ) (zblk zl γ H)) → ∀ (A : Fam) (w0 : World), (∀ β, Fr C (L' β) (A β)) → Hp C H w0 → ∀ γ, T w0 γ (A γ)) → FL P l.toArray T C (fun _ => L) H zl 0 l) : WC P (.region id l.toArray true) Q C L H := by
 intro a w hf hp
 refine wp_region_flowA_all (zget zl) hm hB ?_
 have h1 := h (fun w0 γ a' => ∀ w', Made w0.heap.size w0 (zget zl) l.length γ w' → Q .normal a' w')
  (fun L' hL A w0 hA hw0 γ w' hmade => hL γ (A γ) w' (hA γ) (hp_made hw0 hz hmade)) (fun _ => a) w.drew (fun _ => hf) hp.drew
 have hm : ∀ (l1 : List Oper) (k0 : Nat) (A : Fam), wpFlowA P l.toArray w.drew.heap.size w.drew (zget zl) (fun A => ∀ γ w', Made w.drew.heap.size w.drew (zget zl) l.length γ w' → Q .normal (A γ) w') l1 k0 A → wpFlowA P l.toArray w.drew.heap.size w.drew (zget zl) (fun A => ∀ γ w', Made w.drew.heap.size w.drew (zget zl) l.length γ w' → Q .normal (A γ) w') l1 k0 A := fun _ _ _ h => h
 exact hm _ _ _ h1

/-! ### operations that look at no block that the stores write may be taken first, whatever else is ready -/
def TW (P : Program) (ops : Array Oper) (C : Cx) (HK : List HA) (T : Sl → Prop) : Sl → List Oper → Prop
 | L, [] => T L
 | L, o :: r => ∃ v d, ((wantB ops L o = some true ∧ OV P C L HK o v) ∨ (wantB ops L o = some false ∧ v = undef)) ∧ o.dst = some d ∧ Nat.blt d C.n = true ∧ TW P ops C HK T ((d, v) :: L) r
theorem TW.val {HK : List HA} {T : Sl → Prop} {L : Sl} {v : Value} {d : Nat} (hv : OV P C L HK o v) (hw : wantB ops L o = some true) (hd : o.dst = some d) (hn : Nat.blt d C.n = true) (h : TW P ops C HK T ((d, v) :: L) rest) : TW P ops C HK T L (o :: rest) :=
 ⟨v, d, .inl ⟨hw, hv⟩, hd, hn, h⟩
theorem TW.skip {HK : List HA} {T : Sl → Prop} {L : Sl} {d : Nat} (hw : wantB ops L o = some false) (hd : o.dst = some d) (hn : Nat.blt d C.n = true) (h : TW P ops C HK T ((d, undef) :: L) rest) : TW P ops C HK T L (o :: rest) :=
 ⟨undef, d, .inr ⟨hw, rfl⟩, hd, hn, h⟩
theorem TW.nil {HK : List HA} {T : Sl → Prop} {L : Sl} (h : T L) : TW P ops C HK T L [] := h
/-- A list of operations in their order, S behind each. -/
def wpListS (P : Program) (ops : Array Oper) (Q : Exit → Act → World → Prop) (S : World → Prop) : List Oper → Act → World → Prop
 | [], a, w => Q .normal a w
 | o :: rest, a, w => Region.wanted o (yielded ops a.tmps) = true ∧ o.wp P a w (fun a' w' => S w' ∧ wpListS P ops Q S rest a' w') Q
def WLK (P : Program) (ops : Array Oper) (Q : Exit → Act → World → Prop) (C : Cx) (HK : List HA) (L : Sl) (H : List HA) (l : List Oper) : Prop := ∀ a w, Fr C L a → Hp C H w → wpListS P ops Q (Hp C HK) l a w
theorem WLK.op {HK H' : List HA} {L L' : Sl} (idx : List Nat) (hi : nodupB idx = true) (hk : sel H' idx = HK) (hop : OpK P o Q C L H L' H') (hw : wantB ops L o = some true) (h : WLK P ops Q C HK L' H' rest) : WLK P ops Q C HK L H (o :: rest) :=
 fun a w hf hp => ⟨wanted_of hf hw, hop _ (fun a' w' hf' hp' => ⟨hk ▸ hp'.pick idx hi, h a' w' hf' hp'⟩) a w hf hp⟩
theorem WLK.nil {HK : List HA} {L : Sl} (h : QX Q .normal C L H) : WLK P ops Q C HK L H [] := fun a w hf hp => h a w hf hp
theorem wpAnyH_of_seq {S : World → Prop} {md : Region.Mode} : ∀ (l : List Oper) (k : Nat) (listed : Array Bool) (a : Act) (w : World), (∀ j, l[j]? = ops[k + j]?) →
  Region.seqB md ops l.length k listed = true → wpListS P ops Q S l a w → wpAnyH P md ops Q S l.length listed a w
 | [], _, _, _, _, _, hB, h => ⟨by simpa [Region.seqB] using hB, h⟩
 | o :: l, k, listed, a, w, hl, hB, h => by
  have h0 : ops[k]? = some o := by simpa using (hl 0).symm
  simp only [List.length_cons, Region.seqB, Bool.and_eq_true, decide_eq_true_eq] at hB
  refine ⟨fun h1 => (by rw [hB.1] at h1; cases h1), fun i hi => ?_⟩
  rw [hB.1] at hi
  obtain rfl : i = k := by simpa using hi
  unfold wpOp
  simp only [h0, h.1, if_true]
  refine .inl (Oper.wp_mono (fun a' w' h' => ⟨h'.1, ?_⟩) h.2)
  exact wpAnyH_of_seq l (i + 1) _ a' w' (fun j => by have := hl (j + 1); simpa [Nat.add_assoc, Nat.add_comm 1 j] using this) hB.2 h'.2
theorem tw_any {g : Nat} {tail : List Oper} {HK : List HA} (hsel : Region.noSelect ops = true) (hq : Stays Q) (hg : tail.length = g) : ∀ (l : List Oper) (k : Nat) (listed : Array Bool) (L : Sl) (a : Act) (w : World), (∀ j, j < l.length → l[j]? = ops[k + j]?) → (∀ j, tail[j]? = ops[k + l.length + j]?) →
  Region.lexHead .any ops g l.length k listed = true → Fr C L a → Hp C H w → Hp C HK w → TW P ops C HK (fun L' => WLK P ops Q C HK L' H tail) L l → wpAnyH P .any ops Q (Hp C HK) (l.length + g) listed a w
 | [], k, listed, L, a, w, _, ht, hB, hf, hp, _, h => by
  have := wpAnyH_of_seq (md := .any) (Q := Q) (S := Hp C HK) tail k listed a w (fun j => by simpa using ht j) (by rw [hg]; simpa [Region.lexHead] using hB) (h a w hf hp)
  rw [hg] at this
  simpa using this
 | o :: l, k, listed, L, a, w, hl, ht, hB, hf, hp, hpk, ⟨v, d, hv, hd, hn, h⟩ => by
  have h0 : ops[k]? = some o := by simpa using (hl 0 (by simp)).symm
  simp only [List.length_cons, Region.lexHead, Bool.and_eq_true] at hB
  obtain ⟨⟨hrd, hfr⟩, hB'⟩ := hB
  have hy : YieldsIf P ops (Hp C HK) o v a := by
   rcases hv with ⟨hw, hv⟩ | ⟨hw, rfl⟩
   ·exact .inl ⟨wanted_of hf hw, fun w' hw' => hv a w' hf hw'⟩
   ·exact .inr ⟨wanted_of hf hw, rfl⟩
  have ih := tw_any hsel hq hg l (k + 1) (listed.setIfInBounds k true) ((d, v) :: L) (a.put (some d) v) w (fun j hj => by have := hl (j + 1) (by simp; omega); simpa [Nat.add_assoc, Nat.add_comm 1 j] using this)
   (fun j => by have := ht j; rw [List.length_cons] at this; rw [this]; congr 1; omega) hB' (hf.put hn v) hp hpk h
  rw [show (o :: l).length + g = (l.length + g) + 1 by simp; omega]
  refine wpAnyH_take h0 hsel hfr hrd (fun c a w h => hq c a _ v w h) hy hpk ?_
  rw [hd]; exact ih
/-- What must be shown behind operations that do not panic. -/
def NP (Q : Exit → Act → World → Prop) : Exit → Act → World → Prop
 | .panic _, _, _ => False
 | e, a, w => Q e a w
theorem wc_drawT {id : Nat} {l : List Oper} {L : Sl} (n : Nat) (idx : List Nat) (HK : List HA) (hi : nodupB idx = true) (hk : sel H idx = HK) (hm : P.follows .mixedOrders = true) (hB : (Region.noSelect l.toArray && Nat.ble n l.length && Region.lexHead .any l.toArray (l.length - n) n 0 (Array.replicate l.length false)) = true)
  (h : ∀ T : Sl → Prop, (∀ L', WLK P l.toArray (NP Q) C HK L' H (l.drop n) → T L') → TW P l.toArray C HK T L (l.take n)) : WC P (.region id l.toArray true) Q C L H := by
 intro a w hf hp
 simp only [Bool.and_eq_true] at hB
 obtain ⟨⟨hsel, hn⟩, hlex⟩ := hB
 have hn' : n ≤ l.length := Nat.le_of_ble_eq_true hn
 have htl : (l.take n).length = n := by simp; omega
 refine wp_mono (Q := NP Q) (wp_region_any hm ?_) (fun e a w hq => ?_)
 ·have := wpAny_of_held _ _ _ _ (tw_any (P := P) (ops := l.toArray) (Q := NP Q) (C := C) (H := H) (HK := HK) (g := l.length - n) (tail := l.drop n) hsel (fun _ _ _ _ _ h => h) (by simp) (l.take n) 0 (Array.replicate l.length false) L a w.drew
   (fun j hj => by rw [htl] at hj; simp [hj]) (fun j => by rw [htl]; simp [List.getElem?_drop]) (by rw [htl]; exact hlex) hf hp.drew (hk ▸ hp.drew.pick idx hi) (h _ fun _ hh => hh))
  rw [htl, show n + (l.length - n) = l.length by omega] at this
  simpa using this
 ·cases e <;> first | exact hq | exact hq.elim
end Go.Proofs.YtohnchdnkbadaaaDoor
namespace Go.Proofs.YtohnchdnkbadaaaDoor
open Go Go.RowKit

variable {P : Program} {ops : Array Oper} {Q : Exit → Act → World → Prop} {C : Cx} {L : Sl} {H : List HA} {rest : List Oper} {o : Oper}

/-! ### rounds of a loop, walked one by one -/
def RC (P : Program) (c : Code) (Q : Exit → Act → World → Prop) (n : Nat) (C : Cx) (L : Sl) (H : List HA) : Prop := ∀ a w, Fr C L a → Hp C H w → Code.rounds P c Q n a w
theorem wc_rounds {c : Code} (n : Nat) (h : RC P c Q n C L H) : WC P (.loop c) Q C L H := fun a w hf hp => wp_loop_rounds n (h a w hf hp)
theorem RC.succ {c : Code} {n : Nat} (h : ∀ K : Act → World → Prop, (∀ L H, RC P c Q n C L H → KX K C L H) → WC P c (Exit.then K Q) C L H) : RC P c Q (n + 1) C L H :=
 fun a w hf hp => h _ (fun _ _ hr => hr) a w hf hp

section ov
variable {x y z : Operand} {u v : Value} {t t' ty e' : TypeId} {d : Option Tmp} {p : String} {e : Array Edge} {g : Option (Nat × Bool)} {n m : Int} {k k' : IntKind} {b off sz : Nat}
theorem OV.minI (hx : ev L x = some (.int .i64 n)) (hy : ev L y = some (.int .i64 m)) {ts : Array TypeId} : OV P C L H ⟨d, .call ⟨.builtin .min, #[x, y], ts⟩, ty, p, e, g⟩ (.int .i64 (min n m)) := fun a w hf _ => by
 have h : (Builtin.min_ ts ty #[.int .i64 n, .int .i64 m]).run P w = .ok (.int .i64 (min n m)) w := by
  have e1 : min n m = if m < n then m else n := by split <;> omega
  rw [e1]; exact run_min_int2 w _ _ _ _ _ _
 simp only [execOp, resolve, invoke, builtin, Sem.run_bind, Sem.run_pure, Result.andThen_ok, List.map_toArray, List.map_cons, List.map_nil, hf.ev hx, hf.ev hy, h]
theorem OV.shl (hx : ev L x = some (.int k n)) (hy : ev L y = some (.int k' m)) (hb : 0 ≤ m ∧ m ≤ k.bits) : OV P C L H ⟨d, .binOp .shl t x y t', ty, p, e, g⟩ (.int k (k.wrap (n * 2 ^ m.toNat))) := fun a w hf _ => by
 have h := shift_shl k k' n m hb.1 hb.2
 simp [execOp, hf.ev hx, hf.ev hy, eqGuard, binOp, h]
theorem OV.bits_or (hx : ev L x = some (.int k n)) (hy : ev L y = some (.int k m)) : OV P C L H ⟨d, .binOp .or t x y t', ty, p, e, g⟩ (.int k (bits .or k n m)) := fun a w hf _ => by
 simp [execOp, hf.ev hx, hf.ev hy, eqGuard, binOp, intBits_or]
/-- A struct out of an array's value, at a place that is told. -/
theorem OV.indexM {nn : Nat} {i : Int} {cs vs : List Value} (hx : ev L x = some (.agg cs.toArray)) (hy : ev L y = some (.int k i)) (ht : arrB P t e' nn sz = true) (hb : 0 ≤ i ∧ i < nn) (hr : RowT P e' sz) (hv : (cs.drop (i.toNat * sz)).take sz = vs) :
  OV P C L H ⟨d, .index t x y, ty, p, e, g⟩ (.agg vs.toArray) := fun a w hf _ => by
 obtain ⟨hu, hs⟩ := arrB_spec ht
 have hagg : (isAgg e').run P w = .ok true w := by
  unfold isAgg
  rcases hr.desc with ⟨_, h⟩ | ⟨_, _, h⟩ <;> (rw [Sem.run_bind, run_under h]; rfl)
 have hp : (part e' cs.toArray (i.toNat * sz)).run P w = .ok (.agg vs.toArray) w := by
  simp only [part, Sem.run_bind, hagg, Result.andThen_ok, if_true, run_size hs, Sem.run_pure]
  rw [← hv]
  congr 3
  simp [List.extract_eq_take_drop]
 simp [execOp, hf.ev hx, hf.ev hy, Instr.index, run_under hu, asIntOf, hb, run_size hs, hp]
end ov

/-- A store of a whole block. -/
theorem OpK.storeW {x y : Operand} {t ty T : TypeId} {p : String} {e : Array Edge} {g : Option (Nat × Bool)} {b n : Nat} {v : Value} {cs vs : List Value} (i : Nat)
  (hx : ev L x = some (.pointer (some ⟨b, 0, none⟩))) (hy : ev L y = some v) (hi : H[i]? = some (.blk b (.cells cs.toArray T (0, 0)))) (hv : v.cells = vs.toArray) (hn : vs.length = n) (hs : sizeB P t n = true)
  (hl : vs.length = cs.length) (h1 : vs.all (·.oneCell') = true) : OpK P ⟨none, .store t x y, ty, p, e, g⟩ Q C L H L (H.set i (.blk b (.cells vs.toArray T (0, 0)))) := by
 subst hn
 refine OpK.store (vs := vs) i hx hy hi hv hs (by omega) h1 ?_
 rw [List.drop_eq_nil_of_le (by omega)]; simp
theorem WL.storeW {x y : Operand} {t ty T : TypeId} {p : String} {e : Array Edge} {g : Option (Nat × Bool)} {b n : Nat} {v : Value} {cs vs : List Value} (i : Nat)
  (hx : ev L x = some (.pointer (some ⟨b, 0, none⟩))) (hy : ev L y = some v) (hi : H[i]? = some (.blk b (.cells cs.toArray T (0, 0)))) (hv : v.cells = vs.toArray) (hn : vs.length = n) (hs : sizeB P t n = true)
  (hl : vs.length = cs.length) (h1 : vs.all (·.oneCell') = true) (hw : wantB ops L ⟨none, .store t x y, ty, p, e, g⟩ = some true)
  (h : WL P ops Q C L (H.set i (.blk b (.cells vs.toArray T (0, 0)))) rest) : WL P ops Q C L H (⟨none, .store t x y, ty, p, e, g⟩ :: rest) :=
 WL.op (OpK.storeW i hx hy hi hv hn hs hl h1) hw h
end Go.Proofs.YtohnchdnkbadaaaDoor
namespace Go.Proofs.YtohnchdnkbadaaaDoor.SB
open Go Go.RowKit

section
variable {P : Program} {ops : Array Oper} {md : Region.Mode} {B : Nat} {w0 : World} {Zs : Nat → Option Obj} {Ws : Nat → Option (Nat × Obj)}

/-- A world that differs in one block alone. -/
structure Upd (b : Nat) (Z : Obj) (w w' : World) : Prop where
 os : w'.os = w.os
 tape : w'.tape = w.tape
 output : w'.output = w.output
 size : w'.heap.size = w.heap.size
 oth : ∀ k, k ≠ b → w'.heap[k]? = w.heap[k]?
 blk : w'.heap[b]? = some Z
def Stores (b : Nat) (Z : Obj) (w : World) : Result Next → Prop
 | .ok (.value _) w' => Upd b Z w w'
 | .ok .skip w' => Upd b Z w w'
 | _ => False

/-- What an operation gives in a family of frames. -/
def FamGives (P : Program) (ops : Array Oper) (B : Nat) (w0 : World) (Zs : Nat → Option Obj) (Ws : Nat → Option (Nat × Obj)) (i : Nat) (o : Oper) (v : Blocks → Value) (A : Fam) : Prop :=
 (∃ Z, ∃ f : Nat → Value, Zs i = some Z ∧ Ws i = none ∧ v = (fun β => f (β i)) ∧ ∀ β, Region.wanted o (yielded ops (A β).tmps) = true ∧ ∀ w, Below B w0 w → (execOp (A β).eval o).run P w = .ok (.value (f w.heap.size)) (w.alloc Z)) ∨
 (∃ j Z Z', Zs i = none ∧ Ws i = some (j, Z') ∧ Zs j = some Z ∧ o.dst = none ∧ (o.after.toList.any fun e => Region.binds .any e && Nat.beq e.on j) = true ∧ ∀ β, Region.wanted o (yielded ops (A β).tmps) = true ∧ ∀ w, Below B w0 w → w.heap[β j]? = some Z → Stores (β j) Z' w ((execOp (A β).eval o).run P w)) ∨
 (Zs i = none ∧ Ws i = none ∧ ∃ u, v = (fun _ => u) ∧ ∀ β, (Region.wanted o (yielded ops (A β).tmps) = true ∧ ∀ w, Below B w0 w → GivesB P u w ((execOp (A β).eval o).run P w)) ∨
  (Region.wanted o (yielded ops (A β).tmps) = false ∧ u = undef))

theorem FamGives.of_same {i : Nat} {o : Oper} {v : Blocks → Value} {A A' : Fam} (hy : FamGives P ops B w0 Zs Ws i o v A) (he : ∀ β, execOp (A' β).eval o = execOp (A β).eval o)
  (hw : ∀ β, Region.wanted o (yielded ops (A' β).tmps) = Region.wanted o (yielded ops (A β).tmps)) : FamGives P ops B w0 Zs Ws i o v A' := by
 unfold FamGives at *; simp only [he, hw]; exact hy

def flOpA (P : Program) (ops : Array Oper) (B : Nat) (w0 : World) (Zs : Nat → Option Obj) (Ws : Nat → Option (Nat × Obj)) (i : Nat) (K : Fam → Prop) (A : Fam) : Prop :=
 match ops[i]? with
 | none => K A
 | some o => ∃ v, FamGives P ops B w0 Zs Ws i o v A ∧ K (A.put o.dst v)

theorem flOpA_mono {i : Nat} {A : Fam} {K K' : Fam → Prop} (h : ∀ A, K A → K' A) (hh : flOpA P ops B w0 Zs Ws i K A) : flOpA P ops B w0 Zs Ws i K' A := by
 unfold flOpA at *
 split
 ·exact h _ (by simpa [*] using hh)
 ·rename_i o ho
  simp only [ho] at hh
  obtain ⟨v, hy, hk⟩ := hh
  exact ⟨v, hy, h _ hk⟩

theorem FamGives.flOpA {i : Nat} {o : Oper} {v : Blocks → Value} {A : Fam} (hi : ops[i]? = some o) (hy : FamGives P ops B w0 Zs Ws i o v A) {K : Fam → Prop} (h : K (A.put o.dst v)) : flOpA P ops B w0 Zs Ws i K A := by
 unfold SB.flOpA; simp only [hi]; exact ⟨v, hy, h⟩

theorem flOpA_put {i j : Nat} {oi oj : Oper} {v : Blocks → Value} (hj : ops[j]? = some oj) (hap : oi.apart ops oj = true)
  (hsi : ∀ cs b, oi.op ≠ .select cs b) (hsj : ∀ cs b, oj.op ≠ .select cs b) {K : Fam → Prop} {A : Fam}
  (hy : FamGives P ops B w0 Zs Ws i oi v A) (h : flOpA P ops B w0 Zs Ws j K (A.put oi.dst v)) :
  flOpA P ops B w0 Zs Ws j (fun A' => FamGives P ops B w0 Zs Ws i oi v A' ∧ K (A'.put oi.dst v)) A := by
 obtain ⟨h1, h2, h3⟩ := Oper.apart_spec hap
 unfold flOpA at *
 simp only [hj] at *
 obtain ⟨u, hu, hk⟩ := h
 refine ⟨u, hu.of_same (fun β => (execOp_put oj hsj (A β) oi.dst (v β) h1).symm) (fun β => (wanted_put oj (A β) oi.dst (v β) h1).symm), ?_, ?_⟩
 ·exact hy.of_same (fun β => execOp_put oi hsi (A β) oj.dst (u β) h3) (fun β => wanted_put oi (A β) oj.dst (u β) h3)
 ·have e : (A.put oj.dst u).put oi.dst v = (A.put oi.dst v).put oj.dst u := by funext β; exact (Act.put_comm (A β) (v β) (u β) h2).symm
  rw [e]; exact hk

/-- What is known of the world after some operations of the head. -/
structure Facts (B : Nat) (w0 : World) (Zs : Nat → Option Obj) (Ws : Nat → Option (Nat × Obj)) (listed : Array Bool) (γ : Blocks) (w : World) : Prop where
 below : Below B w0 w
 blk : ∀ i Z, Zs i = some Z → listed.getD i false = true → B ≤ γ i ∧ ((∀ s Z', Ws s = some (i, Z') → listed.getD s false = false) → w.heap[γ i]? = some Z) ∧ (∀ s Z', Ws s = some (i, Z') → listed.getD s false = true → w.heap[γ i]? = some Z')
 lt : ∀ i Z, Zs i = some Z → listed.getD i false = true → γ i < w.heap.size
 aft : ∀ s i Z', Ws s = some (i, Z') → listed.getD s false = true → listed.getD i false = true
 inj : ∀ i j Z Z', Zs i = some Z → Zs j = some Z' → listed.getD i false = true → listed.getD j false = true → γ i = γ j → i = j

def wpAnyFA (P : Program) (md : Region.Mode) (ops : Array Oper) (B : Nat) (w0 : World) (Zs : Nat → Option Obj) (Ws : Nat → Option (Nat × Obj)) (n : Nat) (L : Array Bool → Fam → Prop) : Nat → Array Bool → Fam → Prop
 | 0, listed, A => L listed A
 | f + 1, listed, A =>
  Region.ready md ops listed ≠ [] ∧ ∀ i ∈ Region.ready md ops listed, i < n ∧ flOpA P ops B w0 Zs Ws i (wpAnyFA P md ops B w0 Zs Ws n L f (listed.setIfInBounds i true)) A

theorem getD_set_mono {l : Array Bool} {i j : Nat} (h : l.getD j false = true) : (l.setIfInBounds i true).getD j false = true := by
 by_cases e : i = j
 ·subst e
  have : i < l.size := by
   rcases Nat.lt_or_ge i l.size with h2 | h2
   ·exact h2
   ·simp [Array.getD, Nat.not_lt.2 h2] at h
  simp [Array.getD, this]
 ·rw [getD_set_ne false e]; exact h
theorem getD_set_self {l : Array Bool} {i : Nat} (h : i < l.size) : (l.setIfInBounds i true).getD i false = true := by simp [Array.getD, h]
theorem Facts.plain {listed : Array Bool} {γ : Blocks} {w w' : World} {i : Nat} (hf : Facts B w0 Zs Ws listed γ w) (hB : B ≤ w0.heap.size) (hz : Zs i = none) (hw : Ws i = none) (hb : Below w.heap.size w w') : Facts B w0 Zs Ws (listed.setIfInBounds i true) γ w' := by
 have old : ∀ j Z, Zs j = some Z → (listed.setIfInBounds i true).getD j false = true → listed.getD j false = true := fun j Z hj hl => by
  rcases getD_set_iff hl with h | h
  ·exact h
  ·rw [h, hz] at hj; cases hj
 have oldS : ∀ s x, Ws s = some x → (listed.setIfInBounds i true).getD s false = listed.getD s false := fun s x hs => by
  refine getD_set_ne false fun e => ?_
  rw [← e, hw] at hs; cases hs
 refine ⟨hf.below.trans (hb.mono (Nat.le_trans hB hf.below.size)), fun j Z hj hl => ?_, fun j Z hj hl => Nat.lt_of_lt_of_le (hf.lt j Z hj (old j Z hj hl)) hb.size, fun s j Z' hs hl => ?_, fun j k Z Z' hj hk hl hl' => hf.inj j k Z Z' hj hk (old j Z hj hl) (old k Z' hk hl')⟩
 ·obtain ⟨h1, h2, h3⟩ := hf.blk j Z hj (old j Z hj hl)
  have hlt := hf.lt j Z hj (old j Z hj hl)
  refine ⟨h1, fun hn => ?_, fun s Z' hs hl' => ?_⟩
  ·rw [hb.block _ hlt]
   exact h2 fun s Z' hs => by rw [← oldS s _ hs]; exact hn s Z' hs
  ·rw [hb.block _ hlt]
   rw [oldS s _ hs] at hl'
   exact h3 s Z' hs hl'
 ·rw [oldS s _ hs] at hl
  have h1 := hf.aft s j Z' hs hl
  by_cases e : i = j
  ·subst e
   exact getD_set_mono h1
  ·rw [getD_set_ne false e]; exact h1

theorem Facts.made {listed : Array Bool} {γ : Blocks} {w : World} {i : Nat} {Z : Obj} (hf : Facts B w0 Zs Ws listed γ w) (hB : B ≤ w0.heap.size) (hz : Zs i = some Z) (hw : Ws i = none) (hun : listed.getD i false = false) :
  Facts B w0 Zs Ws (listed.setIfInBounds i true) (fun j => if j = i then w.heap.size else γ j) (w.alloc Z) := by
 have hbw : B ≤ w.heap.size := Nat.le_trans hB hf.below.size
 have oldS : ∀ s x, Ws s = some x → (listed.setIfInBounds i true).getD s false = listed.getD s false := fun s x hs => by
  refine getD_set_ne false fun e => ?_
  rw [← e, hw] at hs; cases hs
 have lt : ∀ j Z', Zs j = some Z' → (listed.setIfInBounds i true).getD j false = true → j ≠ i → γ j < w.heap.size := fun j Z' hj hl hn => by
  rcases getD_set_iff hl with h | h
  ·exact hf.lt j Z' hj h
  ·exact absurd h hn
 refine ⟨hf.below.alloc hbw Z, fun j Z' hj hl => ?_, fun j Z' hj hl => ?_, fun s j Z' hs hl => ?_, fun j k Z1 Z2 hj hk hl hl' he => ?_⟩
 ·by_cases hji : j = i
  ·subst hji
   rw [hz] at hj
   obtain rfl := Option.some.inj hj
   simp only [if_pos]
   refine ⟨hbw, fun _ => heap_alloc_new w Z, fun s Z' hs hl' => ?_⟩
   rw [oldS s _ hs] at hl'
   have := hf.aft s j Z' hs hl'
   rw [hun] at this; cases this
  ·simp only [if_neg hji]
   rcases getD_set_iff hl with h | h
   ·obtain ⟨h1, h2, h3⟩ := hf.blk j Z' hj h
    have hlt := hf.lt j Z' hj h
    refine ⟨h1, fun hn => ?_, fun s Z2 hs hl' => ?_⟩
    ·rw [heap_alloc_old _ _ (h := hlt)]
     exact h2 fun s Z' hs => by rw [← oldS s _ hs]; exact hn s Z' hs
    ·rw [heap_alloc_old _ _ (h := hlt)]
     rw [oldS s _ hs] at hl'
     exact h3 s Z2 hs hl'
   ·exact absurd h hji
 ·by_cases hji : j = i
  ·subst hji; simp only [if_pos]; rw [World.size_alloc]; omega
  ·simp only [if_neg hji]; rw [World.size_alloc]; have := lt j Z' hj hl hji; omega
 ·rw [oldS s _ hs] at hl
  exact getD_set_mono (hf.aft s j Z' hs hl)
 ·by_cases h1 : j = i <;> by_cases h2 : k = i
  ·rw [h1, h2]
  ·rw [if_pos h1, if_neg h2] at he
   have := lt k Z2 hk hl' h2
   omega
  ·rw [if_neg h1, if_pos h2] at he
   have := lt j Z1 hj hl h1
   omega
  ·rw [if_neg h1, if_neg h2] at he
   rcases getD_set_iff hl with h3 | h3
   ·rcases getD_set_iff hl' with h4 | h4
    ·exact hf.inj j k Z1 Z2 hj hk h3 h4 he
    ·exact absurd h4 h2
   ·exact absurd h3 h1

theorem Facts.stored {listed : Array Bool} {γ : Blocks} {w w' : World} {i j : Nat} {Z Z' : Obj} (hf : Facts B w0 Zs Ws listed γ w) (hz : Zs i = none) (hws : Ws i = some (j, Z')) (hzj : Zs j = some Z) (hj : listed.getD j false = true)
  (hin : i < listed.size) (huniq : ∀ s t x y, Ws s = some (x, y) → Ws t = some (x, Z') → s = t) (hu : Upd (γ j) Z' w w') : Facts B w0 Zs Ws (listed.setIfInBounds i true) γ w' := by
 have old : ∀ k Z, Zs k = some Z → (listed.setIfInBounds i true).getD k false = true → listed.getD k false = true := fun k Z hk hl => by
  rcases getD_set_iff hl with h | h
  ·exact h
  ·rw [h, hz] at hk; cases hk
 have hbj := (hf.blk j Z hzj hj).1
 refine ⟨⟨hu.os.trans hf.below.os, hu.tape.trans hf.below.tape, hu.output.trans hf.below.output, by rw [hu.size]; exact hf.below.size, fun k hk => ?_⟩, fun k Zk hk hl => ?_, fun k Zk hk hl => by rw [hu.size]; exact hf.lt k Zk hk (old k Zk hk hl), fun s k Z2 hs hl => ?_, fun k l Z1 Z2 hk hl h1 h2 => hf.inj k l Z1 Z2 hk hl (old k Z1 hk h1) (old l Z2 hl h2)⟩
 ·rw [hu.oth k (by omega)]; exact hf.below.block k hk
 ·obtain ⟨h1, h2, h3⟩ := hf.blk k Zk hk (old k Zk hk hl)
  refine ⟨h1, fun hn => ?_, fun s Z2 hs hl' => ?_⟩
  ·by_cases e : k = j
   ·subst e
    have := hn i Z' hws
    rw [getD_set_self hin] at this; cases this
   ·rw [hu.oth _ (fun e2 => e (hf.inj k j Zk Z hk hzj (old k Zk hk hl) hj e2))]
    refine h2 fun s Z2 hs => ?_
    have h4 := hn s Z2 hs
    cases hb : listed.getD s false with
    | false => rfl
    | true => rw [getD_set_mono hb] at h4; cases h4
  ·by_cases e : k = j
   ·subst e
    have e2 : s = i := huniq s i k Z2 hs hws
    subst e2
    rw [hws] at hs
    obtain ⟨_, rfl⟩ := Prod.mk.inj (Option.some.inj hs)
    exact hu.blk
   ·rw [hu.oth _ (fun e2 => e (hf.inj k j Zk Z hk hzj (old k Zk hk hl) hj e2))]
    rcases getD_set_iff hl' with h | h
    ·exact h3 s Z2 hs h
    ·subst h
     rw [hws] at hs
     exact absurd (Prod.mk.inj (Option.some.inj hs)).1.symm e
 ·rcases getD_set_iff hl with h | h
  ·exact getD_set_mono (hf.aft s k Z2 hs h)
  ·subst h
   rw [hws] at hs
   obtain ⟨rfl, _⟩ := Prod.mk.inj (Option.some.inj hs)
   exact getD_set_mono hj

theorem wpAny_of_flowA {n g : Nat} {L : Array Bool → Fam → Prop} {Q' : Exit → Act → World → Prop} (hB : B ≤ w0.heap.size) (hmd : md = .any) (huniq : ∀ s t x y z, Ws s = some (x, y) → Ws t = some (x, z) → s = t)
  (hL : ∀ listed A γ w, Facts B w0 Zs Ws listed γ w → L listed A → wpAny P md ops Q' g listed (A γ) w) :
  ∀ (f : Nat) (listed : Array Bool) (A : Fam) (γ : Blocks) (w : World), listed.size = ops.size → Settled listed A → Facts B w0 Zs Ws listed γ w → wpAnyFA P md ops B w0 Zs Ws n L f listed A → wpAny P md ops Q' (f + g) listed (A γ) w
 | 0, listed, A, γ, w, _, _, hF, h => by rw [Nat.zero_add]; exact hL _ _ _ _ hF h
 | f + 1, listed, A, γ, w, hsz, hA, hF, h => by
  rw [show f + 1 + g = (f + g) + 1 by omega]
  refine ⟨fun h0 => absurd h0 h.1, fun i hi => ?_⟩
  have hh := (h.2 i hi).2
  obtain ⟨hun, o, ho, _⟩ := mem_ready.1 hi
  have hin : i < ops.size := (Array.getElem?_eq_some_iff.1 ho).1
  have hnow : ∀ j, listed.getD j false = true → (listed.setIfInBounds i true).getD j false = true := fun j hj => by
   by_cases e : i = j
   ·subst e; simp [Array.getD, hsz, hin]
   ·rw [getD_set_ne false e]; exact hj
  have hset : (listed.setIfInBounds i true).getD i false = true := by simp [Array.getD, hsz, hin]
  have hsz' : (listed.setIfInBounds i true).size = ops.size := by simpa using hsz
  unfold flOpA at hh
  unfold wpOp
  simp only [ho] at hh ⊢
  obtain ⟨v, hv, hk⟩ := hh
  rcases hv with ⟨Z, fv, hz, hws, rfl, hg⟩ | ⟨j, Z, Z', hz, hws, hzj, hdst, haf, hg⟩ | ⟨hz, hws, u, rfl, hg⟩
  ·obtain ⟨hw, hx⟩ := hg γ
   simp only [hw, if_true]
   refine .inl ?_
   unfold Oper.wp
   rw [hx w hF.below]
   simp only [Oper.upon]
   have hF' := hF.made hB hz hws (getD_both hun)
   have hA' : Settled (listed.setIfInBounds i true) (A.put o.dst (fun β => fv (β i))) := fun β β' hb => by
    show (A β).put o.dst (fv (β i)) = (A β').put o.dst (fv (β' i))
    rw [hA β β' (fun j hj => hb j (hnow j hj)), hb i hset]
   have := wpAny_of_flowA hB hmd huniq hL f _ _ _ _ hsz' hA' hF' hk
   have e : (A.put o.dst (fun β => fv (β i))) (fun j => if j = i then w.heap.size else γ j) = (A γ).put o.dst (fv w.heap.size) := by
    show (A _).put o.dst _ = _
    rw [hA _ γ (fun j hj => by
     by_cases e : j = i
     ·subst e; rw [getD_both hun] at hj; cases hj
     ·simp [e])]
    simp
   rw [e] at this
   exact this
  ·obtain ⟨hw, hx⟩ := hg γ
   simp only [hw, if_true]
   refine .inl ?_
   obtain ⟨_, o2, ho2, hall⟩ := mem_ready.1 hi
   rw [ho] at ho2
   obtain rfl := Option.some.inj ho2
   obtain ⟨ed, hem, heb⟩ := List.any_eq_true.1 haf
   simp only [Bool.and_eq_true] at heb
   have hjl0 := hall ed (Array.mem_toList_iff.1 hem) (by rw [hmd]; exact heb.1)
   have hjl : listed.getD j false = true := by rw [← Nat.eq_of_beq_eq_true heb.2]; exact hjl0
   have hbl := hF.blk j Z hzj hjl
   have hZ : w.heap[γ j]? = some Z := hbl.2.1 fun s Z2 hs => by
    have e2 : s = i := huniq s i j Z2 Z' hs hws
    rw [e2]; exact getD_both hun
   have hS := hx w hF.below hZ
   have hA' : Settled (listed.setIfInBounds i true) (A.put o.dst v) := fun β β' hb => by
    show (A β).put o.dst (v β) = (A β').put o.dst (v β')
    rw [hdst]; exact hA β β' (fun k hk => hb k (hnow k hk))
   have hput : ∀ u, (A γ).put o.dst u = (A.put o.dst v) γ := fun u => by show _ = (A γ).put o.dst (v γ); rw [hdst]; rfl
   unfold Oper.wp
   generalize (execOp (A γ).eval o).run P w = r at hS ⊢
   cases r with
   | ok m w' =>
    cases m <;> simp only [Stores] at hS <;> simp only [Oper.upon]
    all_goals (rw [hput]; exact wpAny_of_flowA hB hmd huniq hL f _ _ _ _ hsz' hA' (hF.stored hz hws hzj hjl (by rw [hsz]; exact hin) (fun s t x y h1 h2 => huniq s t x y _ h1 h2) hS) hk)
   | halt x w' => simp only [Stores] at hS
  ·have hA' : Settled (listed.setIfInBounds i true) (A.put o.dst (fun _ => u)) := fun β β' hb => by
    show (A β).put o.dst u = (A β').put o.dst u
    rw [hA β β' (fun j hj => hb j (hnow j hj))]
   rcases hg γ with ⟨hw, hx⟩ | ⟨hw, rfl⟩
   ·simp only [hw, if_true]
    refine .inl ?_
    unfold Oper.wp
    have hg' := hx w hF.below
    generalize (execOp (A γ).eval o).run P w = r at hg' ⊢
    cases r with
    | ok m w' =>
     cases m <;> simp only [GivesB] at hg' <;> simp only [Oper.upon]
     case enter f' args => exact hg'.mono fun e w'' ⟨he, hs⟩ => by subst he; exact wpAny_of_flowA hB hmd huniq hL f _ _ _ _ hsz' hA' (hF.plain hB hz hws hs) hk
     all_goals (obtain ⟨rfl, hs⟩ := hg'; exact wpAny_of_flowA hB hmd huniq hL f _ _ _ _ hsz' hA' (hF.plain hB hz hws hs) hk)
    | halt x w' => simp only [GivesB] at hg'
   ·simp only [hw, Bool.false_eq_true, if_false]
    exact wpAny_of_flowA hB hmd huniq hL f _ _ _ _ hsz' hA' (hF.plain hB hz hws (Below.refl _ _)) hk

theorem wpAnyFA_first {n i : Nat} {oi : Oper} {v : Blocks → Value} {L : Array Bool → Fam → Prop} {Inv : Array Bool → Prop} (hi : ops[i]? = some oi) (hsel : ∀ (j : Nat) (o : Oper) cs b, ops[j]? = some o → o.op ≠ .select cs b)
  (hr : HeadRule md ops n Inv) (hin : i < n) (hdone : ∀ listed A, L listed A → ∀ j ∈ Region.ready md ops listed, n ≤ j) :
  ∀ (f : Nat) (listed : Array Bool) (A : Fam), Inv listed →
   (∀ j oj, ops[j]? = some oj → j ≠ i → listed.getD j true = false → (∀ e ∈ oj.after, Region.binds md e = true → e.on ≠ i) → oi.apart ops oj = true) →
   i ∈ Region.ready md ops listed → FamGives P ops B w0 Zs Ws i oi v A →
   wpAnyFA P md ops B w0 Zs Ws n L f (listed.setIfInBounds i true) (A.put oi.dst v) → wpAnyFA P md ops B w0 Zs Ws n L (f + 1) listed A := by
 intro f
 induction f with
 | zero =>
  intro listed A inv _ hri hy H
  refine ⟨fun h => (by rw [h] at hri; cases hri), fun j hj => ?_⟩
  have hjn := hr.first listed i inv hin (mem_ready.1 hri).1 j hj
  refine ⟨hjn, ?_⟩
  by_cases hji : j = i
  ·subst hji; exact hy.flOpA hi H
  ·have := hdone _ _ H j (ready_mono hj hji)
   omega
 | succ f ih =>
  intro listed A inv hfree hri hy H
  refine ⟨fun h => (by rw [h] at hri; cases hri), fun j hj => ?_⟩
  have hjn := hr.first listed i inv hin (mem_ready.1 hri).1 j hj
  refine ⟨hjn, ?_⟩
  by_cases hji : j = i
  ·subst hji; exact hy.flOpA hi H
  ·have h1 := (H.2 j (ready_mono hj hji)).2
   obtain ⟨hjun, oj, hoj, hall⟩ := mem_ready.1 hj
   have hnot : ∀ e ∈ oj.after, Region.binds md e = true → e.on ≠ i := fun e he hb heq => by
    have h1 := hall e he hb
    rw [heq, getD_both (mem_ready.1 hri).1] at h1
    cases h1
   have h2 := flOpA_put hoj (hfree j oj hoj hji hjun hnot) (fun cs b => hsel i oi cs b hi) (fun cs b => hsel j oj cs b hoj) hy h1
   refine flOpA_mono (fun A' h3 => ih (listed.setIfInBounds j true) A' (hr.step _ _ inv hj hjn) ?_ (ready_mono hri (Ne.symm hji)) h3.1 ?_) h2
   ·intro k ok hk hki hun hno
    refine hfree k ok hk hki ?_ hno
    by_cases hjk : j = k
    ·subst hjk; exact hjun
    ·rw [getD_set_ne true hjk] at hun; exact hun
   ·rw [Array.setIfInBounds_comm _ _ hji]
    exact h3.2

/-- The walk in the order of the text; k numbers the operations. -/
def wpFlowA (P : Program) (ops : Array Oper) (B : Nat) (w0 : World) (Zs : Nat → Option Obj) (Ws : Nat → Option (Nat × Obj)) (Q : Fam → Prop) : List Oper → Nat → Fam → Prop
 | [], _, A => Q A
 | o :: rest, k, A => ∃ v, FamGives P ops B w0 Zs Ws k o v A ∧ wpFlowA P ops B w0 Zs Ws Q rest (k + 1) (A.put o.dst v)

theorem wpAnyFA_lex {n g : Nat} {L : Array Bool → Fam → Prop} {Lq : Fam → Prop} {Inv : Array Bool → Prop} (hsel : Region.noSelect ops = true) (hr : HeadRule md ops n Inv)
  (hdone : ∀ listed A, L listed A → ∀ j ∈ Region.ready md ops listed, n ≤ j)
  (hend : ∀ listed A, Region.seqB md ops g n listed = true → (∀ j, j < n → listed.getD j false = true) → Lq A → L listed A) :
  ∀ (l : List Oper) (k : Nat) (listed : Array Bool) (A : Fam), (∀ j, j < l.length → l[j]? = ops[k + j]?) → k + l.length = n → Inv listed → listed.size = ops.size → (∀ j, j < k → listed.getD j false = true) →
  Region.lexHead md ops g l.length k listed = true → wpFlowA P ops B w0 Zs Ws Lq l k A → wpAnyFA P md ops B w0 Zs Ws n L l.length listed A
 | [], k, listed, A, _, hk, _, _, hls, hB, h => by
  have : k = n := by simpa using hk
  subst this
  exact hend _ _ (by simpa [Region.lexHead] using hB) hls h
 | o :: l, k, listed, A, hl, hk, inv, hsz, hls, hB, h => by
  have h0 : ops[k]? = some o := by simpa using (hl 0 (by simp)).symm
  have hin : k < ops.size := (Array.getElem?_eq_some_iff.1 h0).1
  simp only [List.length_cons, Region.lexHead, Bool.and_eq_true] at hB
  obtain ⟨⟨hrd, hf⟩, hB'⟩ := hB
  have hkn : k < n := by simp only [List.length_cons] at hk; omega
  have hr' : k ∈ Region.ready md ops listed := by simpa using hrd
  obtain ⟨v, hy, hK⟩ := h
  refine wpAnyFA_first h0 (Region.noSelect_spec hsel) hr hkn hdone l.length listed A inv (Region.free_spec h0 hf) hr' hy
   (wpAnyFA_lex hsel hr hdone hend l (k + 1) _ _ (fun j hj => by have := hl (j + 1) (by simp; omega); simpa [Nat.add_assoc, Nat.add_comm 1 j] using this) (by simp only [List.length_cons] at hk; omega) (hr.step _ _ inv hr' hkn) (by simpa using hsz) (fun j hj => ?_) hB' hK)
  by_cases e : k = j
  ·subst e; simp [Array.getD, hsz, hin]
  ·rw [getD_set_ne false e]; exact hls j (by omega)

/-- What is known behind the region. -/
structure Made (B : Nat) (w0 : World) (Zs : Nat → Option Obj) (Ws : Nat → Option (Nat × Obj)) (n : Nat) (γ : Blocks) (w : World) : Prop where
 below : Below B w0 w
 blk : ∀ i Z, i < n → Zs i = some Z → B ≤ γ i ∧ γ i < w.heap.size ∧ ((∀ s Z', Ws s ≠ some (i, Z')) → w.heap[γ i]? = some Z) ∧ (∀ s Z', s < n → Ws s = some (i, Z') → w.heap[γ i]? = some Z')
 inj : ∀ i j Z Z', i < n → j < n → Zs i = some Z → Zs j = some Z' → γ i = γ j → i = j

/-- A region that is all head. -/
theorem wp_region_flowA_all {id : Nat} {Q : Exit → Act → World → Prop} {a : Act} {w : World} {l : List Oper} (Zs : Nat → Option Obj) (Ws : Nat → Option (Nat × Obj)) (hm : P.follows .mixedOrders = true) (hB : flowB l.toArray = true) (huniq : ∀ s t x y z, Ws s = some (x, y) → Ws t = some (x, z) → s = t)
  (h : wpFlowA P l.toArray w.drew.heap.size w.drew Zs Ws (fun A => ∀ γ w', Made w.drew.heap.size w.drew Zs Ws l.length γ w' → Q .normal (A γ) w') l 0 (fun _ => a)) : (Code.region id l.toArray true).wp P Q a w := by
 simp only [flowB, Bool.and_eq_true] at hB
 refine wp_region_any hm ?_
 have H := wpAnyFA_lex (md := .any) (n := l.toArray.size) (g := 0)
  (L := fun listed a' => Region.ready .any l.toArray listed = [] ∧ (∀ j, j < l.length → listed.getD j false = true) ∧ ∀ γ w', Made w.drew.heap.size w.drew Zs Ws l.length γ w' → Q .normal (a' γ) w') (Inv := fun _ => True) hB.1
  ⟨fun _ _ _ _ _ => trivial, fun listed i _ _ _ j hj => by obtain ⟨_, o, ho, _⟩ := mem_ready.1 hj; exact (Array.getElem?_eq_some_iff.1 ho).1⟩
  (fun listed a' hL j hj => by rw [hL.1] at hj; cases hj)
  (fun listed a' hs hls hq => ⟨by simpa [Region.seqB] using hs, fun j hj => hls j (by simpa using hj), hq⟩)
  l 0 (Array.replicate l.toArray.size false) (fun _ => a) (fun j hj => by simp) (by simp) trivial (by simp) (fun j hj => by omega) (by simpa using hB.2) h
 have := wpAny_of_flowA (Q' := Q) (g := 0) (Nat.le_refl _) rfl huniq (fun listed' A' γ w' hF hL => by
  have hM : Made w.drew.heap.size w.drew Zs Ws l.length γ w' := ⟨hF.below, fun i Z hi hz => by
   obtain ⟨h1, h2, h3⟩ := hF.blk i Z hz (hL.2.1 i hi)
   exact ⟨h1, hF.lt i Z hz (hL.2.1 i hi), fun hn => h2 fun s Z' hs => absurd hs (hn s Z'), fun s Z' hsn hs => h3 s Z' hs (hL.2.1 s hsn)⟩, fun i j Z Z' hi hj hz hz' => hF.inj i j Z Z' hz hz' (hL.2.1 i hi) (hL.2.1 j hj)⟩
  exact ⟨hL.1, hL.2.2 γ w' hM⟩) _ _ _ (fun _ => 0) _ (by simp) (fun _ _ _ => rfl)
  ⟨Below.refl _ _, fun i Z _ hl => (by rw [getD_replicate_false] at hl; cases hl), fun i Z _ hl => (by rw [getD_replicate_false] at hl; cases hl), fun s i Z' _ hl => (by rw [getD_replicate_false] at hl; cases hl), fun i j Z Z' _ _ hl => (by rw [getD_replicate_false] at hl; cases hl)⟩ H
 simpa using this
end
end Go.Proofs.YtohnchdnkbadaaaDoor.SB
namespace Go.Proofs.YtohnchdnkbadaaaDoor
open Go Go.RowKit

variable {P : Program} {ops : Array Oper} {Q : Exit → Act → World → Prop} {C : Cx} {H : List HA} {rest : List Oper} {o : Oper}

/-- What is stored where: the operation's number, the number of the operation that made the block, the block's content behind it. -/
def wget : List (Nat × Nat × Obj) → Nat → Option (Nat × Obj)
 | [], _ => none
 | p :: r, i => bif Nat.beq p.1 i then some p.2 else wget r i
/-- The walk through the head of a drawn region, in the text's order; zl: what is made there, by the operation's number. -/
def FS (P : Program) (ops : Array Oper) (T : World → Blocks → Act → Prop) (C : Cx) (L : FSl) (H : List HA) (zl : List (Nat × Obj)) (wl : List (Nat × Nat × Obj)) (k : Nat) (l : List Oper) : Prop :=
 ∀ (A : Fam) (w0 : World), (∀ β, Fr C (L β) (A β)) → Hp C H w0 → SB.wpFlowA P ops w0.heap.size w0 (zget zl) (wget wl) (fun A => ∀ γ, T w0 γ (A γ)) l k A

variable {T : World → Blocks → Act → Prop} {L : FSl} {zl : List (Nat × Obj)} {wl : List (Nat × Nat × Obj)} {k : Nat}
theorem FS.val {v : Value} {d : Nat} (hv : ∀ β, OV P C (L β) H o v) (hz : zget zl k = none) (hz2 : wget wl k = none) (hw : ∀ β, wantB ops (L β) o = some true) (hd : o.dst = some d) (hn : Nat.blt d C.n = true) (h : FS P ops T C (fun β => (d, v) :: L β) H zl wl (k + 1) rest) : FS P ops T C L H zl wl k (o :: rest) := by
 intro A w0 hf hp
 refine ⟨fun _ => v, .inr (.inr ⟨hz, hz2, v, rfl, fun β => .inl ⟨wanted_of (hf β) (hw β), fun w hb => ?_⟩⟩), ?_⟩
 ·rw [hv β _ w (hf β) (hp.below hb)]
  exact ⟨rfl, Below.refl _ _⟩
 ·rw [hd]; exact h _ w0 (fun β => (hf β).put hn v) hp
theorem FS.skip {d : Nat} (hz : zget zl k = none) (hz2 : wget wl k = none) (hw : ∀ β, wantB ops (L β) o = some false) (hd : o.dst = some d) (hn : Nat.blt d C.n = true) (h : FS P ops T C (fun β => (d, undef) :: L β) H zl wl (k + 1) rest) : FS P ops T C L H zl wl k (o :: rest) := by
 intro A w0 hf hp
 refine ⟨fun _ => undef, .inr (.inr ⟨hz, hz2, undef, rfl, fun β => .inr ⟨wanted_of (hf β) (hw β), rfl⟩⟩), ?_⟩
 rw [hd]; exact h _ w0 (fun β => (hf β).put hn undef) hp
theorem FS.make {Z : Obj} {f : Nat → Value} {d : Nat} (hv : ∀ β, MV P C (L β) H o Z f) (hz : zget zl k = some Z) (hz2 : wget wl k = none) (hw : ∀ β, wantB ops (L β) o = some true) (hd : o.dst = some d) (hn : Nat.blt d C.n = true) (h : FS P ops T C (fun β => (d, f (β k)) :: L β) H zl wl (k + 1) rest) : FS P ops T C L H zl wl k (o :: rest) := by
 intro A w0 hf hp
 refine ⟨fun β => f (β k), .inl ⟨Z, f, hz, hz2, rfl, fun β => ⟨wanted_of (hf β) (hw β), fun w hb => hv β _ w (hf β) (hp.below hb)⟩⟩, ?_⟩
 rw [hd]; exact h _ w0 (fun β => (hf β).put hn _) hp
theorem FS.call {f : FuncId} {xs : List Operand} {ats : Array TypeId} {d : Nat} {ty : TypeId} {p : String} {e : Array Edge} {g : Option (Nat × Bool)} {vs : List Value} {R : List (Nat × Obj)} {v : Value} (he : entB P f = true) (hx : ∀ β, evs (L β) xs = some vs)
  (hc : Does P f vs R [] (Ret v [])) (hR : ROk C H R) (hz : zget zl k = none) (hz2 : wget wl k = none) (hw : ∀ β, wantB ops (L β) ⟨some d, .call ⟨.value (.func f), xs.toArray, ats⟩, ty, p, e, g⟩ = some true) (hn : Nat.blt d C.n = true)
  (h : FS P ops T C (fun β => (d, v) :: L β) H zl wl (k + 1) rest) : FS P ops T C L H zl wl k (⟨some d, .call ⟨.value (.func f), xs.toArray, ats⟩, ty, p, e, g⟩ :: rest) := by
 intro A w0 hf hp
 refine ⟨fun _ => v, .inr (.inr ⟨hz, hz2, v, rfl, fun β => .inl ⟨wanted_of (hf β) (hw β), fun w hb => ?_⟩⟩), ?_⟩
 ·rw [exec_callV he (hf β) (hx β)]
  have hpw := hp.below hb
  refine (hc w [] rfl List.nodup_nil (fun k hk => by cases hk) (fun q hq => ?_)).mono ?_
  ·refine ⟨?_, by simp⟩
   rcases hR.all q hq with ⟨i, hi⟩ | hm
   ·exact hpw.blk hi
   ·exact hpw.old hm
  ·rintro en w' ⟨H', hS, hh⟩
   rcases hS with ⟨r, rfl, hS⟩ | ⟨c, rfl, hS⟩
   ·cases hS; exact ⟨rfl, hh.toBelow⟩
   ·cases hS
 ·exact h _ w0 (fun β => (hf β).put hn v) hp
theorem FS.set {l : List Oper} (i : Nat) {v u : Value} (hL : ∀ β, (L β).get i = some v) (hv : v = u) (h : FS P ops T C (fun β => (i, u) :: L β) H zl wl k l) : FS P ops T C L H zl wl k l := fun A w0 hf hp => h A w0 (fun β => ⟨(hf β).defers, (hf β).size, fun j x hj => by
 unfold Sl.get at hj
 cases hb : Nat.beq i j with
 | true =>
  obtain rfl : i = j := Nat.eq_of_beq_eq_true hb
  simp only [hb, cond_true, Option.some.injEq] at hj
  rw [← hj, ← hv]; exact (hf β).get _ _ (hL β)
 | false => simp only [hb, cond_false] at hj; exact (hf β).get _ _ hj⟩) hp
theorem FS.weak {l : List Oper} {L' : FSl} (hs : ∀ β, Sub (L β) (L' β)) (h : FS P ops T C L' H zl wl k l) : FS P ops T C L H zl wl k l := fun A w0 hf hp => h A w0 (fun β => (hf β).sub (hs β)) hp
theorem FS.split {l : List Oper} (b : Bool) (ht : b = true → FS P ops T C L H zl wl k l) (hf : b = false → FS P ops T C L H zl wl k l) : FS P ops T C L H zl wl k l := by
 cases b
 ·exact hf rfl
 ·exact ht rfl
theorem FS.nil (h : ∀ (A : Fam) (w0 : World), (∀ β, Fr C (L β) (A β)) → Hp C H w0 → ∀ γ, T w0 γ (A γ)) : FS P ops T C L H zl wl k [] := fun A w0 hf hp => h A w0 hf hp
theorem wpFlowB_cut {B : Nat} {w0 : World} {Zs : Nat → Option Obj} {Ws : Nat → Option (Nat × Obj)} {Qf : Fam → Prop} : ∀ {l1 l2 : List Oper} {k : Nat} {A : Fam}, SB.wpFlowA P ops B w0 Zs Ws (fun A => SB.wpFlowA P ops B w0 Zs Ws Qf l2 (k + l1.length) A) l1 k A → SB.wpFlowA P ops B w0 Zs Ws Qf (l1 ++ l2) k A
 | [], _, _, _, h => h
 | o :: l1, l2, k, A, ⟨v, hv, h⟩ => ⟨v, hv, wpFlowB_cut (by rw [show k + 1 + l1.length = k + (o :: l1).length by simp; omega]; exact h)⟩
/-- Some operations first; behind them a state of one form, whatever way was taken. -/
theorem FS.cut {l : List Oper} (n : Nat) (hl : Nat.ble n l.length = true) (Lj : FSl) (hj : FS P ops T C Lj H zl wl (k + n) (l.drop n)) (h : ∀ T' : World → Blocks → Act → Prop, (∀ (A : Fam) (w0 : World), (∀ β, Fr C (Lj β) (A β)) → Hp C H w0 → ∀ γ, T' w0 γ (A γ)) → FS P ops T' C L H zl wl k (l.take n)) : FS P ops T C L H zl wl k l := by
 have hn : n ≤ l.length := Nat.le_of_ble_eq_true hl
 intro A w0 hf hp
 have hjoin : ∀ (l1 : List Oper) (k0 : Nat) (A : Fam), SB.wpFlowA P ops w0.heap.size w0 (zget zl) (wget wl) (fun A => ∀ β, Fr C (Lj β) (A β)) l1 k0 A → SB.wpFlowA P ops w0.heap.size w0 (zget zl) (wget wl) (fun A => SB.wpFlowA P ops w0.heap.size w0 (zget zl) (wget wl) (fun A => ∀ γ, T w0 γ (A γ)) (l.drop n) (k + n) A) l1 k0 A := by
  intro l1
  induction l1 with
  | nil => intro k0 A h; exact hj A w0 h hp
  | cons o l1 ih => intro k0 A ⟨v, hv, h⟩; exact ⟨v, hv, ih _ _ h⟩
 have h0 : SB.wpFlowA P ops w0.heap.size w0 (zget zl) (wget wl) (fun A => ∀ β, Fr C (Lj β) (A β)) (l.take n) k A := by
  have := h (fun w0' γ a => w0' = w0 → Fr C (Lj γ) a) (fun A w0' hf' _ γ _ => hf' γ) A w0 hf hp
  have hm : ∀ (l1 : List Oper) (k0 : Nat) (A : Fam), SB.wpFlowA P ops w0.heap.size w0 (zget zl) (wget wl) (fun A => ∀ γ, w0 = w0 → Fr C (Lj γ) (A γ)) l1 k0 A → SB.wpFlowA P ops w0.heap.size w0 (zget zl) (wget wl) (fun A => ∀ β, Fr C (Lj β) (A β)) l1 k0 A := by
   intro l1
   induction l1 with
   | nil => intro k0 A h γ; exact h γ rfl
   | cons o l1 ih => intro k0 A ⟨v, hv, h⟩; exact ⟨v, hv, ih _ _ h⟩
  exact hm _ _ _ this
 have := wpFlowB_cut (l1 := l.take n) (l2 := l.drop n) (k := k) (A := A) (P := P) (ops := ops) (B := w0.heap.size) (w0 := w0) (Zs := zget zl) (Ws := wget wl) (Qf := fun A => ∀ γ, T w0 γ (A γ)) (by
  have hlen : (l.take n).length = n := by simp; omega
  rw [hlen]; exact hjoin _ _ _ h0)
 rwa [List.take_append_drop] at this

theorem FS.store {x y : Operand} {t ty Tt : TypeId} {p : String} {e : Array Edge} {g : Option (Nat × Bool)} {off j : Nat} {v : Value} {cs vs cs' : List Value}
  (hx : ∀ β, ev (L β) x = some (.pointer (some ⟨β j, off, none⟩))) (hy : ∀ β, ev (L β) y = some v) (hz : zget zl k = none) (hj : zget zl j = some (.cells cs.toArray Tt (0, 0))) (hz2 : wget wl k = some (j, .cells cs'.toArray Tt (0, 0)))
  (haf : (e.toList.any fun e => Region.binds .any e && Nat.beq e.on j) = true) (hv : v.cells = vs.toArray) (hs : sizeB P t vs.length = true) (hfit : off + vs.length ≤ cs.length) (h1 : vs.all (·.oneCell') = true) (he : cs.take off ++ vs ++ cs.drop (off + vs.length) = cs')
  (hw : ∀ β, wantB ops (L β) ⟨none, .store t x y, ty, p, e, g⟩ = some true) (h : FS P ops T C L H zl wl (k + 1) rest) : FS P ops T C L H zl wl k (⟨none, .store t x y, ty, p, e, g⟩ :: rest) := by
 intro A w0 hf hp
 refine ⟨fun _ => undef, .inr (.inl ⟨j, _, _, hz, hz2, hj, rfl, haf, fun β => ⟨wanted_of (hf β) (hw β), fun w hb hZ => ?_⟩⟩), ?_⟩
 ·have hrun := run_storeCells_at (P := P) (β j) off Tt vs 0 cs.toArray w hZ (by simpa using hfit) (by simpa using h1)
  simp only [Nat.add_zero] at hrun
  rw [he] at hrun
  have hst : (storeVar t ⟨β j, off, none⟩ v).run P w = .ok () (w.setRow (β j) cs'.toArray) := by
   simp only [storeVar, Sem.run_bind, run_size hs, Result.andThen_ok, hv, List.size_toArray, ne_eq, not_true_eq_false, if_false, hrun]
  simp only [execOp, (hf β).ev (hx β), (hf β).ev (hy β), Instr.storeAt, Instr.sureAddr, Sem.run_bind, Sem.run_pure, Result.andThen_ok, hst]
  exact ⟨rfl, rfl, rfl, by simp [World.setRow], fun k hk => setRow_other w (β j) k _ hk, heap_setRow_same hZ⟩
 ·exact h _ w0 (fun β => (hf β).put0 _) hp
theorem FS.storeW {x y : Operand} {t ty Tt : TypeId} {p : String} {e : Array Edge} {g : Option (Nat × Bool)} {j : Nat} {v : Value} {cs vs : List Value} {n : Nat}
  (hx : ∀ β, ev (L β) x = some (.pointer (some ⟨β j, 0, none⟩))) (hy : ∀ β, ev (L β) y = some v) (hz : zget zl k = none) (hj : zget zl j = some (.cells cs.toArray Tt (0, 0))) (hz2 : wget wl k = some (j, .cells vs.toArray Tt (0, 0)))
  (haf : (e.toList.any fun e => Region.binds .any e && Nat.beq e.on j) = true) (hv : v.cells = vs.toArray) (hl : vs.length = n) (hs : sizeB P t n = true) (hl2 : cs.length = vs.length) (h1 : vs.all (·.oneCell') = true)
  (hw : ∀ β, wantB ops (L β) ⟨none, .store t x y, ty, p, e, g⟩ = some true) (h : FS P ops T C L H zl wl (k + 1) rest) : FS P ops T C L H zl wl k (⟨none, .store t x y, ty, p, e, g⟩ :: rest) :=
 FS.store (cs := cs) (vs := vs) (cs' := vs) hx hy hz hj hz2 haf hv (hl ▸ hs) (by omega) h1 (by
  rw [Nat.zero_add, ← hl2, List.drop_length]; simp) hw h

/-! ### the blocks that the region made -/
def fin (wl : List (Nat × Nat × Obj)) (i : Nat) (Z : Obj) : Obj := match wl with
 | [] => Z
 | p :: r => bif Nat.beq p.2.1 i then p.2.2 else fin r i Z
def zblkS (zl : List (Nat × Obj)) (wl : List (Nat × Nat × Obj)) (γ : Blocks) (H : List HA) : List HA := match zl with
 | [] => H
 | p :: r => .blk (γ p.1) (fin wl p.1 p.2) :: zblkS r wl γ H
def wkeys (n : Nat) (wl : List (Nat × Nat × Obj)) : Bool := nodupB (wl.map (·.1)) && nodupB (wl.map (·.2.1)) && wl.all (fun p => Nat.blt p.1 n)
theorem wget_mem {wl : List (Nat × Nat × Obj)} {s : Nat} {x : Nat × Obj} (h : wget wl s = some x) : (s, x) ∈ wl := by
 induction wl with
 | nil => cases h
 | cons q r ih =>
  unfold wget at h
  cases hb : Nat.beq q.1 s with
  | true =>
   rw [hb] at h
   have e1 : q.1 = s := Nat.eq_of_beq_eq_true hb
   have e2 : q.2 = x := by simpa using h
   rw [← e1, ← e2]; exact List.mem_cons_self ..
  | false => rw [hb] at h; exact List.mem_cons_of_mem _ (ih h)
theorem wget_of {wl : List (Nat × Nat × Obj)} (hn : (wl.map (·.1)).Nodup) {p : Nat × Nat × Obj} (hp : p ∈ wl) : wget wl p.1 = some p.2 := by
 induction wl with
 | nil => cases hp
 | cons q r ih =>
  unfold wget
  rw [List.map_cons, List.nodup_cons] at hn
  rcases List.mem_cons.1 hp with rfl | hp
  ·simp
  ·have hne : ¬ q.1 = p.1 := fun e => hn.1 (e ▸ List.mem_map_of_mem hp)
   have : Nat.beq q.1 p.1 = false := by
    cases hb : Nat.beq q.1 p.1 with
    | false => rfl
    | true => exact absurd (Nat.eq_of_beq_eq_true hb) hne
   rw [this]; exact ih hn.2 hp
theorem map_inj {α β : Type} {f : α → β} : ∀ {l : List α}, (l.map f).Nodup → ∀ {x y : α}, x ∈ l → y ∈ l → f x = f y → x = y
 | [], _, _, _, hx, _, _ => by cases hx
 | a :: l, hn, x, y, hx, hy, he => by
  rw [List.map_cons, List.nodup_cons] at hn
  rcases List.mem_cons.1 hx with e1 | hx2
  ·rcases List.mem_cons.1 hy with e2 | hy2
   ·rw [e1, e2]
   ·rw [e1] at he; exact absurd (he ▸ List.mem_map_of_mem hy2) hn.1
  ·rcases List.mem_cons.1 hy with e2 | hy2
   ·rw [e2] at he; exact absurd (he ▸ List.mem_map_of_mem hx2) hn.1
   ·exact map_inj hn.2 hx2 hy2 he
theorem wkeys_uniq {n : Nat} (hw : wkeys n wl = true) : ∀ s t x y z, wget wl s = some (x, y) → wget wl t = some (x, z) → s = t := fun s t x y z h1 h2 => by
 simp only [wkeys, Bool.and_eq_true] at hw
 have := map_inj (nodupB_spec hw.1.2) (wget_mem h1) (wget_mem h2) rfl
 exact (Prod.mk.inj this).1
theorem fin_none {i : Nat} {Z : Obj} (h : ∀ p ∈ wl, p.2.1 ≠ i) : fin wl i Z = Z := by
 induction wl with
 | nil => rfl
 | cons q r ih =>
  unfold fin
  have : Nat.beq q.2.1 i = false := by
   cases hb : Nat.beq q.2.1 i with
   | false => rfl
   | true => exact absurd (Nat.eq_of_beq_eq_true hb) (h q (List.mem_cons_self ..))
  rw [this]; exact ih fun p hp => h p (List.mem_cons_of_mem _ hp)
theorem fin_some {i : Nat} {Z : Obj} (hn : (wl.map (·.2.1)).Nodup) {p : Nat × Nat × Obj} (hp : p ∈ wl) (hi : p.2.1 = i) : fin wl i Z = p.2.2 := by
 induction wl with
 | nil => cases hp
 | cons q r ih =>
  unfold fin
  rw [List.map_cons, List.nodup_cons] at hn
  rcases List.mem_cons.1 hp with rfl | hp
  ·simp [hi]
  ·have : Nat.beq q.2.1 i = false := by
    cases hb : Nat.beq q.2.1 i with
    | false => rfl
    | true => exact absurd ((Nat.eq_of_beq_eq_true hb).trans hi.symm ▸ List.mem_map_of_mem (f := (·.2.1)) hp) hn.1
   rw [this]; exact ih hn.2 hp
theorem hp_madeS {n : Nat} {w0 w : World} {γ : Blocks} (hp : Hp C H w0) (hz : zkeys n zl = true) (hw : wkeys n wl = true) (hm : SB.Made w0.heap.size w0 (zget zl) (wget wl) n γ w) : Hp C (zblkS zl wl γ H) w := by
 simp only [zkeys, Bool.and_eq_true, List.all_eq_true] at hz
 simp only [wkeys, Bool.and_eq_true, List.all_eq_true] at hw
 have hnd := nodupB_spec hz.1
 have hwd := nodupB_spec hw.1.1
 have hwd2 := nodupB_spec hw.1.2
 have hb := hp.below hm.below
 obtain ⟨F, h1, h2, h3⟩ := hp.own
 have hF : ∀ k ∈ F, k < w0.heap.size := fun k hk => (h3 k hk).1
 have hq : ∀ q ∈ zl, w.heap[γ q.1]? = some (fin wl q.1 q.2) ∧ w0.heap.size ≤ γ q.1 := fun q hqm => by
  obtain ⟨g1, _, g3, g4⟩ := hm.blk q.1 q.2 (Nat.blt_eq ▸ hz.2 q hqm) (zget_of hnd hqm)
  refine ⟨?_, g1⟩
  by_cases hex : ∃ p ∈ wl, p.2.1 = q.1
  ·obtain ⟨p, hpm, he⟩ := hex
   rw [fin_some hwd2 hpm he]
   exact g4 p.1 p.2.2 (Nat.blt_eq ▸ hw.2 p hpm) (by rw [wget_of hwd hpm, ← he])
  ·rw [fin_none fun p hpm he => hex ⟨p, hpm, he⟩]
   exact g3 fun s Z' hs => hex ⟨_, wget_mem hs, rfl⟩
 have key : ∀ zl' : List (Nat × Obj), (zl'.map (·.1)).Nodup → (∀ p ∈ zl', p ∈ zl) → Own w (zblkS zl' wl γ H) (zl'.map (fun p => γ p.1) ++ F) ∧ (zl'.map (fun p => γ p.1) ++ F).Nodup := by
  intro zl'
  induction zl' with
  | nil => intro _ _; exact ⟨by simpa [zblkS] using h1.keep fun k hk => hm.below.block k (hF k hk), by simpa using h2⟩
  | cons q r ih =>
   intro hn hsub
   rw [List.map_cons, List.nodup_cons] at hn
   obtain ⟨i1, i2⟩ := ih hn.2 fun p hp => hsub p (List.mem_cons_of_mem _ hp)
   have hqm := hsub q (List.mem_cons_self ..)
   have hq1 := hq q hqm
   refine ⟨⟨[γ q.1], r.map (fun p => γ p.1) ++ F, rfl, ⟨rfl, hq1.1⟩, i1⟩, ?_⟩
   show (γ q.1 :: (r.map (fun p => γ p.1) ++ F)).Nodup
   refine List.nodup_cons.2 ⟨fun hmem => ?_, i2⟩
   rcases List.mem_append.1 hmem with hmem | hmem
   ·obtain ⟨p, hp', he⟩ := List.mem_map.1 hmem
    have hpm := hsub p (List.mem_cons_of_mem _ hp')
    have := hm.inj q.1 p.1 q.2 p.2 (Nat.blt_eq ▸ hz.2 q hqm) (Nat.blt_eq ▸ hz.2 p hpm) (zget_of hnd hqm) (zget_of hnd hpm) he.symm
    exact hn.1 (this ▸ List.mem_map_of_mem hp')
   ·have := hF _ hmem; omega
 obtain ⟨k1, k2⟩ := key zl hnd fun _ h => h
 refine ⟨hb.os, hb.tape, hb.output, hb.size, hb.keep, hb.ro, _, k1, k2, fun k hk => ?_⟩
 rcases List.mem_append.1 hk with hk | hk
 ·obtain ⟨p, hp', rfl⟩ := List.mem_map.1 hk
  have hq1 := hq p hp'
  exact ⟨lt_of_blk hq1.1, .inl (Nat.le_trans hp.size hq1.2)⟩
 ·exact ⟨Nat.lt_of_lt_of_le (h3 k hk).1 hm.below.size, (h3 k hk).2⟩
/-- A region that stores into the blocks that it makes, and nowhere else. -/
theorem wc_draw_st {id : Nat} {l : List Oper} {L : Sl} (zl : List (Nat × Obj)) (wl : List (Nat × Nat × Obj)) (hm : P.follows .mixedOrders = true) (hB : flowB l.toArray = true) (hz : zkeys l.length zl = true) (hw : wkeys l.length wl = true)
  (h : ∀ T : World → Blocks → Act → Prop, (∀ (L' : FSl), (∀ γ, QX Q .normal C (L' γ) (zblkS zl wl γ H)) → ∀ (A : Fam) (w0 : World), (∀ β, Fr C (L' β) (A β)) → Hp C H w0 → ∀ γ, T w0 γ (A γ)) → FS P l.toArray T C (fun _ => L) H zl wl 0 l) : WC P (.region id l.toArray true) Q C L H := by
 intro a w hf hp
 refine SB.wp_region_flowA_all (zget zl) (wget wl) hm hB (wkeys_uniq hw) ?_
 have h1 := h (fun w0 γ a' => ∀ w', SB.Made w0.heap.size w0 (zget zl) (wget wl) l.length γ w' → Q .normal a' w')
  (fun L' hL A w0 hA hw0 γ w' hmade => hL γ (A γ) w' (hA γ) (hp_madeS hw0 hz hw hmade)) (fun _ => a) w.drew (fun _ => hf) hp.drew
 have hm : ∀ (l1 : List Oper) (k0 : Nat) (A : Fam), SB.wpFlowA P l.toArray w.drew.heap.size w.drew (zget zl) (wget wl) (fun A => ∀ γ w', SB.Made w.drew.heap.size w.drew (zget zl) (wget wl) l.length γ w' → Q .normal (A γ) w') l1 k0 A → SB.wpFlowA P l.toArray w.drew.heap.size w.drew (zget zl) (wget wl) (fun A => ∀ γ w', SB.Made w.drew.heap.size w.drew (zget zl) (wget wl) l.length γ w' → Q .normal (A γ) w') l1 k0 A := fun _ _ _ h => h
 exact hm _ _ _ h1
end Go.Proofs.YtohnchdnkbadaaaDoor
namespace Go.Proofs.YtohnchdnkbadaaaDoor
open Go Go.RowKit

variable {P : Program} {ops : Array Oper} {Q : Exit → Act → World → Prop} {C : Cx} {L : Sl} {H : List HA} {rest : List Oper} {o : Oper} {w : World}

/-- The block of a slice value. -/
def blkOf : Value → Nat
 | .slice (some a) _ _ => a.block
 | _ => 0

/-! ### an entry is put in the place of another -/
theorem nodup_set : ∀ {Fs : List (List Nat)} {i : Nat} {F F' : List Nat}, Fs.flatten.Nodup → Fs[i]? = some F → F'.Nodup → (∀ k ∈ F', k ∈ F ∨ ∀ G ∈ Fs, k ∉ G) → (Fs.set i F').flatten.Nodup
 | [], i, F, F', _, h, _, _ => by simp at h
 | G :: Fs, 0, F, F', hn, h, hF, hk => by
  simp at h
  subst h
  rw [List.flatten_cons, List.nodup_append] at hn
  rw [List.set_cons_zero, List.flatten_cons, List.nodup_append]
  refine ⟨hF, hn.2.1, fun x hx y hy e => ?_⟩
  subst e
  obtain ⟨G', hG', hxG⟩ := List.mem_flatten.1 hy
  rcases hk x hx with h1 | h1
  ·exact hn.2.2 x h1 x hy rfl
  ·exact h1 G' (List.mem_cons_of_mem _ hG') hxG
 | G :: Fs, i + 1, F, F', hn, h, hF, hk => by
  simp at h
  rw [List.flatten_cons, List.nodup_append] at hn
  rw [List.set_cons_succ, List.flatten_cons, List.nodup_append]
  refine ⟨hn.1, nodup_set hn.2.1 h hF fun k hkk => (hk k hkk).imp_right fun h1 G' hG' => h1 G' (List.mem_cons_of_mem _ hG'), fun x hx y hy e => ?_⟩
  subst e
  obtain ⟨G', hG', hxG⟩ := List.mem_flatten.1 hy
  rcases List.mem_or_eq_of_mem_set hG' with h1 | h1
  ·exact hn.2.2 x hx x (List.mem_flatten.2 ⟨G', h1, hxG⟩) rfl
  ·subst h1
   rcases hk x hxG with h2 | h2
   ·exact hn.2.2 x hx x (List.mem_flatten.2 ⟨F, List.mem_of_getElem? h, h2⟩) rfl
   ·exact h2 G (List.mem_cons_self ..) hx
theorem own_set {w' : World} : ∀ {Fs : List (List Nat)} {H : List HA} {i : Nat} {x' : HA} {F' : List Nat}, Fs.length = H.length → (∀ (j : Nat) (h : HA) (f : List Nat), H[j]? = some h → j ≠ i → Fs[j]? = some f → h.at w' f) → x'.at w' F' → Own w' (H.set i x') (Fs.set i F').flatten
 | [], [], i, x', F', _, _, _ => by simp [Own]
 | [], _ :: _, _, _, _, hl, _, _ => by simp at hl
 | _ :: _, [], _, _, _, hl, _, _ => by simp at hl
 | F :: Fs, h0 :: H, 0, x', F', hl, hall, hx => by
  refine ⟨F', Fs.flatten, by simp, hx, ?_⟩
  have := own_set (w' := w') (Fs := Fs) (H := H) (i := H.length) (x' := x') (F' := F') (by simpa using hl) (fun j h f hh _ hf => hall (j + 1) h f (by simpa using hh) (by omega) (by simpa using hf)) hx
  have hl' : Fs.length = H.length := by simpa using hl
  rwa [List.set_eq_of_length_le (Nat.le_refl _), List.set_eq_of_length_le (by omega)] at this
 | F :: Fs, h0 :: H, i + 1, x', F', hl, hall, hx => by
  refine ⟨F, (Fs.set i F').flatten, by simp, hall 0 h0 F (by simp) (by omega) (by simp), ?_⟩
  exact own_set (by simpa using hl) (fun j h f hh hn hf => hall (j + 1) h f (by simpa using hh) (by omega) (by simpa using hf)) hx
theorem Hp.swap (h : Hp C H w) {w' : World} {i : Nat} {x x' : HA} (hi : H[i]? = some x) (hos : w'.os = w.os) (htape : w'.tape = w.tape) (hout : w'.output = w.output) (hsz : w.heap.size ≤ w'.heap.size)
  (hoth : ∀ F, x.at w F → ∀ k, k < w.heap.size → k ∉ F → w'.heap[k]? = w.heap[k]?)
  (hst : ∀ F, x.at w F → F.Nodup → ∃ F', x'.at w' F' ∧ F'.Nodup ∧ (∀ k ∈ F', (k ∈ F ∨ w.heap.size ≤ k) ∧ k < w'.heap.size)) : Hp C (H.set i x') w' := by
 obtain ⟨F0, h1, h2, h3⟩ := h.own
 obtain ⟨Fs, hl, rfl, hall⟩ := h1.parts
 have hlt : i < Fs.length := by rw [hl]; exact (List.getElem?_eq_some_iff.1 hi).1
 have hfi : Fs[i]? = some Fs[i] := List.getElem?_eq_getElem hlt
 have hx := hall i _ _ hi hfi
 obtain ⟨F', k1, k2, k3⟩ := hst _ hx (nodup_part h2 hfi)
 have hmem : ∀ G ∈ Fs, ∀ k ∈ G, k < w.heap.size ∧ (C.w0.heap.size ≤ k ∨ k ∈ C.M) := fun G hG k hk => h3 k (List.mem_flatten.2 ⟨G, hG, hk⟩)
 refine ⟨hos.trans h.os, htape.trans h.tape, hout.trans h.output, Nat.le_trans h.size hsz, fun k hk hM => ?_, h.ro, (Fs.set i F').flatten, ?_, ?_, fun k hk => ?_⟩
 ·rw [hoth _ hx k (by have := h.size; omega) (fun hm => by
   rcases (hmem _ (List.mem_of_getElem? hfi) k hm).2 with h4 | h4
   ·omega
   ·exact hM h4)]
  exact h.keep k hk hM
 ·refine own_set hl (fun j hj f hjj hne hf => ?_) k1
  refine HA.at_keep (hall j hj f hjj hf) fun k hk => hoth _ hx k (hmem f (List.mem_of_getElem? hf) k hk).1 fun hm => ?_
  exact disj_of_nodup h2 hf hfi hne k hk hm
 ·refine nodup_set h2 hfi k2 fun k hk => ?_
  rcases (k3 k hk).1 with h4 | h4
  ·exact .inl h4
  ·exact .inr fun G hG hkG => by have := (hmem G hG k hkG).1; omega
 ·obtain ⟨G, hG, hkG⟩ := List.mem_flatten.1 hk
  rcases List.mem_or_eq_of_mem_set hG with h4 | h4
  ·exact ⟨Nat.lt_of_lt_of_le (hmem G h4 k hkG).1 hsz, (hmem G h4 k hkG).2⟩
  ·subst h4
   refine ⟨(k3 k hkG).2, ?_⟩
   rcases (k3 k hkG).1 with h5 | h5
   ·exact (hmem _ (List.mem_of_getElem? hfi) k h5).2
   ·exact .inl (Nat.le_trans h.size h5)
theorem Hp.row (h : Hp C H w) {i : Nat} {v : Value} {t : TypeId} {sz n : Nat} {xs : List Value} (hi : H[i]? = some (.row v t sz n xs)) : w.ownsRow 0 t sz v n xs := by
 obtain ⟨F, h1, _, _⟩ := h.own
 obtain ⟨Fs, hl, _, hall⟩ := h1.parts
 have hlt : i < Fs.length := by rw [hl]; exact (List.getElem?_eq_some_iff.1 hi).1
 exact (hall i _ _ hi (List.getElem?_eq_getElem hlt)).2

section lists
variable {α : Type} {f : α → List Value} {sz : Nat}
theorem flat_len (hf : ∀ x, (f x).length = sz) : ∀ l : List α, (l.flatMap f).length = l.length * sz
 | [] => by simp
 | x :: l => by rw [List.flatMap_cons, List.length_append, hf, flat_len hf l, List.length_cons, Nat.add_mul]; omega
theorem flat_drop (hf : ∀ x, (f x).length = sz) : ∀ (l : List α) (i : Nat), (l.flatMap f).drop (i * sz) = (l.drop i).flatMap f
 | l, 0 => by simp
 | [], i + 1 => by simp
 | x :: l, i + 1 => by
  rw [List.flatMap_cons, Nat.add_mul, Nat.one_mul, Nat.add_comm, ← List.drop_drop, List.drop_left' (hf x), flat_drop hf l i]; rfl
theorem flat_at [Inhabited α] (hf : ∀ x, (f x).length = sz) {l : List α} {i : Nat} (hi : i < l.length) : ((l.flatMap f).drop (i * sz)).take sz = f (l.getD i default) := by
 rw [flat_drop hf, List.drop_eq_getElem_cons hi, List.flatMap_cons, List.take_left' (hf _), List.getD_eq_getElem?_getD, List.getElem?_eq_getElem hi]; rfl
theorem flat_get [Inhabited α] (hf : ∀ x, (f x).length = sz) {l : List α} {i o : Nat} {u : Value} (hi : i < l.length) (hu : (f (l.getD i default))[o]? = some u) : (l.flatMap f)[i * sz + o]? = some u := by
 have ho : o < sz := by rw [← hf (l.getD i default)]; exact (List.getElem?_eq_some_iff.1 hu).1
 rw [← flat_at hf hi, List.getElem?_take, if_pos ho, List.getElem?_drop] at hu
 exact hu
end lists

section ov
variable {x y : Operand} {t e' ty T : TypeId} {d : Option Tmp} {p : String} {e : Array Edge} {g : Option (Nat × Bool)} {v : Value} {k : IntKind} {sz n : Nat} {xs : List Value} {α : Type} [Inhabited α] {f : α → List Value} {l : List α}
theorem OV.lenRow (i : Nat) (hx : ev L x = some v) (hi : H[i]? = some (.row v T sz n xs)) (ht : slB P t e' sz = true) : OV P C L H ⟨d, .call ⟨.builtin .len, #[x], #[t]⟩, ty, p, e, g⟩ (.int .i64 (n : Int)) := fun a w hf hp => by
 rcases (hp.row hi).2 with ⟨rfl, rfl⟩ | ⟨b, cap, cur, rfl, _⟩
 ·exact OV.lenS hx ht a w hf hp
 ·exact OV.lenS hx ht a w hf hp
theorem OV.indexRow (i : Nat) {j : Int} (hx : ev L x = some v) (hy : ev L y = some (.int k j)) (hi : H[i]? = some (.row v T sz n xs)) (ht : slB P t e' sz = true) (hb : 0 ≤ j ∧ j < n) : OV P C L H ⟨d, .indexAddr t x y, ty, p, e, g⟩ (.pointer (some ⟨blkOf v, j.toNat * sz, none⟩)) := fun a w hf hp => by
 rcases (hp.row hi).2 with ⟨rfl, rfl⟩ | ⟨b, cap, cur, rfl, _⟩
 ·exact absurd hb.2 (by omega)
 ·exact OV.indexSl hx hy ht hb (by simp) a w hf hp
theorem Hp.row_cells (hp : Hp C H w) {i : Nat} (hi : H[i]? = some (.row v T sz n xs)) (hne : xs ≠ []) : ∃ cur : List Value, w.heap[blkOf v]? = some (.cells cur.toArray T (0, 0)) ∧ cur.take xs.length = xs := by
 obtain ⟨hl, hr⟩ := hp.row hi
 rcases hr with ⟨rfl, rfl⟩ | ⟨b, cap, cur, rfl, _, hb, _, _, _, ht⟩
 ·exact absurd (List.eq_nil_of_length_eq_zero (by simpa using hl)) hne
 ·exact ⟨cur.toList, by simpa [blkOf] using hb, by rw [hl]; exact ht⟩
theorem OV.loadRow1 (i : Nat) {off : Nat} {u : Value} (hx : ev L x = some (.pointer (some ⟨blkOf v, off, none⟩))) (hi : H[i]? = some (.row v T sz n xs)) (hc : xs[off]? = some u) (ht : scalB P t = true) : OV P C L H ⟨d, .load t x, ty, p, e, g⟩ u := fun a w hf hp => by
 obtain ⟨cur, h1, h2⟩ := hp.row_cells hi (fun h => by subst h; simp at hc)
 have hlt : off < xs.length := (List.getElem?_eq_some_iff.1 hc).1
 have hcell : w.cell? ⟨blkOf v, off, none⟩ = some u := by
  rw [← h2, List.getElem?_take, if_pos hlt] at hc
  simp [World.cell?, h1, hc]
 simp [execOp, hf.ev hx, Instr.loadAt, Instr.sureAddr, loadVar, run_isAgg_no ht, hcell]
/-- One element of one cell. -/
theorem OV.loadE1 (i : Nat) {j : Nat} {u : Value} (hx : ev L x = some (.pointer (some ⟨blkOf v, j * 1, none⟩))) (hi : H[i]? = some (.row v T 1 l.length (l.flatMap f))) (hf' : ∀ x, (f x).length = 1) (hj : j < l.length) (hu : (f (l.getD j default))[0]? = some u) (ht : scalB P t = true) : OV P C L H ⟨d, .load t x, ty, p, e, g⟩ u :=
 OV.loadRow1 i hx hi (by have := flat_get hf' hj hu; simpa using this) ht
end ov

section st
variable {x y : Operand} {t ty T : TypeId} {p : String} {e : Array Edge} {g : Option (Nat × Bool)} {v u : Value} {sz n off : Nat} {xs vs xs' : List Value} {α : Type} [Inhabited α] {f : α → List Value} {l : List α}
end st

/-! ### more room -/
def infoB (P : Program) (e : TypeId) : Option (List Value × Nat × Nat) := match P.info? e with
 | some i => match i.zero with
  | some z => some (z.cells.toList, i.size, i.bytes)
  | none => none
 | none => none
theorem infoB_spec {e : TypeId} {zs : List Value} {sz bytes : Nat} (h : infoB P e = some (zs, sz, bytes)) : ∃ i z, P.info? e = some i ∧ i.zero = some z ∧ z.cells = zs.toArray ∧ i.size = sz ∧ i.bytes = bytes := by
 unfold infoB at h
 cases hq : P.info? e with
 | none => simp [hq] at h
 | some i =>
  cases hz : i.zero with
  | none => simp [hq, hz] at h
  | some z => simp [hq, hz] at h; exact ⟨i, z, rfl, hz, by rw [← h.1], h.2.1, h.2.2⟩
theorem append_in {w : World} {t ty e : TypeId} {i : TypeInfo} {z : Value} {size bytes : Nat} (ht : P.underlying t = some (.slice e)) (hi : P.info? e = some i) (hz : i.zero = some z)
  (hsize : i.size = size) (hby : i.bytes = bytes) {v : Value} {n : Nat} {xs : List Value} (hown : w.ownsRow 0 e size v n xs)
  {a : Addr} {m c : Nat} {news : List Value} (hl : news.length = m * size) (hnews : ∀ j u, news[j]? = some u → w.cell? (a.add j) = some u) (h1 : ∀ u ∈ news, u.oneCell' = true)
  (h63 : n + m ≤ 9223372036854775807) (hbytes : ((n + m) + (n + m) / 4 + 192) * bytes ≤ 281474976710656) {v' : Value} {w' : World} (hr : (Builtin.append_ #[t, t] ty #[v, .slice (some a) m c]).run P w = .ok v' w') {k : Nat} (hk : v'.ownBlock = some k) : v.ownBlock = some k ∨ w.heap.size ≤ k := by
 subst hsize
 subst hby
 rcases hown.2 with ⟨rfl, rfl⟩ | ⟨g, cap, cur, rfl, _, hg, hnc, _, hcs, _⟩
 ·by_cases hm : m = 0
  ·subst hm
   have hn : news = [] := List.eq_nil_of_length_eq_zero (by simpa using hl)
   subst hn
   have : (Builtin.append_ #[t, t] ty #[.slice none 0 0, .slice (some a) 0 c]).run P w = .ok (.slice none 0 0) w := by
    simp [Builtin.append_, run_underlying ht, sizeOf, typeInfo, hi, Builtin.lenOf, Builtin.firstCells, loadCells, loadCellsFrom]
   rw [this] at hr
   cases hr
   simp [Value.ownBlock] at hk
  ·rw [run_append_nil (P := P) w t ty e i z ht hi hz a m c news hl hnews (by omega) (by omega) (by have hb := hbytes; simp only [Nat.zero_add] at hb; exact Nat.le_trans (Nat.mul_le_mul_right _ (by omega)) hb)] at hr
   cases hr
   simp [Value.ownBlock] at hk
   exact .inr (by omega)
 ·by_cases hroom : n + m ≤ cap
  ·have hfit : n * i.size + news.length ≤ cur.size := by rw [hl, hcs, ← Nat.add_mul]; exact Nat.mul_le_mul_right _ hroom
   rw [run_append_room (P := P) w t ty e i ht hi g n cap cur hg a m c news hl hnews h1 hroom hfit] at hr
   cases hr
   exact .inl hk
  ·have holds : ∀ j u, xs[j]? = some u → w.cell? ((⟨g, 0, none⟩ : Addr).add j) = some u := hown.cells (g := g) rfl
   rw [run_append_grow (P := P) w t ty e i z ht hi hz ⟨g, 0, none⟩ n cap xs hown.1 holds a m c news hl hnews (by omega) (by omega) (growslice_fits_wide (by omega) hbytes)] at hr
   cases hr
   simp [Value.ownBlock] at hk
   exact .inr (by omega)
section ap
variable {s x y z : Operand} {t e' ty T : TypeId} {p : String} {e : Array Edge} {v : Value} {k k' : IntKind} {sz bytes : Nat} {zs cs : List Value} {α : Type} {f : α → List Value} {l ms : List α} {d : Nat}
theorem WL.append (i j : Nat) {b : Nat} {m c : Nat} (hs : ev L s = some v) (hx : ev L x = some (.slice (some ⟨b, 0, none⟩) m c)) (hi : H[i]? = some (.row v e' sz l.length (l.flatMap f))) (hj : H[j]? = some (.blk b (.cells cs.toArray T (0, 0)))) (hc : cs = ms.flatMap f) (hm : ms.length = m)
  (hf' : ∀ x, (f x).length = sz) (h0 : 0 < sz) (h1 : cs.all (·.oneCell') = true) (ht : slB P t e' sz = true) (hinf : infoB P e' = some (zs, sz, bytes)) (hzs : zs.length = sz) (hb : ((l.length + m) + (l.length + m) / 4 + 192) * bytes ≤ 281474976710656 ∧ l.length + m ≤ 9223372036854775807)
  (hw : wantB ops L ⟨some d, .call ⟨.builtin .append, #[s, x], #[t, t]⟩, ty, p, e, none⟩ = some true) (hn : Nat.blt d C.n = true)
  (h : ∀ v', WL P ops Q C ((d, v') :: L) (H.set i (.row v' e' sz (l ++ ms).length ((l ++ ms).flatMap f))) rest) : WL P ops Q C L H (⟨some d, .call ⟨.builtin .append, #[s, x], #[t, t]⟩, ty, p, e, none⟩ :: rest) := by
 intro a w hf hp
 obtain ⟨inf, z, q1, q2, q3, q4, q5⟩ := infoB_spec hinf
 have hblk := hp.blk hj
 subst hm
 have hlen : cs.length = ms.length * sz := by rw [hc, flat_len hf']
 have hnews : ∀ q u, cs[q]? = some u → w.cell? ((⟨b, 0, none⟩ : Addr).add q) = some u := fun q u hq => by
  rw [Addr.add_mid, Nat.zero_add]; simp [World.cell?, hblk, hq]
 have hone : ∀ u ∈ cs, u.oneCell' = true := fun u hu => (List.all_eq_true.1 h1) u hu
 obtain ⟨v', w', hr, r1, r2, _⟩ := run_append_own_wide (P := P) w 0 t ty e' inf z sz bytes (slB_spec ht).1 q1 q2 q4 q5 (by rw [q3]; simpa using hzs) h0 v l.length (l.flatMap f) (hp.row hi) ⟨b, 0, none⟩ ms.length c cs hlen hnews hone (by simp only [maxLen]; omega) hb.1 (Nat.zero_le _)
 refine wpList_want' (wanted_of hf hw) ?_
 unfold Oper.wp execOp
 simp only [resolve, invoke, builtin, Sem.run_bind, Sem.run_pure, Result.andThen_ok, List.map_toArray, List.map_cons, List.map_nil, hf.ev hs, hf.ev hx, hr]
 refine h v' _ w' (hf.put hn v') (hp.swap hi r2.os r2.tape r2.output r2.size (fun F hF k hk hkF => r2.block k hk (fun e => hkF (by rw [hF.1, ← e]; simp))) (fun F hF _ => ⟨v'.ownBlock.toList, ⟨rfl, by rw [List.length_append, List.flatMap_append, ← hc]; exact r1⟩, by cases v'.ownBlock <;> simp, fun k hk => ?_⟩))
 have hk' : v'.ownBlock = some k := by simpa using hk
 refine ⟨?_, (r1.lt k hk').2⟩
 rcases append_in (slB_spec ht).1 q1 q2 q4 q5 (hp.row hi) hlen hnews hone hb.2 hb.1 hr hk' with h4 | h4
 ·exact .inl (by rw [hF.1, h4]; simp)
 ·exact .inr h4
end ap
end Go.Proofs.YtohnchdnkbadaaaDoor
namespace Go.Proofs.YtohnchdnkbadaaaDoor
open Go Go.RowKit

variable {P : Program} {ops : Array Oper} {Q : Exit → Act → World → Prop} {C : Cx} {L : Sl} {H : List HA} {rest : List Oper} {o : Oper} {w : World}

theorem Hp.nilRow (h : Hp C H w) (T : TypeId) (sz : Nat) {α : Type} (f : α → List Value) : Hp C (.row (.slice none 0 0) T sz ([] : List α).length (([] : List α).flatMap f) :: H) w := by
 obtain ⟨F, h1, h2, h3⟩ := h.own
 exact ⟨h.os, h.tape, h.output, h.size, h.keep, h.ro, F, ⟨[], F, rfl, ⟨rfl, World.ownsRow_nil w 0 T sz⟩, h1⟩, h2, h3⟩
theorem WL.nilRow (T : TypeId) (sz : Nat) {α : Type} (f : α → List Value) (h : WL P ops Q C L (.row (.slice none 0 0) T sz ([] : List α).length (([] : List α).flatMap f) :: H) rest) : WL P ops Q C L H rest := fun a w hf hp => h a w hf (hp.nilRow T sz f)
theorem WC.nilRow {c : Code} (T : TypeId) (sz : Nat) {α : Type} (f : α → List Value) (h : WC P c Q C L (.row (.slice none 0 0) T sz ([] : List α).length (([] : List α).flatMap f) :: H)) : WC P c Q C L H := fun a w hf hp => h a w hf (hp.nilRow T sz f)
theorem QX.nilRow {e : Exit} (T : TypeId) (sz : Nat) {α : Type} (f : α → List Value) (h : QX Q e C L (.row (.slice none 0 0) T sz ([] : List α).length (([] : List α).flatMap f) :: H)) : QX Q e C L H := fun a w hf hp => h a w hf (hp.nilRow T sz f)
section mk
variable {x y : Operand} {t e' ty : TypeId} {p : String} {e : Array Edge} {g : Option (Nat × Bool)} {k k' : IntKind} {sz bytes : Nat} {zs : List Value} {d : Nat} {α : Type} {f : α → List Value}
end mk
/-- A store of an owned slice into a cell. -/
theorem WL.storeSl {x y : Operand} {t ty T T' : TypeId} {p : String} {e : Array Edge} {g : Option (Nat × Bool)} {b off sz n : Nat} {v : Value} {xs cs cs' : List Value} (i k : Nat)
  (hx : ev L x = some (.pointer (some ⟨b, off, none⟩))) (hy : ev L y = some v) (hi : H[i]? = some (.blk b (.cells cs.toArray T (0, 0)))) (hk : H[k]? = some (.row v T' sz n xs)) (hs : sizeB P t 1 = true)
  (hfit : off + 1 ≤ cs.length) (he : cs.take off ++ [v] ++ cs.drop (off + 1) = cs') (hw : wantB ops L ⟨none, .store t x y, ty, p, e, g⟩ = some true)
  (h : WL P ops Q C L (H.set i (.blk b (.cells cs'.toArray T (0, 0)))) rest) : WL P ops Q C L H (⟨none, .store t x y, ty, p, e, g⟩ :: rest) := by
 refine WL.op (fun K hK a w hf hp => ?_) hw h
 rcases (hp.row hk).2 with ⟨rfl, _⟩ | ⟨_, _, _, rfl, _⟩
 ·exact OpK.store (vs := [_]) i hx hy hi rfl hs hfit rfl he K hK a w hf hp
 ·exact OpK.store (vs := [_]) i hx hy hi rfl hs hfit rfl he K hK a w hf hp
end Go.Proofs.YtohnchdnkbadaaaDoor
namespace Go.Proofs.YtohnchdnkbadaaaDoor
open Go Go.RowKit

variable {P : Program} {C : Cx} {L : Sl} {H : List HA}

def ScalEq (P : Program) (ft : TypeId) (a b : Value) (r : Bool) : Prop := ∀ d w, (Op.equalIn (d + 1) ft a b).run P w = .ok r w
theorem ScalEq.int {ft : TypeId} {k k' : IntKind} {a b : Int} (h : P.underlying ft = some (.int k')) : ScalEq P ft (.int k a) (.int k b) (decide (a = b)) := fun d w => by
 rw [run_equalIn_int w d ft k k' a b h]
 congr 1
theorem ScalEq.bool {ft : TypeId} {a b : Bool} (h : P.underlying ft = some .bool) : ScalEq P ft (.bool a) (.bool b) (a == b) := fun d w => run_equalIn_bool w d ft a b h
theorem ScalEq.str {ft : TypeId} {a b : List UInt8} (h : P.underlying ft = some .string) : ScalEq P ft (st a) (st b) (decide (a = b)) := fun d w => by
 rw [run_equalIn_string w d ft _ _ h]
 congr 1; rw [ByteArray.toList_eq, ByteArray.toList_eq, Bool.eq_iff_iff]; simp
def FldEq (P : Program) (xs ys : List Value) : List Field → List Bool → Prop
 | [], [] => True
 | f :: fs, r :: rs => (f.name == "_") = false ∧ scalB P f.type = true ∧ (∃ a b, xs[f.offset]? = some a ∧ ys[f.offset]? = some b ∧ ScalEq P f.type a b r) ∧ FldEq P xs ys fs rs
 | _, _ => False
def andAll : List Bool → Bool
 | [] => true
 | [r] => r
 | r :: rs => r && andAll rs
theorem andAll_cons (r : Bool) (rs : List Bool) : andAll (r :: rs) = (r && andAll rs) := by
 cases rs <;> simp [andAll]
theorem run_fields {xs ys : List Value} {d : Nat} {w : World} : ∀ {fs : List Field} {rs : List Bool}, FldEq P xs ys fs rs → (Op.eqFields (d + 1) xs.toArray ys.toArray fs).run P w = .ok (andAll rs) w
 | [], [], _ => by simp [Op.eqFields, andAll]
 | f :: fs, r :: rs, ⟨hn, hs, ⟨a, b, ha, hb, hr⟩, h⟩ => by
  have ih := run_fields (d := d) (w := w) h
  have hn' : ¬ f.name = "_" := by simpa using hn
  have p1 : (part f.type xs.toArray f.offset).run P w = .ok a w := by simp [part, run_isAgg_no hs, ha]
  have p2 : (part f.type ys.toArray f.offset).run P w = .ok b w := by simp [part, run_isAgg_no hs, hb]
  rw [andAll_cons]
  simp only [Op.eqFields, hn', ne_eq, not_false_eq_true, if_true, Sem.run_bind, p1, p2, Result.andThen_ok, hr d w]
  cases r
  ·simp
  ·simpa using ih
 | [], _ :: _, h => h.elim
 | _ :: _, [], h => h.elim
theorem run_eqStruct {t : TypeId} {xs ys : List Value} {fs : Array Field} {rs : List Bool} (hu : P.underlying t = some (.struct fs)) (hp : P.stoodInHeld t = false) (hF : FldEq P xs ys fs.toList rs) (w : World) : (Op.equalIn 10000 t (.agg xs.toArray) (.agg ys.toArray)).run P w = .ok (andAll rs) w := by
 have hfo : P.fieldsOf t = fs := by simp [Program.fieldsOf, hu]
 rw [run_equalIn_struct w 9999 t _ _ (by rw [hfo]; exact hu) hp, hfo]
 exact run_fields hF
section ov
variable {x y : Operand} {t t' ty : TypeId} {d : Option Tmp} {p : String} {e : Array Edge} {g : Option (Nat × Bool)} {xs ys : List Value} {fs : Array Field} {rs : List Bool}
theorem OV.eqlF (hx : ev L x = some (.agg xs.toArray)) (hy : ev L y = some (.agg ys.toArray)) (hu : P.underlying t = some (.struct fs)) (hp : P.stoodInHeld t = false) (hm : P.eqGuardType P.depth t = false) (hF : FldEq P xs ys fs.toList rs) :
  OV P C L H ⟨d, .binOp .eql t x y t', ty, p, e, g⟩ (.bool (andAll rs)) := fun a w hf _ => by
 simp only [execOp, hf.ev hx, hf.ev hy, Sem.run_bind, run_eqGuard_agg w .eql t x y _ _ hm, Result.andThen_ok, run_eql_struct, run_eqStruct hu hp hF, Sem.run_pure]
theorem OV.neqF (hx : ev L x = some (.agg xs.toArray)) (hy : ev L y = some (.agg ys.toArray)) (hu : P.underlying t = some (.struct fs)) (hp : P.stoodInHeld t = false) (hm : P.eqGuardType P.depth t = false) (hF : FldEq P xs ys fs.toList rs) :
  OV P C L H ⟨d, .binOp .neq t x y t', ty, p, e, g⟩ (.bool (!andAll rs)) := fun a w hf _ => by
 simp only [execOp, hf.ev hx, hf.ev hy, Sem.run_bind, run_eqGuard_agg w .neq t x y _ _ hm, Result.andThen_ok, run_neq_struct, run_eqStruct hu hp hF, Sem.run_pure]
end ov
end Go.Proofs.YtohnchdnkbadaaaDoor
namespace Go.Proofs.YtohnchdnkbadaaaDoor
open Go Go.RowKit

variable {P : Program} {ops : Array Oper} {Q : Exit → Act → World → Prop} {C : Cx} {L : Sl} {H : List HA} {rest : List Oper} {w : World}

def offOf (v : Value) : Nat := match v with
 | .slice (some a) _ _ => a.off
 | _ => 0
/-- The slice v has n elements whose cells are xs; the blocks R hold them. -/
def InSl (v : Value) (R : List (Nat × Obj)) (n : Nat) (xs : List Value) : Prop :=
 (n = 0 ∧ xs = [] ∧ (∃ a c, v = .slice a 0 c) ∧ R = []) ∨
 ∃ b off cap, ∃ cs : List Value, ∃ T fr, v = .slice (some ⟨b, off, none⟩) n cap ∧ R = [(b, .cells cs.toArray T fr)] ∧ (cs.drop off).take xs.length = xs
def LIn (C : Cx) (v : Value) (n : Nat) (xs : List Value) : Prop := ∃ R, InSl v R n xs ∧ ∀ p ∈ R, p ∈ C.R
theorem LIn.mk {v : Value} {R : List (Nat × Obj)} {n : Nat} {xs : List Value} (h : InSl v R n xs) (hR : ∀ p ∈ R, p ∈ C.R) : LIn C v n xs := ⟨R, h, hR⟩
section ov
variable {x y : Operand} {t e' ty : TypeId} {d : Option Tmp} {p : String} {e : Array Edge} {g : Option (Nat × Bool)} {v : Value} {k : IntKind} {sz n : Nat} {xs : List Value} {α : Type} [Inhabited α] {f : α → List Value} {l : List α}
theorem LIn.at (h : LIn C v n xs) (hne : xs ≠ []) : ∃ b off, ∃ cs : List Value, ∃ T fr, blkOf v = b ∧ offOf v = off ∧ At C H b (.cells cs.toArray T fr) ∧ (cs.drop off).take xs.length = xs := by
 obtain ⟨R, hi, hR⟩ := h
 rcases hi with ⟨_, h0, _⟩ | ⟨b, off, cap, cs, T, fr, rfl, rfl, hc⟩
 ·exact absurd h0 hne
 ·exact ⟨b, off, cs, T, fr, rfl, rfl, At.old (hR _ (by simp)), hc⟩
end ov

/-! ### a lent slice handed on; an owned slice lent -/
def LOk (C : Cx) (Rest : List HA) (v : Value) (n : Nat) (xs : List Value) : Prop := ∀ w F, Own w Rest F → ∃ R, InSl v R n xs ∧ ∀ p ∈ R, (w.heap[p.1]? = some p.2 ∧ p.1 ∈ F) ∨ p ∈ C.R
theorem Own.mem_row {w : World} : ∀ {H : List HA} {F : List Nat}, Own w H F → ∀ {i : Nat} {v : Value} {T sz n : Nat} {xs : List Value}, H[i]? = some (.row v T sz n xs) → w.ownsRow 0 T sz v n xs ∧ ∀ k, v.ownBlock = some k → k ∈ F
 | [], _, _, i, _, _, _, _, _, h => by simp at h
 | x :: H, F, ⟨F1, F2, hF, h1, h2⟩, i, v, T, sz, n, xs, h => by
  cases i with
  | zero =>
   simp at h
   subst h
   exact ⟨h1.2, fun k hk => by rw [hF, h1.1, hk]; simp⟩
  | succ i =>
   have := h2.mem_row (i := i) (by simpa using h)
   exact ⟨this.1, fun k hk => by rw [hF]; exact List.mem_append.2 (.inr (this.2 k hk))⟩
def slTo (v : Value) (m : Nat) : Value := match v with
 | .slice a _ c => .slice a m c
 | v => v
theorem LOk.pre {Rest : List HA} {v : Value} {T sz n m : Nat} {xs : List Value} (i : Nat) (hi : Rest[i]? = some (.row v T sz n xs)) (hm : m ≤ n) : LOk C Rest (slTo v m) m (xs.take (m * sz)) := fun w F hO => by
 obtain ⟨⟨hl, hr⟩, hmem⟩ := hO.mem_row hi
 rcases hr with ⟨rfl, rfl⟩ | ⟨b, cap, cur, rfl, _, hb, hn, hcm, hcs, htk⟩
 ·have h0 : m = 0 := by omega
  subst h0
  exact ⟨[], .inl ⟨rfl, by simp, ⟨none, 0, rfl⟩, rfl⟩, fun p hp => by cases hp⟩
 ·refine ⟨[(b, .cells cur T (0, 0))], .inr ⟨b, 0, cap, cur.toList, T, (0, 0), rfl, by simp, ?_⟩, fun p hp => ?_⟩
  ·rw [List.drop_zero, ← htk, List.take_take, List.length_take, Array.length_toList]
   have h1 : m * sz ≤ n * sz := Nat.mul_le_mul_right _ hm
   have h2 : n * sz ≤ cur.size := by rw [hcs]; exact Nat.mul_le_mul_right _ hn
   rw [Nat.min_eq_left h1, Nat.min_eq_left (by omega)]
  ·rw [List.mem_singleton.1 hp]
   exact .inl ⟨hb, hmem b rfl⟩
theorem LOk.row {Rest : List HA} {v : Value} {T sz n : Nat} {xs : List Value} (i : Nat) (hi : Rest[i]? = some (.row v T sz n xs)) : LOk C Rest v n xs := fun w F hO => by
 obtain ⟨⟨hl, hr⟩, _⟩ := hO.mem_row hi
 obtain ⟨R, h1, h2⟩ := LOk.pre (C := C) i hi (Nat.le_refl n) w F hO
 have : slTo v n = v := by rcases hr with ⟨rfl, rfl⟩ | ⟨b, cap, cur, rfl, _⟩ <;> rfl
 rw [this, ← hl, List.take_length] at h1
 exact ⟨R, h1, h2⟩
section call
variable {f : FuncId} {xs : List Operand} {ats : Array TypeId} {d : Nat} {ty : TypeId} {p : String} {e : Array Edge} {g : Option (Nat × Bool)} {vs : List Value} {R0 : List (Nat × Obj)} {A Rest : List HA} {S : Out → Prop} {v : Value} {A' : List HA} {v1 v2 : Value} {n1 n2 : Nat} {xs1 xs2 : List Value}
end call
/-- The first h elements of an owned slice. -/
theorem elem_of {P : Program} {t e : TypeId} (h : P.underlying t = some (.slice e)) : P.underlying t = some (.slice (P.elem t)) := by
 have : P.elem t = e := by simp [Program.elem, h]
 rw [this]; exact h
theorem OV.sliceTo {x y : Operand} {t e' ty T : TypeId} {d : Option Tmp} {p : String} {e : Array Edge} {g : Option (Nat × Bool)} {v : Value} {k : IntKind} {sz n : Nat} {xs : List Value} (i : Nat) {h : Int} (hx : ev L x = some v) (hy : ev L y = some (.int k h)) (hi : H[i]? = some (.row v T sz n xs)) (ht : slB P t e' sz = true) (hb : 0 ≤ h ∧ h ≤ n) :
  OV P C L H ⟨d, .slice t x none (some y) none, ty, p, e, g⟩ (slTo v h.toNat) := fun a w hf hp => by
 have he := elem_of (slB_spec ht).1
 have hs : (sizeOf (P.elem t)).run P w = .ok sz w := by
  have h1 := (slB_spec ht).2
  have h2 : P.elem t = e' := by simp [Program.elem, (slB_spec ht).1]
  rw [h2]; exact run_size h1 w
 rcases (hp.row hi).2 with ⟨rfl, rfl⟩ | ⟨b, cap, cur, rfl, _, hbk, hn, _⟩
 ·have h0 : h = 0 := by omega
  subst h0
  have hr := run_slice_h (P := P) (w := w) t none 0 0 he k 0 (by omega) (by omega)
  simp only [execOp, Option.map_some, Option.map_none, hf.ev hx, hf.ev hy, Sem.run_bind, run_sliceAt_slice (P := P) w t _ _ _ _ he, hr, hs, Result.andThen_ok, Sem.run_pure]
  rfl
 ·have hr := run_slice_h (P := P) (w := w) t (some ⟨b, 0, none⟩) n cap he k h hb.1 (by omega)
  simp only [execOp, Option.map_some, Option.map_none, hf.ev hx, hf.ev hy, Sem.run_bind, run_sliceAt_slice (P := P) w t _ _ _ _ he, hr, hs, Result.andThen_ok, Sem.run_pure]
  simp [sliced, slTo, Addr.add]
/-- A slice of an owned slice, from an element on up to another. -/
def slSub (v : Value) (sz lo hi : Nat) : Value := match v with
 | .slice a _ c => .slice (if c = lo then a else a.map (·.add (lo * sz))) (hi - lo) (c - lo)
 | v => v
theorem LOk.sub {Rest : List HA} {v : Value} {T sz lo hi : Nat} {α : Type} {f : α → List Value} {l : List α} (i : Nat) (hi' : Rest[i]? = some (.row v T sz l.length (l.flatMap f))) (hf' : ∀ x, (f x).length = sz) (hb : lo ≤ hi ∧ hi ≤ l.length) : LOk C Rest (slSub v sz lo hi) ((l.drop lo).take (hi - lo)).length (((l.drop lo).take (hi - lo)).flatMap f) := fun w F hO => by
 obtain ⟨⟨hl, hr⟩, hmem⟩ := hO.mem_row hi'
 have hlen : ((l.drop lo).take (hi - lo)).length = hi - lo := by rw [List.length_take, List.length_drop]; omega
 rw [hlen]
 rcases hr with ⟨rfl, h0⟩ | ⟨b, cap, cur, rfl, _, hb', hn, hcm, hcs, htk⟩
 ·have hlo : hi - lo = 0 := by omega
  have : (l.drop lo).take (hi - lo) = [] := by rw [hlo]; rfl
  rw [this, hlo]
  refine ⟨[], .inl ⟨rfl, rfl, ⟨if 0 = lo then none else none, 0 - lo, ?_⟩, rfl⟩, fun p hp => by cases hp⟩
  dsimp only [slSub]; rw [hlo]; rfl
 ·by_cases hz : hi - lo = 0
  ·have : (l.drop lo).take (hi - lo) = [] := by rw [hz]; rfl
   rw [this, hz]
   refine ⟨[], .inl ⟨rfl, rfl, ⟨if cap = lo then some ⟨b, 0, none⟩ else some ((⟨b, 0, none⟩ : Addr).add (lo * sz)), cap - lo, ?_⟩, rfl⟩, fun p hp => by cases hp⟩
   dsimp only [slSub]; rw [hz]; rfl
  ·refine ⟨[(b, .cells cur T (0, 0))], .inr ⟨b, lo * sz, cap - lo, cur.toList, T, (0, 0), ?_, by simp, ?_⟩, fun p hp => ?_⟩
   ·dsimp only [slSub]
    rw [if_neg (by omega)]
    simp [Addr.add_mid]
   ·rw [flat_len hf', hlen]
    have h1 : ((cur.toList.drop (lo * sz)).take ((hi - lo) * sz)) = (((cur.toList.take (l.length * sz)).drop (lo * sz)).take ((hi - lo) * sz)) := by
     rw [List.drop_take, List.take_take, Nat.min_eq_left]
     rw [← Nat.sub_mul]
     exact Nat.mul_le_mul_right _ (by omega)
    rw [h1, htk, flat_drop hf']
    have h2 : ∀ (m : List α) (q : Nat), q ≤ m.length → (m.flatMap f).take (q * sz) = (m.take q).flatMap f := fun m q hq => by
     have h3 : m.flatMap f = (m.take q).flatMap f ++ (m.drop q).flatMap f := by rw [← List.flatMap_append, List.take_append_drop]
     rw [h3, List.take_left' (by rw [flat_len hf', List.length_take, Nat.min_eq_left hq])]
    exact h2 _ _ (by rw [List.length_drop]; omega)
   ·rw [List.mem_singleton.1 hp]
    exact .inl ⟨hb', hmem b rfl⟩
end Go.Proofs.YtohnchdnkbadaaaDoor
namespace Go.Proofs.YtohnchdnkbadaaaDoor
open Go Go.RowKit

variable {P : Program} {ops : Array Oper} {Q : Exit → Act → World → Prop} {C : Cx} {L : Sl} {H : List HA} {rest : List Oper} {o : Oper}

/-! ### interfaces -/
theorem OV.cast {v v' : Value} (h : OV P C L H o v) (e : v = v') : OV P C L H o v' := e ▸ h
section iface
variable {x : Operand} {t t' t2 ty : TypeId} {d : Option Tmp} {p : String} {e : Array Edge} {g : Option (Nat × Bool)} {v z : Value}
def zeroV (P : Program) (t : TypeId) : Option Value := (P.info? t).bind (·.zero)
theorem run_zeroV (h : zeroV P t = some z) (w : World) : (zeroValue t).run P w = .ok z w := by
 unfold zeroV at h
 cases hq : P.info? t with
 | none => simp [hq] at h
 | some i =>
  simp only [hq, Option.bind_some] at h
  simp [zeroValue, typeInfo, hq, h]
def concB (P : Program) (t : TypeId) : Bool := match P.underlying t with | some (.interface _) => false | some _ => true | none => false
theorem OV.assertYes (hx : ev L x = some (.iface t' v)) (hc : concB P t' = true) : OV P C L H ⟨d, .typeAssert x t t' true, ty, p, e, g⟩ (.tuple #[v, .bool true]) := fun a w hf _ => by
 unfold concB at hc
 cases hu : P.underlying t' with
 | none => rw [hu] at hc; cases hc
 | some dd =>
  have : (Instr.typeAssert (.iface t' v) t t' true).run P w = .ok (.tuple #[v, .bool true]) w := by
   unfold Instr.typeAssert
   rw [Sem.run_bind, run_under hu]
   cases dd <;> simp_all
  simp [execOp, hf.ev hx, this]
theorem OV.assertNo (hx : ev L x = some (.iface t2 v)) (hc : concB P t' = true) (hz : zeroV P t' = some z) (hn : Nat.beq t2 t' = false) : OV P C L H ⟨d, .typeAssert x t t' true, ty, p, e, g⟩ (.tuple #[z, .bool false]) := fun a w hf _ => by
 unfold concB at hc
 have hne : ¬ t2 = t' := fun h => by subst h; simp at hn
 cases hu : P.underlying t' with
 | none => rw [hu] at hc; cases hc
 | some dd =>
  have : (Instr.typeAssert (.iface t2 v) t t' true).run P w = .ok (.tuple #[z, .bool false]) w := by
   unfold Instr.typeAssert
   rw [Sem.run_bind, run_under hu]
   cases dd <;> simp_all [run_zeroV hz]
  simp [execOp, hf.ev hx, this]
theorem OV.assertNil (hx : ev L x = some .nilIface) (hc : concB P t' = true) (hz : zeroV P t' = some z) : OV P C L H ⟨d, .typeAssert x t t' true, ty, p, e, g⟩ (.tuple #[z, .bool false]) := fun a w hf _ => by
 unfold concB at hc
 cases hu : P.underlying t' with
 | none => rw [hu] at hc; cases hc
 | some dd =>
  have : (Instr.typeAssert .nilIface t t' true).run P w = .ok (.tuple #[z, .bool false]) w := by
   unfold Instr.typeAssert
   rw [Sem.run_bind, run_under hu]
   cases dd <;> simp_all [run_zeroV hz]
  simp [execOp, hf.ev hx, this]
end iface

/-! ### calls by other roads -/
/-- The operation enters a function. -/
def EN (P : Program) (C : Cx) (L : Sl) (H : List HA) (o : Oper) (f : FuncId) (vs : List Value) : Prop := ∀ a w, Fr C L a → Hp C H w → (execOp a.eval o).run P w = .ok (.enter f vs.toArray) w
section call
variable {f : FuncId} {xs : List Operand} {ats : Array TypeId} {d : Nat} {ty : TypeId} {p : String} {e : Array Edge} {g : Option (Nat × Bool)} {vs : List Value} {R : List (Nat × Obj)} {A Rest : List HA} {S : Out → Prop} {v : Value} {A' : List HA}
/-- The method of a concrete type, its receiver taken by value and at the top. -/
def methB (P : Program) (T : TypeId) (name : String) : Option FuncId := ((P.info? T).bind fun i => i.methods.find? (·.name == name)).bind fun m => if m.path.isEmpty then m.func.bind fun q => if q.2 then none else some q.1 else none
def plainB (P : Program) (t : TypeId) : Bool := match P.underlying t with | some (.pointer _) => false | some _ => true | none => false
theorem EN.invoke {x : Operand} {T : TypeId} {name : String} {do_ : Option Tmp} (hx : ev L x = some (.iface T v)) (hm : methB P T name = some f) (hu : plainB P T = true) (he : entB P f = true) (hxs : evs L xs = some vs) :
  EN P C L H ⟨do_, .call ⟨.invoke x name, xs.toArray, ats⟩, ty, p, e, g⟩ f (v :: vs) := fun a w hf _ => by
 unfold methB at hm
 cases hi : P.info? T with
 | none => simp [hi] at hm
 | some i =>
  simp only [hi, Option.bind_some] at hm
  cases hq : i.methods.find? (·.name == name) with
  | none => simp [hq] at hm
  | some m =>
   simp only [hq, Option.bind_some] at hm
   split at hm
   ·rename_i hpath
    cases hfn : m.func with
    | none => simp [hfn] at hm
    | some q =>
     obtain ⟨f', pr⟩ := q
     simp only [hfn, Option.bind_some] at hm
     cases pr with
     | true => simp at hm
     | false =>
      simp only [Bool.false_eq_true, if_false, Option.some.injEq] at hm
      subst hm
      unfold plainB at hu
      cases hT : P.underlying T with
      | none => rw [hT] at hu; cases hu
      | some dd =>
       have hrec : ∀ s, (receiverAt T (.val v) false s).run P w = .ok v w := fun s => by
        unfold receiverAt
        rw [Sem.run_bind, run_under hT]
        rw [hT] at hu
        cases dd <;> first | (simp at hu; done) | simp [Place.get]
       have hpl : m.path.toList = [] := by simpa using hpath
       have hmeth : (method ((P.types.size + Made.depth - 1) + 1) T v name).run P w = .ok (f', v) w := by
        unfold method
        simp [typeInfo, hi, hq, hpl, follow, hfn, hrec]
       have hsz : (P.types.size + Made.depth - 1) + 1 = P.types.size + Made.depth := by
        have : 0 < Made.depth := by decide
        omega
       rw [hsz] at hmeth
       have hmap : xs.toArray.map a.eval = vs.toArray := by rw [List.map_toArray, evs_spec hf hxs]
       simp only [execOp, resolve, hf.ev hx, hmap, Sem.run_bind, Sem.run_pure, Result.andThen_ok, Go.invoke]
       have hen := run_enter he (v :: vs).toArray w
       have h0 : (#[Value.iface T v] ++ vs.toArray)[0]? = some (Value.iface T v) := by simp
       have h1 : #[v] ++ (#[Value.iface T v] ++ vs.toArray).extract 1 (#[Value.iface T v] ++ vs.toArray).size = (v :: vs).toArray := by simp
       simp only [h0, callMethod, Sem.run_bind, run_program, Result.andThen_ok, hmeth, h1]
       exact hen
   ·cases hm
theorem EN.value {x : Operand} {caps : List Value} {do_ : Option Tmp} (hx : ev L x = some (.func (.func f) #[] caps.toArray)) (he : entB P f = true) (hxs : evs L xs = some vs) :
  EN P C L H ⟨do_, .call ⟨.value x, xs.toArray, ats⟩, ty, p, e, g⟩ f (vs ++ caps) := fun a w hf _ => by
 have hmap : xs.toArray.map a.eval = vs.toArray := by rw [List.map_toArray, evs_spec hf hxs]
 simp only [execOp, resolve, hf.ev hx, hmap, Deferred.ofValue, Sem.run_bind, Sem.run_pure, Result.andThen_ok, Go.invoke]
 simp [run_enter he]
end call

/-! ### the pool -/
def poolP (B : List (Nat × Obj)) (w : World) (F : List Nat) : Prop := F = B.map Prod.fst ∧ ∀ p ∈ B, w.heap[p.1]? = some p.2
theorem poolP_keeps (B : List (Nat × Obj)) : Keeps (poolP B) := by
 rintro w w' F ⟨rfl, h⟩ hk
 exact ⟨rfl, fun p hp => by rw [hk p.1 (List.mem_map.2 ⟨p, hp, rfl⟩)]; exact h p hp⟩
def pool (B : List (Nat × Obj)) : HA := .gen (poolP B) (poolP_keeps B)
variable {B : List (Nat × Obj)} {b : Nat} {ob : Obj}
theorem Own.absorb {w : World} {F : List Nat} {A : List HA} (h : Own w (.blk b ob :: pool B :: A) F) : Own w (pool ((b, ob) :: B) :: A) F := by
 obtain ⟨F1, F2, rfl, ⟨rfl, hb⟩, F3, F4, rfl, ⟨rfl, hB⟩, h2⟩ := h
 refine ⟨b :: B.map Prod.fst, F4, by simp, ⟨by simp, fun p hp => ?_⟩, h2⟩
 rcases List.mem_cons.1 hp with rfl | hp
 ·exact hb
 ·exact hB p hp
theorem Hp.absorb {w : World} (h : Hp C (.blk b ob :: pool B :: H) w) : Hp C (pool ((b, ob) :: B) :: H) w := by
 obtain ⟨F, h1, h2⟩ := h.own
 exact ⟨h.os, h.tape, h.output, h.size, h.keep, h.ro, F, h1.absorb, h2⟩
theorem QX.absorb {e : Exit} (h : QX Q e C L (pool ((b, ob) :: B) :: H)) : QX Q e C L (.blk b ob :: pool B :: H) := fun a w hf hp => h a w hf hp.absorb
theorem WL.absorb {l : List Oper} (h : WL P ops Q C L (pool ((b, ob) :: B) :: H) l) : WL P ops Q C L (.blk b ob :: pool B :: H) l := fun a w hf hp => h a w hf hp.absorb
theorem WC.absorb {c : Code} (h : WC P c Q C L (pool ((b, ob) :: B) :: H)) : WC P c Q C L (.blk b ob :: pool B :: H) := fun a w hf hp => h a w hf hp.absorb
/-- A new pool. -/
theorem WL.newPool {l : List Oper} (h : WL P ops Q C L (pool [] :: H) l) : WL P ops Q C L H l := fun a w hf hp => h a w hf (by
 obtain ⟨F, h1, h2⟩ := hp.own
 exact ⟨hp.os, hp.tape, hp.output, hp.size, hp.keep, hp.ro, F, ⟨[], F, rfl, ⟨rfl, fun p hp => by cases hp⟩, h1⟩, h2⟩)
theorem WC.newPool {c : Code} (h : WC P c Q C L (pool [] :: H)) : WC P c Q C L H := fun a w hf hp => h a w hf (by
 obtain ⟨F, h1, h2⟩ := hp.own
 exact ⟨hp.os, hp.tape, hp.output, hp.size, hp.keep, hp.ro, F, ⟨[], F, rfl, ⟨rfl, fun p hp => by cases hp⟩, h1⟩, h2⟩)
theorem Own.mem_pool {w : World} : ∀ {H : List HA} {F : List Nat}, Own w H F → ∀ {i : Nat}, H[i]? = some (pool B) → ∀ p ∈ B, w.heap[p.1]? = some p.2 ∧ p.1 ∈ F
 | [], _, _, i, h => by simp at h
 | y :: H, _, ⟨F1, F2, hF, h1, h2⟩, i, h => by
  intro p hp
  cases i with
  | zero =>
   simp at h
   subst h
   obtain ⟨rfl, hB⟩ := h1
   exact ⟨hB p hp, by rw [hF]; exact List.mem_append.2 (.inl (List.mem_map.2 ⟨p, hp, rfl⟩))⟩
  | succ i =>
   have := h2.mem_pool (i := i) (by simpa using h) p hp
   exact ⟨this.1, by rw [hF]; exact List.mem_append.2 (.inr this.2)⟩
end Go.Proofs.YtohnchdnkbadaaaDoor
namespace Go.Proofs.YtohnchdnkbadaaaDoor
open Go Go.RowKit

variable {P : Program} {ops : Array Oper} {Q : Exit → Act → World → Prop} {C : Cx} {L : Sl} {H : List HA} {rest : List Oper} {o : Oper} {md : Region.Mode} {S : World → Prop} {q : Nat}

theorem EN.fn {f : FuncId} {xs : List Operand} {ats : Array TypeId} {d : Option Tmp} {ty : TypeId} {p : String} {e : Array Edge} {g : Option (Nat × Bool)} {vs : List Value} (he : entB P f = true) (hx : evs L xs = some vs) :
  EN P C L H ⟨d, .call ⟨.value (.func f), xs.toArray, ats⟩, ty, p, e, g⟩ f vs := fun _ _ hf _ => exec_callV he hf hx
/-- S holds behind every operation but number q. -/
def wpAnyX (P : Program) (md : Region.Mode) (ops : Array Oper) (Q : Exit → Act → World → Prop) (S : World → Prop) (q : Nat) : Nat → Array Bool → Act → World → Prop
 | 0, listed, a, w => Region.ready md ops listed = [] ∧ Q .normal a w
 | fuel + 1, listed, a, w =>
  (Region.ready md ops listed = [] → Q .normal a w) ∧
  ∀ i ∈ Region.ready md ops listed, wpOp P ops Q i (fun a' w' => (i ≠ q → S w') ∧ wpAnyX P md ops Q S q fuel (listed.setIfInBounds i true) a' w') a w
theorem wpAny_of_X : ∀ (fuel : Nat) (listed : Array Bool) (a : Act) (w : World), wpAnyX P md ops Q S q fuel listed a w → wpAny P md ops Q fuel listed a w
 | 0, _, _, _, h => h
 | fuel + 1, _, _, _, h => ⟨h.1, fun i hi => wpOp_mono (fun a' w' h' => wpAny_of_X fuel _ a' w' h'.2) (h.2 i hi)⟩
theorem wpAnyX_first {i : Nat} {oi : Oper} {v : Value} (hi : ops[i]? = some oi) (hsel : ∀ (j : Nat) (o : Oper) cs b, ops[j]? = some o → o.op ≠ .select cs b)
  (hQ : ∀ c a w, Q (.panic c) (a.put oi.dst v) w → Q (.panic c) a w) (hlast : ∀ oq, ops[q]? = some oq → ∃ e ∈ oq.after, Region.binds md e = true ∧ e.on = i) :
  ∀ (fuel : Nat) (listed : Array Bool) (a : Act) (w : World),
   (∀ j oj, ops[j]? = some oj → j ≠ i → listed.getD j true = false → (∀ e ∈ oj.after, Region.binds md e = true → e.on ≠ i) → oi.apart ops oj = true) →
   i ∈ Region.ready md ops listed → YieldsIf P ops S oi v a → S w →
   wpAnyX P md ops Q S q fuel (listed.setIfInBounds i true) (a.put oi.dst v) w → wpAnyX P md ops Q S q (fuel + 1) listed a w := by
 intro fuel
 induction fuel with
 | zero =>
  intro listed a w _ hr hy hS H
  refine ⟨fun h => (by rw [h] at hr; cases hr), fun j hj => ?_⟩
  by_cases hji : j = i
  ·subst hji; exact hy.wpOp hi hS ⟨fun _ => hS, H⟩
  ·have := ready_mono hj hji
   rw [H.1] at this
   cases this
 | succ fuel ih =>
  intro listed a w hfree hr hy hS H
  refine ⟨fun h => (by rw [h] at hr; cases hr), fun j hj => ?_⟩
  by_cases hji : j = i
  ·subst hji; exact hy.wpOp hi hS ⟨fun _ => hS, H⟩
  ·have h1 := H.2 j (ready_mono hj hji)
   obtain ⟨hjun, oj, hoj, hall⟩ := mem_ready.1 hj
   have hnot : ∀ e ∈ oj.after, Region.binds md e = true → e.on ≠ i := fun e he hb heq => by
    have h1 := hall e he hb
    have h0 := (mem_ready.1 hr).1
    rw [heq] at h1
    rcases Nat.lt_or_ge i listed.size with h' | h'
    ·simp [h'] at h0 h1; rw [h0] at h1; cases h1
    ·simp [Array.getElem?_eq_none h'] at h1
   have hjq : j ≠ q := fun e => by
    subst e
    obtain ⟨e, he, hb, hon⟩ := hlast oj hoj
    exact hnot e he hb hon
   have h2 := wpOp_putIf hoj (hfree j oj hoj hji hjun hnot) (fun cs b => hsel i oi cs b hi) (fun cs b => hsel j oj cs b hoj) hQ hy h1
   have hfree' : ∀ k ok, ops[k]? = some ok → k ≠ i → (listed.setIfInBounds j true).getD k true = false →
     (∀ e ∈ ok.after, Region.binds md e = true → e.on ≠ i) → oi.apart ops ok = true := fun k ok hk hki hun hno => by
    refine hfree k ok hk hki ?_ hno
    by_cases hjk : j = k
    ·subst hjk; exact hjun
    ·rw [getD_set_ne true hjk] at hun; exact hun
   refine wpOp_mono (fun a' w' h3 => ⟨h3.2.1, ih (listed.setIfInBounds j true) a' w' hfree' (ready_mono hr (Ne.symm hji)) h3.1 (h3.2.1 hjq) ?_⟩) h2
   rw [Array.setIfInBounds_comm _ _ hji]
   exact h3.2.2
theorem wpAnyX_take {i : Nat} {oi : Oper} {v : Value} {fuel : Nat} {listed : Array Bool} {a : Act} {w : World} (hi : ops[i]? = some oi)
  (hs : Region.noSelect ops = true) (hf : Region.free md ops listed i = true) (hr : (Region.ready md ops listed).contains i = true)
  (hQ : ∀ c a w, Q (.panic c) (a.put oi.dst v) w → Q (.panic c) a w) (hlast : ∀ oq, ops[q]? = some oq → ∃ e ∈ oq.after, Region.binds md e = true ∧ e.on = i) (hy : YieldsIf P ops S oi v a) (hS : S w)
  (h : wpAnyX P md ops Q S q fuel (listed.setIfInBounds i true) (a.put oi.dst v) w) : wpAnyX P md ops Q S q (fuel + 1) listed a w :=
 wpAnyX_first hi (Region.noSelect_spec hs) hQ hlast fuel listed a w (Region.free_spec hi hf) (by simpa using hr) hy hS h
/-- A list of operations in their order, S behind each but the last. -/
def wpListX (P : Program) (ops : Array Oper) (Q : Exit → Act → World → Prop) (S : World → Prop) : List Oper → Act → World → Prop
 | [], a, w => Q .normal a w
 | o :: rest, a, w => Region.wanted o (yielded ops a.tmps) = true ∧ o.wp P a w (fun a' w' => (rest ≠ [] → S w') ∧ wpListX P ops Q S rest a' w') Q
theorem wpAnyX_of_seq : ∀ (l : List Oper) (k : Nat) (listed : Array Bool) (a : Act) (w : World), k + l.length = q + 1 → (∀ j, l[j]? = ops[k + j]?) →
  Region.seqB md ops l.length k listed = true → wpListX P ops Q S l a w → wpAnyX P md ops Q S q l.length listed a w
 | [], _, _, _, _, _, _, hB, h => ⟨by simpa [Region.seqB] using hB, h⟩
 | o :: l, k, listed, a, w, hq, hl, hB, h => by
  have h0 : ops[k]? = some o := by simpa using (hl 0).symm
  simp only [List.length_cons, Region.seqB, Bool.and_eq_true, decide_eq_true_eq] at hB
  refine ⟨fun h1 => (by rw [hB.1] at h1; cases h1), fun i hi => ?_⟩
  rw [hB.1] at hi
  obtain rfl : i = k := by simpa using hi
  unfold wpOp
  simp only [h0, h.1, if_true]
  refine .inl (Oper.wp_mono (fun a' w' h' => ⟨fun hne => h'.1 (fun e => hne (by subst e; simp at hq; omega)), ?_⟩) h.2)
  exact wpAnyX_of_seq l (i + 1) _ a' w' (by rw [← hq, List.length_cons]; omega) (fun j => by have := hl (j + 1); simpa [Nat.add_assoc, Nat.add_comm 1 j] using this) hB.2 h'.2
def WLX (P : Program) (ops : Array Oper) (Q : Exit → Act → World → Prop) (C : Cx) (HK : List HA) (L : Sl) (H : List HA) (l : List Oper) : Prop := ∀ a w, Fr C L a → Hp C H w → wpListX P ops Q (Hp C HK) l a w
theorem twx_any {g : Nat} {tail : List Oper} {HK : List HA} (hsel : Region.noSelect ops = true) (hq : Stays Q) (hg : tail.length = g) : ∀ (l : List Oper) (k : Nat) (listed : Array Bool) (L : Sl) (a : Act) (w : World), k + l.length + g = q + 1 → (∀ j, j < l.length → l[j]? = ops[k + j]?) → (∀ j, tail[j]? = ops[k + l.length + j]?) →
  (∀ i, i < k + l.length → ∀ oq, ops[q]? = some oq → ∃ e ∈ oq.after, Region.binds .any e = true ∧ e.on = i) →
  Region.lexHead .any ops g l.length k listed = true → Fr C L a → Hp C H w → Hp C HK w → TW P ops C HK (fun L' => WLX P ops Q C HK L' H tail) L l → wpAnyX P .any ops Q (Hp C HK) q (l.length + g) listed a w
 | [], k, listed, L, a, w, hqq, _, ht, _, hB, hf, hp, _, h => by
  have := wpAnyX_of_seq (md := .any) (Q := Q) (S := Hp C HK) (q := q) tail k listed a w (by rw [hg]; simpa using hqq) (fun j => by simpa using ht j) (by rw [hg]; simpa [Region.lexHead] using hB) (h a w hf hp)
  rw [hg] at this
  simpa using this
 | o :: l, k, listed, L, a, w, hqq, hl, ht, hlast, hB, hf, hp, hpk, ⟨v, d, hv, hd, hn, h⟩ => by
  have h0 : ops[k]? = some o := by simpa using (hl 0 (by simp)).symm
  simp only [List.length_cons, Region.lexHead, Bool.and_eq_true] at hB
  obtain ⟨⟨hrd, hfr⟩, hB'⟩ := hB
  have hy : YieldsIf P ops (Hp C HK) o v a := by
   rcases hv with ⟨hw, hv⟩ | ⟨hw, rfl⟩
   ·exact .inl ⟨wanted_of hf hw, fun w' hw' => hv a w' hf hw'⟩
   ·exact .inr ⟨wanted_of hf hw, rfl⟩
  have ih := twx_any hsel hq hg l (k + 1) (listed.setIfInBounds k true) ((d, v) :: L) (a.put (some d) v) w (by rw [← hqq, List.length_cons]; omega) (fun j hj => by have := hl (j + 1) (by simp; omega); simpa [Nat.add_assoc, Nat.add_comm 1 j] using this)
   (fun j => by have := ht j; rw [List.length_cons] at this; rw [this]; congr 1; omega) (fun i hi => hlast i (by rw [List.length_cons]; omega)) hB' (hf.put hn v) hp hpk h
  rw [show (o :: l).length + g = (l.length + g) + 1 by simp; omega]
  refine wpAnyX_take h0 hsel hfr hrd (fun c a w h => hq c a _ v w h) (hlast k (by simp)) hy hpk ?_
  rw [hd]; exact ih
/-- What must be shown behind a panic, whatever the temporaries hold. -/
def SP (Q : Exit → Act → World → Prop) : Exit → Act → World → Prop
 | .panic c, a, w => ∀ a' : Act, a'.defers = a.defers → a'.tmps.size = a.tmps.size → Q (.panic c) a' w
 | e, a, w => Q e a w
theorem SP.stays : Stays (SP Q) := fun c a d v w h a' h1 h2 => h a' (by rw [h1]; cases d <;> rfl) (by rw [h2]; cases d <;> simp [Act.put])
theorem QX.strong {c : List PanicEntry} (h : QX Q (.panic c) C [] H) : QX (SP Q) (.panic c) C L H := fun a w hf hp a' h1 h2 => h a' w ⟨h1.trans hf.defers, by rw [h2]; exact hf.size, fun i v hg => by cases hg⟩ hp
def lastB (l : List Oper) (n : Nat) : Bool := match l[l.length - 1]? with
 | some o => (List.range n).all fun i => o.after.any fun e => Region.binds .any e && Nat.beq e.on i
 | none => false
theorem wc_drawC {id : Nat} {l : List Oper} {L : Sl} (n : Nat) (idx : List Nat) (HK : List HA) (hi : nodupB idx = true) (hk : sel H idx = HK) (hm : P.follows .mixedOrders = true) (hB : (Region.noSelect l.toArray && Nat.blt n l.length && lastB l n && Region.lexHead .any l.toArray (l.length - n) n 0 (Array.replicate l.length false)) = true)
  (h : ∀ T : Sl → Prop, (∀ L', WLX P l.toArray (SP Q) C HK L' H (l.drop n) → T L') → TW P l.toArray C HK T L (l.take n)) : WC P (.region id l.toArray true) Q C L H := by
 intro a w hf hp
 simp only [Bool.and_eq_true] at hB
 obtain ⟨⟨⟨hsel, hn⟩, hla⟩, hlex⟩ := hB
 have hn' : n < l.length := Nat.blt_eq ▸ hn
 have htl : (l.take n).length = n := by simp; omega
 refine wp_mono (Q := SP Q) (wp_region_any hm ?_) (fun e a w hq => ?_)
 ·have := wpAny_of_X _ _ _ _ (twx_any (P := P) (ops := l.toArray) (Q := SP Q) (C := C) (H := H) (HK := HK) (g := l.length - n) (tail := l.drop n) (q := l.length - 1) hsel SP.stays (by simp) (l.take n) 0 (Array.replicate l.length false) L a w.drew
   (by rw [htl]; omega) (fun j hj => by rw [htl] at hj; simp [hj]) (fun j => by rw [htl]; simp [List.getElem?_drop])
   (fun i hi oq hoq => by
    unfold lastB at hla
    have h1 : l[l.length - 1]? = some oq := by simpa using hoq
    rw [h1] at hla
    have h2 := List.all_eq_true.1 hla i (List.mem_range.2 (by rw [htl] at hi; omega))
    obtain ⟨e, he, hb⟩ := Array.any_eq_true'.1 h2
    simp only [Bool.and_eq_true] at hb
    exact ⟨e, he, hb.1, Nat.eq_of_beq_eq_true hb.2⟩)
   (by rw [htl]; exact hlex) hf hp.drew (hk ▸ hp.drew.pick idx hi) (h _ fun _ hh => hh))
  rw [htl, show n + (l.length - n) = l.length by omega] at this
  simpa using this
 ·cases e with
  | panic c => exact hq a rfl rfl
  | _ => exact hq

/-! ### the chain -/
theorem Hp.right {A B : List HA} {w : World} (h : Hp C (A ++ B) w) : Hp C B w := by
 obtain ⟨F, h1, h2, h3⟩ := h.own
 obtain ⟨F1, F2, rfl, _, hB⟩ := h1.split
 exact ⟨h.os, h.tape, h.output, h.size, h.keep, h.ro, F2, hB, (List.nodup_append.1 h2).2.1, fun k hk => h3 k (List.mem_append.2 (.inr hk))⟩
theorem WLX.nil {HK : List HA} (h : QX Q .normal C L H) : WLX P ops (SP Q) C HK L H [] := fun a w hf hp => h a w hf hp
theorem WLX.op {HK H' : List HA} {L' : Sl} (idx : List Nat) (hi : nodupB idx = true) (hk : sel H' idx = HK) (hop : OpK P o Q C L H L' H') (hw : wantB ops L o = some true) (h : WLX P ops Q C HK L' H' rest) : WLX P ops Q C HK L H (o :: rest) :=
 fun a w hf hp => ⟨wanted_of hf hw, hop _ (fun a' w' hf' hp' => ⟨fun _ => hk ▸ hp'.pick idx hi, h a' w' hf' hp'⟩) a w hf hp⟩
theorem WLX.opZ {HK H' : List HA} {L' : Sl} (hop : OpK P o Q C L H L' H') (hw : wantB ops L o = some true) (h : WLX P ops Q C HK L' H' []) : WLX P ops Q C HK L H [o] :=
 fun a w hf hp => ⟨wanted_of hf hw, hop _ (fun a' w' hf' hp' => ⟨fun e => absurd rfl e, h a' w' hf' hp'⟩) a w hf hp⟩
theorem WLX.pick {HK : List HA} {l : List Oper} (idx : List Nat) (hi : nodupB idx = true) {H' : List HA} (he : sel H idx = H') (h : WLX P ops Q C HK L H' l) : WLX P ops Q C HK L H l := fun a w hf hp => h a w hf (he ▸ hp.pick idx hi)
theorem WLX.callS {HK : List HA} {f : FuncId} {vs : List Value} {d : Nat} {R : List (Nat × Obj)} {A Rest : List HA} {S : Out → Prop} (idx : List Nat) (hi : nodupB idx = true) (hE : EN P C L H o f vs) (hd : o.dst = some d) (hc : Does P f vs R A S) (hH : H = A ++ Rest) (hk : sel Rest idx = HK) (hR : ROk C Rest R)
  (hw : wantB ops L o = some true) (hn : Nat.blt d C.n = true)
  (h : ∀ r H', S (.ret r H') → WLX P ops Q C HK ((d, r) :: L) (H' ++ Rest) rest) (hpan : ∀ c H', S (.pan c H') → QX Q (.panic c) C L (H' ++ Rest)) : WLX P ops Q C HK L H (o :: rest) := by
 intro a w hf hp
 subst hH
 refine ⟨wanted_of hf hw, ?_⟩
 unfold Oper.wp
 rw [hE a w hf hp]
 simp only [Oper.upon]
 refine (call_at hc hp hR).mono ?_
 rintro en w' ⟨H', hS, hh⟩
 rcases hS with ⟨r, rfl, hS⟩ | ⟨c, rfl, hS⟩
 ·rw [hd]
  exact ⟨fun _ => hk ▸ hh.right.pick idx hi, h r H' hS _ _ (hf.put hn r) hh⟩
 ·exact hpan c H' hS _ _ hf hh
end Go.Proofs.YtohnchdnkbadaaaDoor
