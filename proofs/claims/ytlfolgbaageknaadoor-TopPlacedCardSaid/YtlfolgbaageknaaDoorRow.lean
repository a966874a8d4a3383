/-
  Whole rows stored and loaded; a new variable of an array type; small facts on blocks.
-/
import Derived.Laws.CopyRow
import Derived.Laws.CopyOwn
import Derived.ChangeKeysEq
import Derived.Deep.WholeRow
import Derived.Below
import Derived.WalkKit
import Derived.Test.YtlfolgbaageknaaDoorFlow
namespace Go.Proofs.YtlfolgbaageknaaDoor
open Go Go.RowKit

section
variable {P : Program}

/-- An array or struct type of n cells. -/
def aggB (P : Program) (ty : TypeId) : Bool := match P.underlying ty with | some (.struct _) => true | some (.array _ _) => true | _ => false
structure RowT (P : Program) (ty : TypeId) (n : Nat) : Prop where
  agg : aggB P ty = true
  size : (P.info? ty).map (·.size) = some n

theorem RowT.desc {ty : TypeId} {n : Nat} (h : RowT P ty n) : (∃ fs, P.underlying ty = some (.struct fs)) ∨ (∃ n e, P.underlying ty = some (.array n e)) := by
  have h1 := h.agg
  unfold aggB at h1
  split at h1
  · rename_i fs hd; exact .inl ⟨_, hd⟩
  · rename_i n e hd; exact .inr ⟨_, _, hd⟩
  · cases h1

theorem run_loadT {w : World} {g : Nat} {t ty : TypeId} {cs : Array Value} {fr : Nat × Nat} (hg : w.heap[g]? = some (.cells cs t fr)) (h : RowT P ty cs.size) :
    (loadVar ty ⟨g, 0, none⟩).run P w = .ok (.agg cs) w := by
  rcases h.desc with ⟨fs, hu⟩ | ⟨n, e, hu⟩
  · exact run_loadVar_row w g t ty cs fr _ hg hu rfl h.size
  · exact run_loadVar_row w g t ty cs fr _ hg hu rfl h.size

theorem wpList_loadT {ops : Array Oper} {rest : List Oper} {o : Oper} {a : Act} {w : World} {Q : Exit → Act → World → Prop} (hgd : o.guard = none) (ty : TypeId) (x : Operand) (ho : o.op = .load ty x)
    (g : Nat) (hx : a.eval x = .pointer (some ⟨g, 0, none⟩)) (t : TypeId) (cs : Array Value) (fr : Nat × Nat) (hg : w.heap[g]? = some (.cells cs t fr))
    (ht : RowT P ty cs.size) (h : wpList P ops Q rest (a.put o.dst (.agg cs)) w) : wpList P ops Q (o :: rest) a w := by
  rcases ht.desc with ⟨fs, hu⟩ | ⟨n, e, hu⟩
  · exact wpList_load_row hgd ty x ho g hx t cs fr _ hg hu rfl ht.size h
  · exact wpList_load_row hgd ty x ho g hx t cs fr _ hg hu rfl ht.size h

theorem run_storeVar_row (w : World) (g : Nat) (ty t : TypeId) (cur cs : Array Value) (hg : w.heap[g]? = some (.cells cur t (0, 0))) (hz : cur.size = cs.size)
    (hi : (P.info? ty).map (·.size) = some cs.size) (h1 : ∀ v ∈ cs.toList, v.oneCell' = true) :
    (storeVar ty ⟨g, 0, none⟩ (.agg cs)).run P w = .ok () (w.setRow g cs) := by
  have hl : 0 + 0 + cs.toList.length ≤ cur.size := by simp; omega
  have := run_storeCells_at (P := P) g 0 t cs.toList 0 cur w hg hl h1
  have e : (cur.toList.take (0 + 0) ++ cs.toList ++ cur.toList.drop (0 + 0 + cs.toList.length)).toArray = cs := by
    rw [List.drop_eq_nil_of_le (by simp; omega)]; simp
  rw [e] at this
  cases hq : P.info? ty with
  | none => simp [hq] at hi
  | some i =>
    have hs : cs.size = i.size := by simp [hq] at hi; omega
    simp [storeVar, sizeOf, typeInfo, hq, Value.cells, hs, this]

theorem wp_store_row {o : Oper} {a : Act} {w : World} {K : Act → World → Prop} {Q : Exit → Act → World → Prop} (ty : TypeId) (x y : Operand) (ho : o.op = .store ty x y)
    (g : Nat) (cs : Array Value) (hx : a.eval x = .pointer (some ⟨g, 0, none⟩)) (hy : a.eval y = .agg cs) (t : TypeId) (cur : Array Value) (hg : w.heap[g]? = some (.cells cur t (0, 0)))
    (hz : cur.size = cs.size) (hi : (P.info? ty).map (·.size) = some cs.size) (h1 : ∀ v ∈ cs.toList, v.oneCell' = true)
    (h : K (a.put o.dst undef) (w.setRow g cs)) : o.wp P a w K Q := by
  unfold Oper.wp execOp
  simp only [ho, hx, hy, Instr.storeAt, Instr.sureAddr, Sem.run_bind, Sem.run_pure, Result.andThen_ok, run_storeVar_row w g ty t cur cs hg hz hi h1]
  exact h

theorem wpList_store_row {ops : Array Oper} {rest : List Oper} {o : Oper} {a : Act} {w : World} {Q : Exit → Act → World → Prop} (hgd : o.guard = none) (ty : TypeId) (x y : Operand) (ho : o.op = .store ty x y)
    (g : Nat) (cs : Array Value) (hx : a.eval x = .pointer (some ⟨g, 0, none⟩)) (hy : a.eval y = .agg cs) (t : TypeId) (cur : Array Value) (hg : w.heap[g]? = some (.cells cur t (0, 0)))
    (hz : cur.size = cs.size) (hi : (P.info? ty).map (·.size) = some cs.size) (h1 : ∀ v ∈ cs.toList, v.oneCell' = true)
    (h : wpList P ops Q rest (a.put o.dst undef) (w.setRow g cs)) : wpList P ops Q (o :: rest) a w :=
  wpList_plain hgd fun _ hK => wp_store_row ty x y ho g cs hx hy t cur hg hz hi h1 (hK _ _ h)

/-- 'return v', v and the result variables of an array type: load, then store. -/
theorem wpList_copy_row {ops : Array Oper} {rest : List Oper} {a : Act} {w : World} {Q : Exit → Act → World → Prop} {d : Tmp} {ty t1 t2 : TypeId} {x y : Operand} {p1 p2 : String} {e1 e2 : Array Edge}
    (p g : Nat) (t t' : TypeId) {cs cur : Array Value} {fr : Nat × Nat} (hp : w.heap[p]? = some (.cells cs t fr)) (hg : w.heap[g]? = some (.cells cur t' (0, 0))) (hz : cur.size = cs.size)
    (ht : RowT P ty cs.size) (h1 : ∀ v ∈ cs.toList, v.oneCell' = true)
    (hx : a.eval x = .pointer (some ⟨p, 0, none⟩)) (hy : ∀ v, (a.put (some d) v).eval y = .pointer (some ⟨g, 0, none⟩)) (hd : decide (d < a.tmps.size) = true)
    (h : wpList P ops Q rest (a.put (some d) (.agg cs)) (w.setRow g cs)) :
    wpList P ops Q (⟨some d, .load ty x, t1, p1, e1, none⟩ :: ⟨none, .store ty y (.tmp d), t2, p2, e2, none⟩ :: rest) a w := by
  refine wpList_loadT rfl ty x rfl p hx t cs fr hp ht ?_
  refine wpList_store_row rfl ty y (.tmp d) rfl g cs (hy _) ?_ t' cur hg hz ht.size h1 h
  have hd := of_decide_eq_true hd
  simp [Act.eval, Act.put, hd]

/-- A new variable of a type whose zero is known. -/
theorem wpList_alloc_row {ops : Array Oper} {rest : List Oper} {o : Oper} {a : Act} {w : World} {Q : Exit → Act → World → Prop} (hgd : o.guard = none) (ty : TypeId)
    (ho : o.op = .alloc ty) (cs : Array Value) (n : Nat) (hi : (P.info? ty).map (fun i => (i.zero, i.size)) = some (some (.agg cs), n))
    (h : wpList P ops Q rest (a.put o.dst (.pointer (some ⟨w.heap.size, 0, none⟩))) (w.alloc (.cells cs ty))) : wpList P ops Q (o :: rest) a w :=
  wpList_plain hgd fun K hK => by
    unfold Oper.wp execOp
    simp only [ho]
    have hz : (zeroValue ty).run P w = .ok (.agg cs) w := by
      cases hq : P.info? ty with
      | none => simp [hq] at hi
      | some i => simp [hq] at hi; simp [zeroValue, typeInfo, hq, hi.1]
    simp only [Instr.alloc, Sem.run_bind, hz, Result.andThen_ok]
    simp only [newVar, newRow, Value.cells]
    simp only [newObj, Sem.run_bind, Sem.run_pure]
    exact hK _ _ h

theorem heap_setRow_same {w : World} {g : Nat} {old cs : Array Value} {t : TypeId} {fr : Nat × Nat} (hg : w.heap[g]? = some (.cells old t fr)) : (w.setRow g cs).heap[g]? = some (.cells cs t fr) := setRow_heap w g old cs t fr hg

/-- A block that stood below stands behind. -/
theorem blk {B g : Nat} {w w' : World} {o : Obj} (hb : Below B w w') (hg : w.heap[g]? = some o) (h : g < B) : w'.heap[g]? = some o := by rw [hb.block g h]; exact hg

theorem heap_setRow_other {w : World} {g k : Nat} {cs : Array Value} {o : Obj} (h : w.heap[k]? = some o) (hne : k ≠ g) : (w.setRow g cs).heap[k]? = some o := by rw [setRow_other w g k cs hne]; exact h
theorem heap_alloc_keep {w : World} {k : Nat} {o o' : Obj} (h : w.heap[k]? = some o) : (w.alloc o').heap[k]? = some o := by rw [heap_alloc_old _ _ (h := (Array.getElem?_eq_some_iff.1 h).1)]; exact h
theorem heap_setCell_keep {w : World} {k : Nat} {o : Obj} {a : Addr} {v : Value} (h : w.heap[k]? = some o) (hne : k ≠ a.block) : (w.setCell a v).heap[k]? = some o := by rw [heap_setCell_other _ _ _ _ hne]; exact h
theorem lt_of_blk {w : World} {g : Nat} {o : Obj} (hg : w.heap[g]? = some o) : g < w.heap.size := (Array.getElem?_eq_some_iff.1 hg).1

theorem bcell {B : Nat} {W w1 : World} (hb : Below B W w1) : (∀ b o, b < B → w1.cell? ⟨b, o, none⟩ = W.cell? ⟨b, o, none⟩) ∧ (∀ b o, b < B → w1.frozen? ⟨b, o, none⟩ = W.frozen? ⟨b, o, none⟩) :=
  ⟨fun b o h => hb.cell (p := ⟨b, o, none⟩) h, fun b o h => hb.frozen (p := ⟨b, o, none⟩) h⟩

/-- What a body that ends with its result in a variable of an array type hands back. -/
theorem ret_row {fn : Func} {R : Ending → World → Prop} {a : Act} {w : World} {p : Tmp} {ty : TypeId} (h : fn.results = #[.cell p ty]) (g : Nat) (t : TypeId) (cs : Array Value) (fr : Nat × Nat)
    (hp : a.tmps.getD p undef = .pointer (some ⟨g, 0, none⟩)) (hg : w.heap[g]? = some (.cells cs t fr)) (ht : RowT P ty cs.size)
    (hdef : a.defers = []) (hR : R (.returned (.agg cs)) w) : bodyPost P fn R .ret a w :=
  have hr : (results fn a.tmps).run P w = .ok (.agg cs) w := by
    rcases ht.desc with ⟨fs, hu⟩ | ⟨n, e, hu⟩
    · exact results_cell_row h _ _ _ _ _ fr _ hp hg hu rfl ht.size
    · exact results_cell_row h _ _ _ _ _ fr _ hp hg hu rfl ht.size
  bodyPost_ret hr hdef hR

/-! ### two arrays held against one another -/
theorem run_eqItems_of {w : World} {d : Nat} {e : TypeId} {c : Nat} {xs ys : Array Value} (r : Nat → Bool) : ∀ (is : List Nat),
    (∀ i ∈ is, ∃ a b, (part e xs (i * c)).run P w = .ok a w ∧ (part e ys (i * c)).run P w = .ok b w ∧ (Op.equalIn d e a b).run P w = .ok (r i) w) →
    (Op.eqItems d e c xs ys is).run P w = .ok (is.all r) w
  | [], _ => by simp [Op.eqItems]
  | i :: is, h => by
    obtain ⟨a, b, h1, h2, h3⟩ := h i (by simp)
    have ih := run_eqItems_of r is fun j hj => h j (by simp [hj])
    simp only [Op.eqItems, Sem.run_bind, h1, h2, h3, Result.andThen_ok, List.all_cons]
    cases r i
    · simp
    · simpa using ih

theorem run_part_one {w : World} {e : TypeId} {xs : Array Value} {i : Nat} {v : Value} {de : TypeDesc} (hu : P.underlying e = some de) (hd : aggB P e = false) (hx : xs[i * 1]? = some v) : (part e xs (i * 1)).run P w = .ok v w := by
  have hagg : (isAgg e).run P w = .ok false w := by
    unfold isAgg
    rw [Sem.run_bind, run_underlying hu w]
    unfold aggB at hd
    rw [hu] at hd
    cases de <;> simp_all
  rw [Nat.mul_one] at hx
  simp [part, Sem.run_bind, hagg, hx]

/-- An element of an array's value. -/
theorem run_index_arr {w : World} {T e : TypeId} {n : Nat} {cs : Array Value} {k : Nat} {v : Value} {de : TypeDesc} {i : TypeInfo} (hT : P.underlying T = some (.array n e)) (hu : P.underlying e = some de) (hd : aggB P e = false)
    (hi : P.info? e = some i) (hs : i.size = 1) (hk : k < n) (hv : cs[k]? = some v) : (Instr.index T (.agg cs) (.int .i64 (k : Int))).run P w = .ok v w := by
  have hv' : cs[k * 1]? = some v := by rw [Nat.mul_one]; exact hv
  have hp := run_part_one (w := w) hu hd hv'
  rw [Nat.mul_one] at hp
  simp [Instr.index, asIntOf, run_underlying hT, sizeOf, typeInfo, hi, hs, hk, hp]

/-! ### steps of a walk through a drawn region -/

theorem wpFlow_load_row {ops : Array Oper} {S : World → Prop} {Q : Act → Prop} {a : Act} {rest : List Oper} {d : Tmp} {ty t1 : TypeId} {x : Operand} {p1 : String} {e1 : Array Edge} {gd : Option (Nat × Bool)}
    (g : Nat) (t : TypeId) {cs : Array Value} {fr : Nat × Nat} (hg : ∀ w, S w → w.heap[g]? = some (.cells cs t fr))
    (ht : RowT P ty cs.size) (hw : Region.wanted ⟨some d, .load ty x, t1, p1, e1, gd⟩ (yielded ops a.tmps) = true)
    (hx : a.eval x = .pointer (some ⟨g, 0, none⟩)) (h : wpFlow P ops S Q rest (a.put (some d) (.agg cs))) : wpFlow P ops S Q (⟨some d, .load ty x, t1, p1, e1, gd⟩ :: rest) a := by
  refine wpFlow_step (.agg cs) hw (fun w hS => ?_) h
  unfold execOp
  simp only [hx, Instr.loadAt, Instr.sureAddr, Sem.run_bind, Sem.run_pure, Result.andThen_ok, run_loadT (hg w hS) ht]
  exact ⟨rfl, hS⟩

/-- A function with a body, no special one. -/
def entB (P : Program) (f : FuncId) : Bool := match P.funcs[f]? with | some fn => !(fn.name == "runtime.NumGoroutine") && !fn.body.isNone | none => false
theorem run_enter {f : FuncId} (h : entB P f = true) (args : Array Value) (w : World) : (callFunc f args).run P w = .ok (.enter f args) w := by
  unfold entB at h
  cases hf : P.funcs[f]? with
  | none => rw [hf] at h; cases h
  | some fn =>
    rw [hf] at h
    simp only [Bool.and_eq_true, Bool.not_eq_true'] at h
    have h1 : ¬ fn.name = "runtime.NumGoroutine" := by simpa using h.1
    have h2 : ¬ fn.body = none := by intro e; simp [e] at h
    simp [callFunc, hf, h1, h2]

theorem exec_call (a : Act) (f : FuncId) (args : Array Operand) (at_ : Array TypeId) (dst : Option Tmp) (ty : TypeId) (pos : String) (after : Array Edge) (g : Option (Nat × Bool)) (w : World) (he : entB P f = true) :
    (execOp a.eval ⟨dst, .call ⟨.value (.func f), args, at_⟩, ty, pos, after, g⟩).run P w = .ok (.enter f (args.map a.eval)) w := by
  simp [execOp, resolve, Act.eval, invoke, Deferred.ofValue, run_enter he]

theorem wpFlow_call {ops : Array Oper} {B : Nat} {w0 : World} {Q : Act → Prop} {a : Act} {rest : List Oper} {d : Tmp} {f : FuncId} {as : Array Operand} {at_ : Array TypeId} {ty : TypeId} {pos : String} {after : Array Edge} {g : Option (Nat × Bool)}
    (args : Array Value) {v : Value} (he : entB P f = true) (hp : Pure P f args v) (hB : B ≤ w0.heap.size)
    (hw : Region.wanted ⟨some d, .call ⟨.value (.func f), as, at_⟩, ty, pos, after, g⟩ (yielded ops a.tmps) = true) (ha : as.toList.map a.eval = args.toList)
    (h : wpFlow P ops (Below B w0) Q rest (a.put (some d) v)) : wpFlow P ops (Below B w0) Q (⟨some d, .call ⟨.value (.func f), as, at_⟩, ty, pos, after, g⟩ :: rest) a := by
  refine wpFlow_step v hw (fun w hS => ?_) h
  have ha' : as.map a.eval = args := by apply Array.toList_inj.1; rw [Array.toList_map, ha]
  rw [exec_call _ _ _ _ _ _ _ _ _ _ he, ha']
  exact gives_enter (hp.below hS hB)

/-- The walk stands still ahead of the operation that fills slot d. -/
theorem stop_dst {ops : Array Oper} {rest : List Oper} {a : Act} {w : World} {Q : Exit → Act → World → Prop} {d : Tmp} {op : Op} {t : TypeId} {p : String} {e : Array Edge} {g : Option (Nat × Bool)}
    (h : Hid (wpList P ops Q (⟨some d, op, t, p, e, g⟩ :: rest) a w)) : wpList P ops Q (⟨some d, op, t, p, e, g⟩ :: rest) a w := h
/-- The walk stands still ahead of a store to what slot x points to. -/
theorem stop_store {ops : Array Oper} {rest : List Oper} {a : Act} {w : World} {Q : Exit → Act → World → Prop} {ty t : TypeId} {x : Tmp} {y : Operand} {p : String} {e : Array Edge} {g : Option (Nat × Bool)}
    (h : Hid (wpList P ops Q (⟨none, .store ty (.tmp x) y, t, p, e, g⟩ :: rest) a w)) : wpList P ops Q (⟨none, .store ty (.tmp x) y, t, p, e, g⟩ :: rest) a w := h

/-- A store of a whole row at the head of a list. -/
theorem wpList_put_row {ops : Array Oper} {rest : List Oper} {a : Act} {w : World} {Q : Exit → Act → World → Prop} {ty t1 : TypeId} {x y : Operand} {p1 : String} {e1 : Array Edge}
    (g : Nat) (t : TypeId) {cs cur : Array Value} (hg : w.heap[g]? = some (.cells cur t (0, 0))) (hz : cur.size = cs.size) (ht : RowT P ty cs.size) (h1 : ∀ v ∈ cs.toList, v.oneCell' = true)
    (hx : a.eval x = .pointer (some ⟨g, 0, none⟩)) (hy : a.eval y = .agg cs) (h : wpList P ops Q rest a (w.setRow g cs)) :
    wpList P ops Q (⟨none, .store ty x y, t1, p1, e1, none⟩ :: rest) a w :=
  wpList_store_row rfl ty x y rfl g cs hx hy t cur hg hz ht.size h1 h

/-- A new variable of an array type, filled at once. -/
theorem wpList_var_row {ops : Array Oper} {rest : List Oper} {a : Act} {w : World} {Q : Exit → Act → World → Prop} {d : Tmp} {ty t1 t2 : TypeId} {y : Operand} {p1 p2 : String} {e1 e2 : Array Edge} {n : Nat} {z cs : Array Value}
    (hi : (P.info? ty).map (fun i => (i.zero, i.size)) = some (some (.agg z), n)) (hz : z.size = cs.size) (ht : RowT P ty cs.size) (h1 : ∀ v ∈ cs.toList, v.oneCell' = true)
    (hd : decide (d < a.tmps.size) = true) (hy : ∀ v, (a.put (some d) v).eval y = .agg cs) (h : wpList P ops Q rest (a.put (some d) (.pointer (some ⟨w.heap.size, 0, none⟩))) (w.alloc (.cells cs ty))) :
    wpList P ops Q (⟨some d, .alloc ty, t1, p1, e1, none⟩ :: ⟨none, .store ty (.tmp d) y, t2, p2, e2, none⟩ :: rest) a w := by
  refine wpList_alloc_row rfl ty rfl z n hi ?_
  refine wpList_store_row rfl ty (.tmp d) y rfl w.heap.size cs ?_ (hy _) ty z (heap_alloc_new _ _) hz ht.size h1 ?_
  · have hd := of_decide_eq_true hd
    simp [Act.eval, Act.put, hd]
  · rw [World.setRow_alloc_new]; exact h

/-- A load of a whole row at the head of a list. -/
theorem wpList_get_row {ops : Array Oper} {rest : List Oper} {a : Act} {w : World} {Q : Exit → Act → World → Prop} {d : Tmp} {ty t1 : TypeId} {x : Operand} {p1 : String} {e1 : Array Edge}
    (g : Nat) (t : TypeId) {cs : Array Value} {fr : Nat × Nat} (hg : w.heap[g]? = some (.cells cs t fr)) (ht : RowT P ty cs.size)
    (hx : a.eval x = .pointer (some ⟨g, 0, none⟩)) (h : wpList P ops Q rest (a.put (some d) (.agg cs)) w) :
    wpList P ops Q (⟨some d, .load ty x, t1, p1, e1, none⟩ :: rest) a w :=
  wpList_loadT rfl ty x rfl g hx t cs fr hg ht h
end

end Go.Proofs.YtlfolgbaageknaaDoor
