/-
  The calculus of walks: further operations; the unrolling of a loop; append to a slice of the call's own.
-/
import Derived.Test.YtlfolgbaageknaaDoorGwf
import Derived.LoopN
import Derived.Laws.BytesString
import Derived.Laws.BitsAllLaws
import Derived.Maps.AppendAt
namespace Go.Proofs.YtlfolgbaageknaaDoor
open Go Go.RowKit

variable {P : Program} {ops : Array Oper} {Q : Exit → Act → World → Prop} {C : Cx} {L : Sl} {H : List HA} {rest : List Oper} {o : Oper}

/-! ### rounds of a loop, walked one by one -/
def RC (P : Program) (c : Code) (Q : Exit → Act → World → Prop) (n : Nat) (C : Cx) (L : Sl) (H : List HA) : Prop := ∀ a w, Fr C L a → Hp C H w → Code.rounds P c Q n a w
theorem wc_rounds {c : Code} (n : Nat) (h : RC P c Q n C L H) : WC P (.loop c) Q C L H := fun a w hf hp => wp_loop_rounds n (h a w hf hp)
theorem RC.succ {c : Code} {n : Nat} (h : ∀ K : Act → World → Prop, (∀ L H, RC P c Q n C L H → KX K C L H) → WC P c (Exit.then K Q) C L H) : RC P c Q (n + 1) C L H :=
  fun a w hf hp => h _ (fun _ _ hr => hr) a w hf hp

def fieldOf (P : Program) (t : TypeId) (i : Nat) : Option (Nat × TypeId) := match P.underlying t with
  | some (.struct fs) => (fs[i]?).map (fun f => (f.offset, f.type))
  | _ => none
section ov
variable {x y z : Operand} {u v : Value} {t t' ty e' : TypeId} {d : Option Tmp} {p : String} {e : Array Edge} {g : Option (Nat × Bool)} {n m : Int} {k k' : IntKind} {b off sz : Nat}
theorem OV.convStr {l : List UInt8} (hx : ev L x = some (st l)) (hs : (P.underlying t).isSome = true) (ht : strB P t' = true) : OV P C L H ⟨d, .convert t t' x, ty, p, e, g⟩ (st l) := fun a w hf _ => by
  obtain ⟨ds, hd⟩ := Option.isSome_iff_exists.1 hs
  have hr : (convert t t' (st l)).run P w = .ok (st l) w := by
    unfold convert
    rw [Sem.run_bind, run_under hd, Result.andThen_ok, Sem.run_bind, run_under (strB_spec ht), Result.andThen_ok]
    rfl
  simp only [execOp, hf.ev hx, Sem.run_bind, hr, Result.andThen_ok, Sem.run_pure]
theorem extract_st (l : List UInt8) (i j : Nat) : (⟨l.toArray⟩ : ByteArray).extract i j = ⟨((l.drop i).take (j - i)).toArray⟩ := by
  rw [ByteArray.ext_iff]; simp [ByteArray.data_extract]
theorem OV.sliceL {l : List UInt8} {i : Int} (hx : ev L x = some (st l)) (hy : ev L y = some (.int k i)) (ht : strB P t = true) (hb : 0 ≤ i ∧ i ≤ l.length) :
    OV P C L H ⟨d, .slice t x (some y) none none, ty, p, e, g⟩ (st (l.drop i.toNat)) := fun a w hf _ => by
  have hu := strB_spec ht
  have h1 := run_slice_string_l (P := P) w t ⟨l.toArray⟩ hu k i hb.1 (by simpa [ByteArray.size] using hb.2)
  rw [extract_st] at h1
  have h2 : (l.drop i.toNat).take ((⟨l.toArray⟩ : ByteArray).size - i.toNat) = l.drop i.toNat := by
    rw [List.take_of_length_le (by simp [ByteArray.size])]
  rw [h2] at h1
  simp only [execOp, Option.map_some, Option.map_none, hf.ev hx, hf.ev hy, Sem.run_bind, run_sliceAt_string (P := P) w t _ _ _ _ hu, h1, Result.andThen_ok, Sem.run_pure]
theorem OV.sliceH {l : List UInt8} {j : Int} (hx : ev L x = some (st l)) (hz : ev L z = some (.int k' j)) (ht : strB P t = true) (hb : 0 ≤ j ∧ j ≤ l.length) :
    OV P C L H ⟨d, .slice t x none (some z) none, ty, p, e, g⟩ (st (l.take j.toNat)) := fun a w hf _ => by
  have hu := strB_spec ht
  have h1 := run_slice_string_h (P := P) w t ⟨l.toArray⟩ hu k' j hb.1 (by simpa [ByteArray.size] using hb.2)
  rw [extract_st] at h1
  simp only [List.drop_zero, Nat.sub_zero] at h1
  simp only [execOp, Option.map_some, Option.map_none, hf.ev hx, hf.ev hz, Sem.run_bind, run_sliceAt_string (P := P) w t _ _ _ _ hu, h1, Result.andThen_ok, Sem.run_pure]
theorem OV.maxI (hx : ev L x = some (.int .i64 n)) (hy : ev L y = some (.int .i64 m)) {ts : Array TypeId} : OV P C L H ⟨d, .call ⟨.builtin .max, #[x, y], ts⟩, ty, p, e, g⟩ (.int .i64 (max n m)) := fun a w hf _ => by
  have h : (Builtin.max_ ts ty #[.int .i64 n, .int .i64 m]).run P w = .ok (.int .i64 (max n m)) w := by
    have e1 : max n m = if m > n then m else n := by split <;> omega
    rw [e1]; exact run_max_int2 w _ _ _ _ _ _
  simp only [execOp, resolve, invoke, builtin, Sem.run_bind, Sem.run_pure, Result.andThen_ok, List.map_toArray, List.map_cons, List.map_nil, hf.ev hx, hf.ev hy, h]
theorem OV.minI (hx : ev L x = some (.int .i64 n)) (hy : ev L y = some (.int .i64 m)) {ts : Array TypeId} : OV P C L H ⟨d, .call ⟨.builtin .min, #[x, y], ts⟩, ty, p, e, g⟩ (.int .i64 (min n m)) := fun a w hf _ => by
  have h : (Builtin.min_ ts ty #[.int .i64 n, .int .i64 m]).run P w = .ok (.int .i64 (min n m)) w := by
    have e1 : min n m = if m < n then m else n := by split <;> omega
    rw [e1]; exact run_min_int2 w _ _ _ _ _ _
  simp only [execOp, resolve, invoke, builtin, Sem.run_bind, Sem.run_pure, Result.andThen_ok, List.map_toArray, List.map_cons, List.map_nil, hf.ev hx, hf.ev hy, h]
theorem OV.shr (hx : ev L x = some (.int k n)) (hy : ev L y = some (.int k' m)) (hb : 0 ≤ m ∧ m ≤ k.bits) : OV P C L H ⟨d, .binOp .shr t x y t', ty, p, e, g⟩ (.int k (n / 2 ^ m.toNat)) := fun a w hf _ => by
  have h := shift_shr k k' n m hb.1 hb.2
  simp [execOp, hf.ev hx, hf.ev hy, eqGuard, binOp, h]
theorem OV.shl (hx : ev L x = some (.int k n)) (hy : ev L y = some (.int k' m)) (hb : 0 ≤ m ∧ m ≤ k.bits) : OV P C L H ⟨d, .binOp .shl t x y t', ty, p, e, g⟩ (.int k (k.wrap (n * 2 ^ m.toNat))) := fun a w hf _ => by
  have h := shift_shl k k' n m hb.1 hb.2
  simp [execOp, hf.ev hx, hf.ev hy, eqGuard, binOp, h]
theorem OV.bits_and (hx : ev L x = some (.int k n)) (hy : ev L y = some (.int k m)) : OV P C L H ⟨d, .binOp .and t x y t', ty, p, e, g⟩ (.int k (bits .and k n m)) := fun a w hf _ => by
  simp [execOp, hf.ev hx, hf.ev hy, eqGuard, binOp, intBits_and]
theorem OV.bits_or (hx : ev L x = some (.int k n)) (hy : ev L y = some (.int k m)) : OV P C L H ⟨d, .binOp .or t x y t', ty, p, e, g⟩ (.int k (bits .or k n m)) := fun a w hf _ => by
  simp [execOp, hf.ev hx, hf.ev hy, eqGuard, binOp, intBits_or]
theorem OV.bits_xor (hx : ev L x = some (.int k n)) (hy : ev L y = some (.int k m)) : OV P C L H ⟨d, .binOp .xor t x y t', ty, p, e, g⟩ (.int k (bits .xor k n m)) := fun a w hf _ => by
  simp [execOp, hf.ev hx, hf.ev hy, eqGuard, binOp, intBits_xor]
/-- A struct out of an array's value, at a place that is told. -/
theorem OV.indexM {nn : Nat} {i : Int} {cs vs : List Value} (hx : ev L x = some (.agg cs.toArray)) (hy : ev L y = some (.int k i)) (ht : arrB P t e' nn sz = true) (hb : 0 ≤ i ∧ i < nn) (hr : RowT P e' sz) (hv : (cs.drop (i.toNat * sz)).take sz = vs) :
    OV P C L H ⟨d, .index t x y, ty, p, e, g⟩ (.agg vs.toArray) := fun a w hf _ => by
  obtain ⟨hu, hs⟩ := arrB_spec ht
  have hagg : (isAgg e').run P w = .ok true w := by
    unfold isAgg
    rcases hr.desc with ⟨_, h⟩ | ⟨_, _, h⟩ <;> (rw [Sem.run_bind, run_under h]; rfl)
  have hp : (part e' cs.toArray (i.toNat * sz)).run P w = .ok (.agg vs.toArray) w := by
    simp only [part, Sem.run_bind, hagg, Result.andThen_ok, if_true, run_size hs, Sem.run_pure]
    rw [← hv]
    congr 3
    simp [List.extract_eq_take_drop]
  simp [execOp, hf.ev hx, hf.ev hy, Instr.index, run_under hu, asIntOf, hb, run_size hs, hp]
/-- An element of one cell out of an array's value. -/
theorem OV.indexC {nn : Nat} {i : Int} {cs : List Value} (hx : ev L x = some (.agg cs.toArray)) (hy : ev L y = some (.int k i)) (ht : arrB P t e' nn 1 = true) (hb : 0 ≤ i ∧ i < nn) (hs : scalB P e' = true) (hv : cs[i.toNat]? = some v) :
    OV P C L H ⟨d, .index t x y, ty, p, e, g⟩ v := fun a w hf _ => by
  obtain ⟨hu, hsz⟩ := arrB_spec ht
  have hp : (part e' cs.toArray i.toNat).run P w = .ok v w := by
    simp [part, run_isAgg_no hs, hv]
  simp [execOp, hf.ev hx, hf.ev hy, Instr.index, run_under hu, asIntOf, hb, run_size hsz, hp]
theorem OV.field {cs : List Value} {i f : Nat} {ft : TypeId} (hx : ev L x = some (.agg cs.toArray)) (hf' : fieldOf P t i = some (f, ft)) (hs : scalB P ft = true) (hv : cs[f]? = some v) : OV P C L H ⟨d, .field t x i, ty, p, e, g⟩ v := fun a w hf _ => by
  unfold fieldOf at hf'
  split at hf'
  · rename_i fs hu
    cases hfl : fs[i]? with
    | none => simp [hfl] at hf'
    | some fl =>
      simp [hfl] at hf'
      obtain ⟨rfl, rfl⟩ := hf'
      simp [execOp, hf.ev hx, Instr.field, run_under hu, hfl, asAgg, part, run_isAgg_no hs, hv]
  · cases hf'
/-- Bytes of a block as a string. -/
theorem OV.bytesAt {l : List UInt8} {cs : List Value} {T : TypeId} {fr : Nat × Nat} {nn cap : Nat} (hx : ev L x = some (.slice (some ⟨b, off, none⟩) nn cap)) (hb : At C H b (.cells cs.toArray T fr)) (hl : l.length = nn) (hv : (cs.drop off).take l.length = l.map (fun c => Value.int .u8 (c.toNat : Int)))
    (hs : slB P t e' 1 = true) (he : P.underlying e' = some (.int .u8)) (ht : strB P t' = true) : OV P C L H ⟨d, .convert t t' x, ty, p, e, g⟩ (st l) := fun a w hf hp => by
  subst hl
  have hc : ∀ j (hj : j < l.length), w.cell? ((⟨b, off, none⟩ : Addr).add j) = some (.int .u8 (l[j].toNat : Int)) := fun j hj => by
    rw [Addr.add_mid]
    have h1 : cs[off + j]? = some (.int .u8 (l[j].toNat : Int)) := by
      have h2 : ((cs.drop off).take l.length)[j]? = some (.int .u8 (l[j].toNat : Int)) := by rw [hv]; simp [hj]
      rw [List.getElem?_take, if_pos hj, List.getElem?_drop] at h2
      exact h2
    simp [World.cell?, hb w hp, h1]
  have hr := run_convert_bytes_back (P := P) w t t' e' ⟨b, off, none⟩ cap l (slB_spec hs).1 he (strB_spec ht) hc
  simp only [execOp, hf.ev hx, Sem.run_bind, hr, Result.andThen_ok, Sem.run_pure]
end ov

theorem arr_one (n : Nat) (g : Nat → Value) (h : ∀ i, (g i).oneCell' = true) : (arr n g).all (·.oneCell') = true := by
  simp [arr, h]
/-- A store of one cell, the block's new content typed. -/
theorem WL.storeA' {x y : Operand} {t ty T : TypeId} {p : String} {e : Array Edge} {g : Option (Nat × Bool)} {b n off : Nat} {v : Value} {f f' : Nat → Value} (i : Nat)
    (hx : ev L x = some (.pointer (some ⟨b, off, none⟩))) (hy : ev L y = some v) (hi : H[i]? = some (.blk b (.cells (arr n f).toArray T (0, 0)))) (hv : v.cells = #[v]) (hs : sizeB P t 1 = true)
    (hfit : off < n) (h1 : v.oneCell' = true) (hw : wantB ops L ⟨none, .store t x y, ty, p, e, g⟩ = some true) (hf : ∀ j, (if j = off then v else f j) = f' j)
    (h : WL P ops Q C L (H.set i (.blk b (.cells (arr n f').toArray T (0, 0)))) rest) : WL P ops Q C L H (⟨none, .store t x y, ty, p, e, g⟩ :: rest) := by
  have e1 : (fun j => if j = off then v else f j) = f' := funext hf
  exact WL.storeA i hx hy hi hv hs hfit h1 hw (by rw [e1]; exact h)
/-- A store of a whole block. -/
theorem OpK.storeW {x y : Operand} {t ty T : TypeId} {p : String} {e : Array Edge} {g : Option (Nat × Bool)} {b n : Nat} {v : Value} {cs vs : List Value} (i : Nat)
    (hx : ev L x = some (.pointer (some ⟨b, 0, none⟩))) (hy : ev L y = some v) (hi : H[i]? = some (.blk b (.cells cs.toArray T (0, 0)))) (hv : v.cells = vs.toArray) (hn : vs.length = n) (hs : sizeB P t n = true)
    (hl : vs.length = cs.length) (h1 : vs.all (·.oneCell') = true) : OpK P ⟨none, .store t x y, ty, p, e, g⟩ Q C L H L (H.set i (.blk b (.cells vs.toArray T (0, 0)))) := by
  subst hn
  refine OpK.store (vs := vs) i hx hy hi hv hs (by omega) h1 ?_
  rw [List.drop_eq_nil_of_le (by omega)]; simp
theorem WL.storeW {x y : Operand} {t ty T : TypeId} {p : String} {e : Array Edge} {g : Option (Nat × Bool)} {b n : Nat} {v : Value} {cs vs : List Value} (i : Nat)
    (hx : ev L x = some (.pointer (some ⟨b, 0, none⟩))) (hy : ev L y = some v) (hi : H[i]? = some (.blk b (.cells cs.toArray T (0, 0)))) (hv : v.cells = vs.toArray) (hn : vs.length = n) (hs : sizeB P t n = true)
    (hl : vs.length = cs.length) (h1 : vs.all (·.oneCell') = true) (hw : wantB ops L ⟨none, .store t x y, ty, p, e, g⟩ = some true)
    (h : WL P ops Q C L (H.set i (.blk b (.cells vs.toArray T (0, 0)))) rest) : WL P ops Q C L H (⟨none, .store t x y, ty, p, e, g⟩ :: rest) :=
  WL.op (OpK.storeW i hx hy hi hv hn hs hl h1) hw h
theorem u8back {c : Int} (h : 0 ≤ c ∧ c < 256) : ((c.toNat.toUInt8).toNat : Int) = c := by
  have : c.toNat.toUInt8.toNat = c.toNat := by simp; omega
  rw [this]; omega
end Go.Proofs.YtlfolgbaageknaaDoor
