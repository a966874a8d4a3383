/-
  The calculus of walks: two structs held against one another.
-/
import Derived.Test.YtlfolgbaageknaaDoorGwx
import Derived.Laws.StructEq
namespace Go.Proofs.YtlfolgbaageknaaDoor
open Go Go.RowKit

variable {P : Program} {C : Cx} {L : Sl} {H : List HA}

def ScalEq (P : Program) (ft : TypeId) (a b : Value) (r : Bool) : Prop := ∀ d w, (Op.equalIn (d + 1) ft a b).run P w = .ok r w
theorem ScalEq.int {ft : TypeId} {k k' : IntKind} {a b : Int} (h : P.underlying ft = some (.int k')) : ScalEq P ft (.int k a) (.int k b) (decide (a = b)) := fun d w => by
  rw [run_equalIn_int w d ft k k' a b h]
  congr 1
theorem ScalEq.bool {ft : TypeId} {a b : Bool} (h : P.underlying ft = some .bool) : ScalEq P ft (.bool a) (.bool b) (a == b) := fun d w => run_equalIn_bool w d ft a b h
theorem ScalEq.str {ft : TypeId} {a b : List UInt8} (h : P.underlying ft = some .string) : ScalEq P ft (st a) (st b) (decide (a = b)) := fun d w => by
  rw [run_equalIn_string w d ft _ _ h]
  congr 1; rw [ByteArray.toList_eq, ByteArray.toList_eq, Bool.eq_iff_iff]; simp
def FldEq (P : Program) (xs ys : List Value) : List Field → List Bool → Prop
  | [], [] => True
  | f :: fs, r :: rs => (f.name == "_") = false ∧ scalB P f.type = true ∧ (∃ a b, xs[f.offset]? = some a ∧ ys[f.offset]? = some b ∧ ScalEq P f.type a b r) ∧ FldEq P xs ys fs rs
  | _, _ => False
def andAll : List Bool → Bool
  | [] => true
  | [r] => r
  | r :: rs => r && andAll rs
theorem andAll_cons (r : Bool) (rs : List Bool) : andAll (r :: rs) = (r && andAll rs) := by
  cases rs <;> simp [andAll]
theorem run_fields {xs ys : List Value} {d : Nat} {w : World} : ∀ {fs : List Field} {rs : List Bool}, FldEq P xs ys fs rs → (Op.eqFields (d + 1) xs.toArray ys.toArray fs).run P w = .ok (andAll rs) w
  | [], [], _ => by simp [Op.eqFields, andAll]
  | f :: fs, r :: rs, ⟨hn, hs, ⟨a, b, ha, hb, hr⟩, h⟩ => by
    have ih := run_fields (d := d) (w := w) h
    have hn' : ¬ f.name = "_" := by simpa using hn
    have p1 : (part f.type xs.toArray f.offset).run P w = .ok a w := by simp [part, run_isAgg_no hs, ha]
    have p2 : (part f.type ys.toArray f.offset).run P w = .ok b w := by simp [part, run_isAgg_no hs, hb]
    rw [andAll_cons]
    simp only [Op.eqFields, hn', ne_eq, not_false_eq_true, if_true, Sem.run_bind, p1, p2, Result.andThen_ok, hr d w]
    cases r
    · simp
    · simpa using ih
  | [], _ :: _, h => h.elim
  | _ :: _, [], h => h.elim
theorem run_eqStruct {t : TypeId} {xs ys : List Value} {fs : Array Field} {rs : List Bool} (hu : P.underlying t = some (.struct fs)) (hp : P.stoodInHeld t = false) (hF : FldEq P xs ys fs.toList rs) (w : World) : (Op.equalIn 10000 t (.agg xs.toArray) (.agg ys.toArray)).run P w = .ok (andAll rs) w := by
  have hfo : P.fieldsOf t = fs := by simp [Program.fieldsOf, hu]
  rw [run_equalIn_struct w 9999 t _ _ (by rw [hfo]; exact hu) hp, hfo]
  exact run_fields hF
section ov
variable {x y : Operand} {t t' ty : TypeId} {d : Option Tmp} {p : String} {e : Array Edge} {g : Option (Nat × Bool)} {xs ys : List Value} {fs : Array Field} {rs : List Bool}
theorem OV.eqlF (hx : ev L x = some (.agg xs.toArray)) (hy : ev L y = some (.agg ys.toArray)) (hu : P.underlying t = some (.struct fs)) (hp : P.stoodInHeld t = false) (hm : P.eqGuardType P.depth t = false) (hF : FldEq P xs ys fs.toList rs) :
    OV P C L H ⟨d, .binOp .eql t x y t', ty, p, e, g⟩ (.bool (andAll rs)) := fun a w hf _ => by
  simp only [execOp, hf.ev hx, hf.ev hy, Sem.run_bind, run_eqGuard_agg w .eql t x y _ _ hm, Result.andThen_ok, run_eql_struct, run_eqStruct hu hp hF, Sem.run_pure]
theorem OV.neqF (hx : ev L x = some (.agg xs.toArray)) (hy : ev L y = some (.agg ys.toArray)) (hu : P.underlying t = some (.struct fs)) (hp : P.stoodInHeld t = false) (hm : P.eqGuardType P.depth t = false) (hF : FldEq P xs ys fs.toList rs) :
    OV P C L H ⟨d, .binOp .neq t x y t', ty, p, e, g⟩ (.bool (!andAll rs)) := fun a w hf _ => by
  simp only [execOp, hf.ev hx, hf.ev hy, Sem.run_bind, run_eqGuard_agg w .neq t x y _ _ hm, Result.andThen_ok, run_neq_struct, run_eqStruct hu hp hF, Sem.run_pure]
/-- Arrays of one type, by what 'equalIn' says of them. -/
theorem OV.eqlA {r : Bool} (hx : ev L x = some (.agg xs.toArray)) (hy : ev L y = some (.agg ys.toArray)) (hm : P.eqGuardType P.depth t = false) (hr : ∀ w, (Op.equalIn 10000 t (.agg xs.toArray) (.agg ys.toArray)).run P w = .ok r w) :
    OV P C L H ⟨d, .binOp .eql t x y t', ty, p, e, g⟩ (.bool r) := fun a w hf _ => by
  simp only [execOp, hf.ev hx, hf.ev hy, Sem.run_bind, run_eqGuard_agg w .eql t x y _ _ hm, Result.andThen_ok, run_eql_struct, hr, Sem.run_pure]
theorem OV.neqA {r : Bool} (hx : ev L x = some (.agg xs.toArray)) (hy : ev L y = some (.agg ys.toArray)) (hm : P.eqGuardType P.depth t = false) (hr : ∀ w, (Op.equalIn 10000 t (.agg xs.toArray) (.agg ys.toArray)).run P w = .ok r w) :
    OV P C L H ⟨d, .binOp .neq t x y t', ty, p, e, g⟩ (.bool (!r)) := fun a w hf _ => by
  simp only [execOp, hf.ev hx, hf.ev hy, Sem.run_bind, run_eqGuard_agg w .neq t x y _ _ hm, Result.andThen_ok, run_neq_struct, hr, Sem.run_pure]
end ov
end Go.Proofs.YtlfolgbaageknaaDoor
