/-
  From a contract of a law's function to the law's row: what every law has in common.
-/
import Derived.Test.YtkjnhjhkaaampaaClass2
import Derived.ProofKit
import Derived.SizedLaws
import Derived.Laws.IdiomArrays
import Derived.Lib.SmallJoins
namespace Go.Proofs.Ytkjnhjhkaaampaa
open Go Go.ChangeShapes Go.WideShapes Go.ChangeAt Go.RowKit

theorem own_none : ownKnob Try.prog.godebug = none := by kernel_rfl
theorem laid_out : laidOutB Try.prog = true := by kernel_rfl

section
variable {H : Type} {enc : TypeId × Value → H} {P : Program}

theorem trodAll_below (hl : laidOutB P = true) {W W' : World} (hb : Below W.heap.size W W') : ∀ (ts : List TypeId) (vs : List Value) (ds : List (DataW H)) (ps : List MemPlace),
    ts.all (fun t => P.readableRec t && decide (t < P.types.size)) = true →
    DataW.TrodAll enc P W 0 (fun _ => true) true ts vs ds ps → (∀ x ∈ ps, x.block < W.heap.size) →
    DataW.TrodAll enc P W' 0 (fun b => decide (b < W.heap.size)) true ts vs ds ps
  | [], [], [], ps, _, h, _ => h
  | t :: ts, v :: vs, d :: ds, ps, hr, h, hlt => by
    obtain ⟨p, q, h1, h2, rfl⟩ := h
    simp only [List.all_cons, Bool.and_eq_true, decide_eq_true_eq] at hr
    refine ⟨p, q, Below.trod hl hr.1.1 hr.1.2 h1 hb (fun x hx => hlt x (by simp [hx])), ?_, rfl⟩
    exact trodAll_below hl hb ts vs ds q (by simpa using hr.2) h2 (fun x hx => hlt x (by simp [hx]))
  | [], [], _ :: _, _, _, h, _ => h.elim
  | [], _ :: _, _, _, _, h, _ => h.elim
  | _ :: _, [], _, _, _, h, _ => h.elim
  | _ :: _, _ :: _, [], _, _, h, _ => h.elim

theorem law_post {f : Func} {s : ChangeSpec} {tb : TypeId} {W W' : World} {args : Array Value} {ds gs : List (DataW H)} {before : List MemPlace} (hl : laidOutB P = true)
    (hfr : f.resultTypes = #[tb]) (hub : P.underlying tb = some .bool) (hts : f.params.toList.all (fun t => P.readableRec t && decide (t < P.types.size)) = true) (hvars : s.vars = [])
    (hW : DataW.Whole enc P f.params.toList s.vars false W args.toList ds gs before)
    (hspec : s.fn H (ds ++ gs) = { results := [.lit (.bool true)], args := ds }) (hb : Below W.heap.size W W') : s.post enc P f false true false false W args (.bool true) W' := by
  have hW' := hW
  obtain ⟨p, q, hA, hV, rfl, _, _⟩ := hW
  rw [hvars] at hV
  obtain ⟨rfl, rfl⟩ := trodVars_none hV
  have hlt : ∀ x ∈ p ++ [], x.block < W.heap.size := fun x hx => by simpa using hW'.lt x hx
  refine ⟨ds, [], p ++ [], [], p ++ [], [], hW', ?_, ?_, ?_, hb.frame _, fun h => by cases h⟩
  · rw [hfr, hspec]
    exact trodAll_mk1 (shut_bool hub true)
  · rw [hspec]
    simp only [List.append_nil] at hlt ⊢
    exact trodAll_below hl hb _ _ _ _ hts hA hlt
  · rw [hvars, hspec]; rfl
end

section
variable {H : Type} {enc : TypeId × Value → H}
/-- An argument of four words is a set's. -/
theorem open_words {W : World} {base b0 : Nat} {sp : Nat → Bool} {hd : Bool} {r : Reach} {v : Value} {d : DataW H} {ps : List MemPlace} (hval : Value.okWide Try.prog W r b0 23 v)
    (h : DataW.Trod enc Try.prog W base sp hd 23 v d ps) : ∃ s : CS, v = .agg (words s) := by
  obtain ⟨fuel, hf⟩ := h
  have hu : Try.prog.underlying 23 = some (.array 4 22) := Try.underlying23
  have hC : Try.prog.cellsOf 23 = 4 := by kernel_rfl
  have hc : Try.prog.cellsOf 22 = 1 := by kernel_rfl
  simp only [Value.okWide, hu] at hval
  obtain ⟨cs, rfl, hsz, _⟩ := hval
  obtain ⟨c0, c1, c2, c3, rfl⟩ := Joins.array4 (hsz.trans hC)
  obtain ⟨y0, y1, y2, y3, n, _, t0, t1, t2, t3⟩ := trod_array4 hu hc (by simpa [Value.cells] using hf)
  obtain ⟨n0, q0, _, w0⟩ := DataW.trod_int Try.underlying22 t0
  obtain ⟨n1, q1, _, w1⟩ := DataW.trod_int Try.underlying22 t1
  obtain ⟨n2, q2, _, w2⟩ := DataW.trod_int Try.underlying22 t2
  obtain ⟨n3, q3, _, w3⟩ := DataW.trod_int Try.underlying22 t3
  simp only [List.cons.injEq, and_true] at q0 q1 q2 q3
  subst q0 q1 q2 q3
  have bd : ∀ n : Int, (Lit.int .u64 n).wf = true → ∃ m : Nat, n = m ∧ m < 18446744073709551616 := fun n h => by
    have h1 : IntKind.u64.min = 0 := rfl
    have h2 : IntKind.u64.max = 18446744073709551615 := rfl
    simp only [Lit.wf, Bool.and_eq_true, decide_eq_true_eq] at h
    exact ⟨n.toNat, by omega, by omega⟩
  obtain ⟨m0, rfl, b0⟩ := bd _ w0
  obtain ⟨m1, rfl, b1⟩ := bd _ w1
  obtain ⟨m2, rfl, b2⟩ := bd _ w2
  obtain ⟨m3, rfl, b3⟩ := bd _ w3
  obtain ⟨s, hs⟩ := of_words m0 m1 m2 m3 b0 b1 b2 b3
  exact ⟨s, by rw [hs]⟩

theorem byte_bd {n : Int} (h : (Lit.int .u8 n).wf = true) : ∃ m : Nat, n = m ∧ m < 256 := by
  have h1 : IntKind.u8.min = 0 := rfl
  have h2 : IntKind.u8.max = 255 := rfl
  simp only [Lit.wf, Bool.and_eq_true, decide_eq_true_eq] at h
  exact ⟨n.toNat, by omega, by omega⟩

theorem int_bd {n : Int} (h : (Lit.int .i64 n).wf = true) : -9223372036854775808 ≤ n ∧ n ≤ 9223372036854775807 := by
  have h1 : IntKind.i64.min = -9223372036854775808 := rfl
  have h2 : IntKind.i64.max = 9223372036854775807 := rfl
  simp only [Lit.wf, Bool.and_eq_true, decide_eq_true_eq] at h
  omega
end

end Go.Proofs.Ytkjnhjhkaaampaa
