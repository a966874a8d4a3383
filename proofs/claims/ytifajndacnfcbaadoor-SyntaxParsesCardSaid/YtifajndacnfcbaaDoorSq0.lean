/-
  Merged: Flow, Row, LiftT, FlowA, Gw, Gwo, Gwm, Gww, Gwf, Gwx, FlowB, Gwg.
-/
import Derived.StillTail
import Derived.Below
import Derived.WalkKit
import Derived.Laws.CopyRow
import Derived.Laws.CopyOwn
import Derived.ChangeKeysEq
import Derived.Deep.WholeRow
import Derived.Test.YtifajndacnfcbaaDoorChecked
import Derived.ProofKit
import Derived.SizedLaws
import Derived.Laws.IdiomArrays
import Derived.Lib.SmallJoins
import Derived.Deep.MidRow
import Derived.Laws.IdiomStrings
import Derived.Great.Walk
import Derived.Laws.Strings2
import Derived.OrdersHeld
import Derived.LoopN
import Derived.Laws.BytesString
import Derived.Laws.BitsAllLaws
import Derived.Maps.AppendAt
namespace Go.Proofs.YtifajndacnfcbaaDoor
open Go Go.RowKit
section
variable {P : Program} {ops : Array Oper} {md : Region.Mode} {S : World → Prop}
def ayf (P : Program) (S : World → Prop) (v : Value) : Result Next → Prop
 | .ok (.value u) w' => u = v ∧ S w'
 | .ok .skip w' => undef = v ∧ S w'
 | .ok (.enter f args) w' => Calls P f args w' fun e w'' => e = .returned v ∧ S w''
 | _ => False
def age (P : Program) (ops : Array Oper) (S : World → Prop) (o : Oper) (v : Value) (a : Act) : Prop :=
 (Region.wanted o (yielded ops a.tmps) = true ∧ ∀ w, S w → ayf P S v ((execOp a.eval o).run P w)) ∨
 (Region.wanted o (yielded ops a.tmps) = false ∧ v = undef)
theorem age.of_same {o : Oper} {v : Value} {a a' : Act} (hy : age P ops S o v a) (he : execOp a'.eval o = execOp a.eval o)
  (hw : Region.wanted o (yielded ops a'.tmps) = Region.wanted o (yielded ops a.tmps)) : age P ops S o v a' := by
 unfold age at *; rw [he, hw]; exact hy
structure HeadRule (md : Region.Mode) (ops : Array Oper) (n : Nat) (Inv : Array Bool → Prop) : Prop where
 step : ∀ listed i, Inv listed → i ∈ Region.ready md ops listed → i < n → Inv (listed.setIfInBounds i true)
 first : ∀ listed i, Inv listed → i < n → listed.getD i true = false → ∀ j ∈ Region.ready md ops listed, j < n
def ao1 (ops : Array Oper) : Bool := Region.noSelect ops && Region.lexHead .any ops 0 ops.size 0 (Array.replicate ops.size false)
end
def ax0 (P : Program) (f : FuncId) (args : Array Value) (v : Value) : Prop := ∀ w, Calls P f args w fun e w' => e = .returned v ∧ Below w.heap.size w w'
theorem ax0.below {P : Program} {f : FuncId} {args : Array Value} {v : Value} (h : ax0 P f args v) {B : Nat} {w0 w : World} (hb : Below B w0 w) (hB : B ≤ w0.heap.size) : Calls P f args w fun e w'' => e = .returned v ∧ Below B w0 w'' :=
 (h w).mono fun _ _ ⟨he, hw⟩ => ⟨he, hb.trans (hw.mono (Nat.le_trans hB hb.size))⟩
end Go.Proofs.YtifajndacnfcbaaDoor
namespace Go.Proofs.YtifajndacnfcbaaDoor
open Go Go.RowKit
section
variable {P : Program}
def aya (P : Program) (ty : TypeId) : Bool := match P.underlying ty with | some (.struct _) => true | some (.array _ _) => true | _ => false
structure RowT (P : Program) (ty : TypeId) (n : Nat) : Prop where
 agg : aya P ty = true
 size : (P.info? ty).map (·.size) = some n
theorem RowT.desc {ty : TypeId} {n : Nat} (h : RowT P ty n) : (∃ fs, P.underlying ty = some (.struct fs)) ∨ (∃ n e, P.underlying ty = some (.array n e)) := by
 have h1 := h.agg
 unfold aya at h1
 split at h1
 ·rename_i fs hd; exact .inl ⟨_, hd⟩
 ·rename_i n e hd; exact .inr ⟨_, _, hd⟩
 ·cases h1
theorem as6 {w : World} {g : Nat} {t ty : TypeId} {cs : Array Value} {fr : Nat × Nat} (hg : w.heap[g]? = some (.cells cs t fr)) (h : RowT P ty cs.size) :
  (loadVar ty ⟨g, 0, none⟩).run P w = .ok (.agg cs) w := by
 rcases h.desc with ⟨fs, hu⟩ | ⟨n, e, hu⟩
 ·exact run_loadVar_row w g t ty cs fr _ hg hu rfl h.size
 ·exact run_loadVar_row w g t ty cs fr _ hg hu rfl h.size
theorem aer {w : World} {g : Nat} {old cs : Array Value} {t : TypeId} {fr : Nat × Nat} (hg : w.heap[g]? = some (.cells old t fr)) : (w.setRow g cs).heap[g]? = some (.cells cs t fr) := setRow_heap w g old cs t fr hg
theorem blk {B g : Nat} {w w' : World} {o : Obj} (hb : Below B w w') (hg : w.heap[g]? = some o) (h : g < B) : w'.heap[g]? = some o := by rw [hb.block g h]; exact hg
theorem aa9 {w : World} {g : Nat} {o : Obj} (hg : w.heap[g]? = some o) : g < w.heap.size := (Array.getElem?_eq_some_iff.1 hg).1
def k9 (P : Program) (f : FuncId) : Bool := match P.funcs[f]? with | some fn => !(fn.name == "runtime.NumGoroutine") && !fn.body.isNone | none => false
theorem agf {f : FuncId} (h : k9 P f = true) (args : Array Value) (w : World) : (callFunc f args).run P w = .ok (.enter f args) w := by
 unfold k9 at h
 cases hf : P.funcs[f]? with
 | none => rw [hf] at h; cases h
 | some fn =>
  rw [hf] at h
  simp only [Bool.and_eq_true, Bool.not_eq_true'] at h
  have h1 : ¬ fn.name = "runtime.NumGoroutine" := by simpa using h.1
  have h2 : ¬ fn.body = none := by intro e; simp [e] at h
  simp [callFunc, hf, h1, h2]
theorem ar3 (a : Act) (f : FuncId) (args : Array Operand) (at_ : Array TypeId) (dst : Option Tmp) (ty : TypeId) (pos : String) (after : Array Edge) (g : Option (Nat × Bool)) (w : World) (he : k9 P f = true) :
  (execOp a.eval ⟨dst, .call ⟨.value (.func f), args, at_⟩, ty, pos, after, g⟩).run P w = .ok (.enter f (args.map a.eval)) w := by
 simp [execOp, resolve, Act.eval, invoke, Deferred.ofValue, agf he]
end
end Go.Proofs.YtifajndacnfcbaaDoor
namespace Go.Proofs.YtifajndacnfcbaaDoor
open Go Go.ChangeShapes Go.WideShapes Go.ChangeAt Go.RowKit
theorem auk : ownKnob Tryd.prog.godebug = none := by kernel_rfl
theorem av1 : laidOutB Tryd.prog = true := by kernel_rfl
section
variable {H : Type} {enc : TypeId × Value → H} {P : Program}
theorem ago (hl : laidOutB P = true) {W W' : World} (hb : Below W.heap.size W W') : ∀ (ts : List TypeId) (vs : List Value) (ds : List (DataW H)) (ps : List MemPlace),
  ts.all (fun t => P.readableRec t && decide (t < P.types.size)) = true →
  DataW.TrodAll enc P W 0 (fun _ => true) true ts vs ds ps → (∀ x ∈ ps, x.block < W.heap.size) →
  DataW.TrodAll enc P W' 0 (fun b => decide (b < W.heap.size)) true ts vs ds ps
 | [], [], [], ps, _, h, _ => h
 | t :: ts, v :: vs, d :: ds, ps, hr, h, hlt => by
  obtain ⟨p, q, h1, h2, rfl⟩ := h
  simp only [List.all_cons, Bool.and_eq_true, decide_eq_true_eq] at hr
  refine ⟨p, q, Below.trod hl hr.1.1 hr.1.2 h1 hb (fun x hx => hlt x (by simp [hx])), ?_, rfl⟩
  exact ago hl hb ts vs ds q (by simpa using hr.2) h2 (fun x hx => hlt x (by simp [hx]))
 | [], [], _ :: _, _, _, h, _ => h.elim
 | [], _ :: _, _, _, _, h, _ => h.elim
 | _ :: _, [], _, _, _, h, _ => h.elim
 | _ :: _, _ :: _, [], _, _, h, _ => h.elim
theorem aub {f : Func} {s : ChangeSpec} {tb : TypeId} {W W' : World} {args : Array Value} {ds gs : List (DataW H)} {before : List MemPlace} (hl : laidOutB P = true)
  (hfr : f.resultTypes = #[tb]) (hub : P.underlying tb = some .bool) (hts : f.params.toList.all (fun t => P.readableRec t && decide (t < P.types.size)) = true) (hvars : s.vars = [])
  (hW : DataW.Whole enc P f.params.toList s.vars false W args.toList ds gs before)
  (hspec : s.fn H (ds ++ gs) = { results := [.lit (.bool true)], args := ds }) (hb : Below W.heap.size W W') : s.post enc P f false true false false W args (.bool true) W' := by
 have hW' := hW
 obtain ⟨p, q, hA, hV, rfl, _, _⟩ := hW
 rw [hvars] at hV
 obtain ⟨rfl, rfl⟩ := trodVars_none hV
 have hlt : ∀ x ∈ p ++ [], x.block < W.heap.size := fun x hx => by simpa using hW'.lt x hx
 refine ⟨ds, [], p ++ [], [], p ++ [], [], hW', ?_, ?_, ?_, hb.frame _, fun h => by cases h⟩
 ·rw [hfr, hspec]
  exact trodAll_mk1 (shut_bool hub true)
 ·rw [hspec]
  simp only [List.append_nil] at hlt ⊢
  exact ago hl hb _ _ _ _ hts hA hlt
 ·rw [hvars, hspec]; rfl
end
end Go.Proofs.YtifajndacnfcbaaDoor
namespace Go.Proofs.YtifajndacnfcbaaDoor
open Go Go.RowKit
abbrev m7 := Nat → Nat
abbrev Fam := m7 → Act
def Fam.put (A : Fam) (d : Option Tmp) (v : m7 → Value) : Fam := fun β => (A β).put d (v β)
section
variable {P : Program} {ops : Array Oper} {md : Region.Mode} {B : Nat} {w0 : World} {Zs : Nat → Option Obj}
def aiu (P : Program) (v : Value) (w : World) : Result Next → Prop
 | .ok (.value u) w' => u = v ∧ Below w.heap.size w w'
 | .ok .skip w' => undef = v ∧ Below w.heap.size w w'
 | .ok (.enter f args) w' => Calls P f args w' fun e w'' => e = .returned v ∧ Below w.heap.size w w''
 | _ => False
def n0 (P : Program) (ops : Array Oper) (B : Nat) (w0 : World) (Zs : Nat → Option Obj) (i : Nat) (o : Oper) (v : m7 → Value) (A : Fam) : Prop :=
 (∃ Z, ∃ f : Nat → Value, Zs i = some Z ∧ v = (fun β => f (β i)) ∧ ∀ β, Region.wanted o (yielded ops (A β).tmps) = true ∧ ∀ w, Below B w0 w → (execOp (A β).eval o).run P w = .ok (.value (f w.heap.size)) (w.alloc Z)) ∨
 (Zs i = none ∧ ∃ u, v = (fun _ => u) ∧ ∀ β, (Region.wanted o (yielded ops (A β).tmps) = true ∧ ∀ w, Below B w0 w → aiu P u w ((execOp (A β).eval o).run P w)) ∨
  (Region.wanted o (yielded ops (A β).tmps) = false ∧ u = undef))
theorem n0.of_same {i : Nat} {o : Oper} {v : m7 → Value} {A A' : Fam} (hy : n0 P ops B w0 Zs i o v A) (he : ∀ β, execOp (A' β).eval o = execOp (A β).eval o)
  (hw : ∀ β, Region.wanted o (yielded ops (A' β).tmps) = Region.wanted o (yielded ops (A β).tmps)) : n0 P ops B w0 Zs i o v A' := by
 unfold n0 at *; simp only [he, hw]; exact hy
def flOpA (P : Program) (ops : Array Oper) (B : Nat) (w0 : World) (Zs : Nat → Option Obj) (i : Nat) (K : Fam → Prop) (A : Fam) : Prop :=
 match ops[i]? with
 | none => K A
 | some o => ∃ v, n0 P ops B w0 Zs i o v A ∧ K (A.put o.dst v)
theorem ahs {i : Nat} {A : Fam} {K K' : Fam → Prop} (h : ∀ A, K A → K' A) (hh : flOpA P ops B w0 Zs i K A) : flOpA P ops B w0 Zs i K' A := by
 unfold flOpA at *
 split
 ·exact h _ (by simpa [*] using hh)
 ·rename_i o ho
  simp only [ho] at hh
  obtain ⟨v, hy, hk⟩ := hh
  exact ⟨v, hy, h _ hk⟩
theorem n0.flOpA {i : Nat} {o : Oper} {v : m7 → Value} {A : Fam} (hi : ops[i]? = some o) (hy : n0 P ops B w0 Zs i o v A) {K : Fam → Prop} (h : K (A.put o.dst v)) : flOpA P ops B w0 Zs i K A := by
 unfold YtifajndacnfcbaaDoor.flOpA; simp only [hi]; exact ⟨v, hy, h⟩
theorem aix {i j : Nat} {oi oj : Oper} {v : m7 → Value} (hj : ops[j]? = some oj) (hap : oi.apart ops oj = true)
  (hsi : ∀ cs b, oi.op ≠ .select cs b) (hsj : ∀ cs b, oj.op ≠ .select cs b) {K : Fam → Prop} {A : Fam}
  (hy : n0 P ops B w0 Zs i oi v A) (h : flOpA P ops B w0 Zs j K (A.put oi.dst v)) :
  flOpA P ops B w0 Zs j (fun A' => n0 P ops B w0 Zs i oi v A' ∧ K (A'.put oi.dst v)) A := by
 obtain ⟨h1, h2, h3⟩ := Oper.apart_spec hap
 unfold flOpA at *
 simp only [hj] at *
 obtain ⟨u, hu, hk⟩ := h
 refine ⟨u, hu.of_same (fun β => (execOp_put oj hsj (A β) oi.dst (v β) h1).symm) (fun β => (wanted_put oj (A β) oi.dst (v β) h1).symm), ?_, ?_⟩
 ·exact hy.of_same (fun β => execOp_put oi hsi (A β) oj.dst (u β) h3) (fun β => wanted_put oi (A β) oj.dst (u β) h3)
 ·have e : (A.put oj.dst u).put oi.dst v = (A.put oi.dst v).put oj.dst u := by funext β; exact (Act.put_comm (A β) (v β) (u β) h2).symm
  rw [e]; exact hk
structure Facts (B : Nat) (w0 : World) (Zs : Nat → Option Obj) (listed : Array Bool) (γ : m7) (w : World) : Prop where
 below : Below B w0 w
 blk : ∀ i Z, Zs i = some Z → listed.getD i false = true → w.heap[γ i]? = some Z ∧ B ≤ γ i
 inj : ∀ i j Z Z', Zs i = some Z → Zs j = some Z' → listed.getD i false = true → listed.getD j false = true → γ i = γ j → i = j
def ab1 (P : Program) (md : Region.Mode) (ops : Array Oper) (B : Nat) (w0 : World) (Zs : Nat → Option Obj) (n : Nat) (L : Array Bool → Fam → Prop) : Nat → Array Bool → Fam → Prop
 | 0, listed, A => L listed A
 | f + 1, listed, A =>
  Region.ready md ops listed ≠ [] ∧ ∀ i ∈ Region.ready md ops listed, i < n ∧ flOpA P ops B w0 Zs i (ab1 P md ops B w0 Zs n L f (listed.setIfInBounds i true)) A
theorem n6 {l : Array Bool} {i j : Nat} : (l.setIfInBounds i true).getD j false = true → l.getD j false = true ∨ j = i := by
 intro h
 by_cases e : i = j
 ·exact .inr e.symm
 ·rw [getD_set_ne false e] at h; exact .inl h
theorem Facts.plain {listed : Array Bool} {γ : m7} {w w' : World} {i : Nat} (hf : Facts B w0 Zs listed γ w) (hB : B ≤ w0.heap.size) (hz : Zs i = none) (hb : Below w.heap.size w w') : Facts B w0 Zs (listed.setIfInBounds i true) γ w' := by
 have old : ∀ j Z, Zs j = some Z → (listed.setIfInBounds i true).getD j false = true → listed.getD j false = true := fun j Z hj hl => by
  rcases n6 hl with h | h
  ·exact h
  ·rw [h, hz] at hj; cases hj
 refine ⟨hf.below.trans (hb.mono (Nat.le_trans hB hf.below.size)), fun j Z hj hl => ?_, fun j k Z Z' hj hk hl hl' => hf.inj j k Z Z' hj hk (old j Z hj hl) (old k Z' hk hl')⟩
 obtain ⟨h1, h2⟩ := hf.blk j Z hj (old j Z hj hl)
 exact ⟨YtifajndacnfcbaaDoor.blk hb h1 (aa9 h1), h2⟩
theorem Facts.made {listed : Array Bool} {γ : m7} {w : World} {i : Nat} {Z : Obj} (hf : Facts B w0 Zs listed γ w) (hB : B ≤ w0.heap.size) (hz : Zs i = some Z) (hun : listed.getD i false = false) :
  Facts B w0 Zs (listed.setIfInBounds i true) (fun j => if j = i then w.heap.size else γ j) (w.alloc Z) := by
 have hbw : B ≤ w.heap.size := Nat.le_trans hB hf.below.size
 refine ⟨hf.below.alloc hbw Z, fun j Z' hj hl => ?_, fun j k Z1 Z2 hj hk hl hl' he => ?_⟩
 ·by_cases hji : j = i
  ·subst hji
   rw [hz] at hj
   obtain rfl := Option.some.inj hj
   simp only [if_pos]
   exact ⟨heap_alloc_new w Z, hbw⟩
  ·simp only [if_neg hji]
   rcases n6 hl with h | h
   ·obtain ⟨h1, h2⟩ := hf.blk j Z' hj h
    exact ⟨by rw [heap_alloc_old _ _ (h := aa9 h1)]; exact h1, h2⟩
   ·exact absurd h hji
 ·have lt : ∀ j Z', Zs j = some Z' → (listed.setIfInBounds i true).getD j false = true → j ≠ i → γ j < w.heap.size := fun j Z' hj hl hn => by
   rcases n6 hl with h | h
   ·exact aa9 (hf.blk j Z' hj h).1
   ·exact absurd h hn
  by_cases h1 : j = i <;> by_cases h2 : k = i
  ·rw [h1, h2]
  ·rw [if_pos h1, if_neg h2] at he
   have := lt k Z2 hk hl' h2
   omega
  ·rw [if_neg h1, if_pos h2] at he
   have := lt j Z1 hj hl h1
   omega
  ·rw [if_neg h1, if_neg h2] at he
   rcases n6 hl with h3 | h3
   ·rcases n6 hl' with h4 | h4
    ·exact hf.inj j k Z1 Z2 hj hk h3 h4 he
    ·exact absurd h4 h2
   ·exact absurd h3 h1
def afe (listed : Array Bool) (A : Fam) : Prop := ∀ β β' : m7, (∀ j, listed.getD j false = true → β j = β' j) → A β = A β'
theorem l6 {n g : Nat} {L : Array Bool → Fam → Prop} {Q' : Exit → Act → World → Prop} (hB : B ≤ w0.heap.size)
  (hL : ∀ listed A γ w, Facts B w0 Zs listed γ w → L listed A → wpAny P md ops Q' g listed (A γ) w) :
  ∀ (f : Nat) (listed : Array Bool) (A : Fam) (γ : m7) (w : World), listed.size = ops.size → afe listed A → Facts B w0 Zs listed γ w → ab1 P md ops B w0 Zs n L f listed A → wpAny P md ops Q' (f + g) listed (A γ) w
 | 0, listed, A, γ, w, _, _, hF, h => by rw [Nat.zero_add]; exact hL _ _ _ _ hF h
 | f + 1, listed, A, γ, w, hsz, hA, hF, h => by
  rw [show f + 1 + g = (f + g) + 1 by omega]
  refine ⟨fun h0 => absurd h0 h.1, fun i hi => ?_⟩
  have hh := (h.2 i hi).2
  obtain ⟨hun, o, ho, _⟩ := mem_ready.1 hi
  have hin : i < ops.size := (Array.getElem?_eq_some_iff.1 ho).1
  have hnow : ∀ j, listed.getD j false = true → (listed.setIfInBounds i true).getD j false = true := fun j hj => by
   by_cases e : i = j
   ·subst e; simp [Array.getD, hsz, hin]
   ·rw [getD_set_ne false e]; exact hj
  have hset : (listed.setIfInBounds i true).getD i false = true := by simp [Array.getD, hsz, hin]
  have hsz' : (listed.setIfInBounds i true).size = ops.size := by simpa using hsz
  unfold flOpA at hh
  unfold wpOp
  simp only [ho] at hh ⊢
  obtain ⟨v, hv, hk⟩ := hh
  rcases hv with ⟨Z, fv, hz, rfl, hg⟩ | ⟨hz, u, rfl, hg⟩
  ·obtain ⟨hw, hx⟩ := hg γ
   simp only [hw, if_true]
   refine .inl ?_
   unfold Oper.wp
   rw [hx w hF.below]
   simp only [Oper.upon]
   have hF' := hF.made hB hz (getD_both hun)
   have hA' : afe (listed.setIfInBounds i true) (A.put o.dst (fun β => fv (β i))) := fun β β' hb => by
    show (A β).put o.dst (fv (β i)) = (A β').put o.dst (fv (β' i))
    rw [hA β β' (fun j hj => hb j (hnow j hj)), hb i hset]
   have := l6 hB hL f _ _ _ _ hsz' hA' hF' hk
   have e : (A.put o.dst (fun β => fv (β i))) (fun j => if j = i then w.heap.size else γ j) = (A γ).put o.dst (fv w.heap.size) := by
    show (A _).put o.dst _ = _
    rw [hA _ γ (fun j hj => by
     by_cases e : j = i
     ·subst e; rw [getD_both hun] at hj; cases hj
     ·simp [e])]
    simp
   rw [e] at this
   exact this
  ·have hA' : afe (listed.setIfInBounds i true) (A.put o.dst (fun _ => u)) := fun β β' hb => by
    show (A β).put o.dst u = (A β').put o.dst u
    rw [hA β β' (fun j hj => hb j (hnow j hj))]
   rcases hg γ with ⟨hw, hx⟩ | ⟨hw, rfl⟩
   ·simp only [hw, if_true]
    refine .inl ?_
    unfold Oper.wp
    have hg' := hx w hF.below
    generalize (execOp (A γ).eval o).run P w = r at hg' ⊢
    cases r with
    | ok m w' =>
     cases m <;> simp only [aiu] at hg' <;> simp only [Oper.upon]
     case enter f' args => exact hg'.mono fun e w'' ⟨he, hs⟩ => by subst he; exact l6 hB hL f _ _ _ _ hsz' hA' (hF.plain hB hz hs) hk
     all_goals (obtain ⟨rfl, hs⟩ := hg'; exact l6 hB hL f _ _ _ _ hsz' hA' (hF.plain hB hz hs) hk)
    | halt x w' => simp only [aiu] at hg'
   ·simp only [hw, Bool.false_eq_true, if_false]
    exact l6 hB hL f _ _ _ _ hsz' hA' (hF.plain hB hz (Below.refl _ _)) hk
theorem aeh {n i : Nat} {oi : Oper} {v : m7 → Value} {L : Array Bool → Fam → Prop} {Inv : Array Bool → Prop} (hi : ops[i]? = some oi) (hsel : ∀ (j : Nat) (o : Oper) cs b, ops[j]? = some o → o.op ≠ .select cs b)
  (hr : HeadRule md ops n Inv) (hin : i < n) (hdone : ∀ listed A, L listed A → ∀ j ∈ Region.ready md ops listed, n ≤ j) :
  ∀ (f : Nat) (listed : Array Bool) (A : Fam), Inv listed →
   (∀ j oj, ops[j]? = some oj → j ≠ i → listed.getD j true = false → (∀ e ∈ oj.after, Region.binds md e = true → e.on ≠ i) → oi.apart ops oj = true) →
   i ∈ Region.ready md ops listed → n0 P ops B w0 Zs i oi v A →
   ab1 P md ops B w0 Zs n L f (listed.setIfInBounds i true) (A.put oi.dst v) → ab1 P md ops B w0 Zs n L (f + 1) listed A := by
 intro f
 induction f with
 | zero =>
  intro listed A inv _ hri hy H
  refine ⟨fun h => (by rw [h] at hri; cases hri), fun j hj => ?_⟩
  have hjn := hr.first listed i inv hin (mem_ready.1 hri).1 j hj
  refine ⟨hjn, ?_⟩
  by_cases hji : j = i
  ·subst hji; exact hy.flOpA hi H
  ·have := hdone _ _ H j (ready_mono hj hji)
   omega
 | succ f ih =>
  intro listed A inv hfree hri hy H
  refine ⟨fun h => (by rw [h] at hri; cases hri), fun j hj => ?_⟩
  have hjn := hr.first listed i inv hin (mem_ready.1 hri).1 j hj
  refine ⟨hjn, ?_⟩
  by_cases hji : j = i
  ·subst hji; exact hy.flOpA hi H
  ·have h1 := (H.2 j (ready_mono hj hji)).2
   obtain ⟨hjun, oj, hoj, hall⟩ := mem_ready.1 hj
   have hnot : ∀ e ∈ oj.after, Region.binds md e = true → e.on ≠ i := fun e he hb heq => by
    have h1 := hall e he hb
    rw [heq, getD_both (mem_ready.1 hri).1] at h1
    cases h1
   have h2 := aix hoj (hfree j oj hoj hji hjun hnot) (fun cs b => hsel i oi cs b hi) (fun cs b => hsel j oj cs b hoj) hy h1
   refine ahs (fun A' h3 => ih (listed.setIfInBounds j true) A' (hr.step _ _ inv hj hjn) ?_ (ready_mono hri (Ne.symm hji)) h3.1 ?_) h2
   ·intro k ok hk hki hun hno
    refine hfree k ok hk hki ?_ hno
    by_cases hjk : j = k
    ·subst hjk; exact hjun
    ·rw [getD_set_ne true hjk] at hun; exact hun
   ·rw [Array.setIfInBounds_comm _ _ hji]
    exact h3.2
def wpFlowA (P : Program) (ops : Array Oper) (B : Nat) (w0 : World) (Zs : Nat → Option Obj) (Q : Fam → Prop) : List Oper → Nat → Fam → Prop
 | [], _, A => Q A
 | o :: rest, k, A => ∃ v, n0 P ops B w0 Zs k o v A ∧ wpFlowA P ops B w0 Zs Q rest (k + 1) (A.put o.dst v)
theorem abz {n g : Nat} {L : Array Bool → Fam → Prop} {Lq : Fam → Prop} {Inv : Array Bool → Prop} (hsel : Region.noSelect ops = true) (hr : HeadRule md ops n Inv)
  (hdone : ∀ listed A, L listed A → ∀ j ∈ Region.ready md ops listed, n ≤ j)
  (hend : ∀ listed A, Region.seqB md ops g n listed = true → (∀ j, j < n → listed.getD j false = true) → Lq A → L listed A) :
  ∀ (l : List Oper) (k : Nat) (listed : Array Bool) (A : Fam), (∀ j, j < l.length → l[j]? = ops[k + j]?) → k + l.length = n → Inv listed → listed.size = ops.size → (∀ j, j < k → listed.getD j false = true) →
  Region.lexHead md ops g l.length k listed = true → wpFlowA P ops B w0 Zs Lq l k A → ab1 P md ops B w0 Zs n L l.length listed A
 | [], k, listed, A, _, hk, _, _, hls, hB, h => by
  have : k = n := by simpa using hk
  subst this
  exact hend _ _ (by simpa [Region.lexHead] using hB) hls h
 | o :: l, k, listed, A, hl, hk, inv, hsz, hls, hB, h => by
  have h0 : ops[k]? = some o := by simpa using (hl 0 (by simp)).symm
  have hin : k < ops.size := (Array.getElem?_eq_some_iff.1 h0).1
  simp only [List.length_cons, Region.lexHead, Bool.and_eq_true] at hB
  obtain ⟨⟨hrd, hf⟩, hB'⟩ := hB
  have hkn : k < n := by simp only [List.length_cons] at hk; omega
  have hr' : k ∈ Region.ready md ops listed := by simpa using hrd
  obtain ⟨v, hy, hK⟩ := h
  refine aeh h0 (Region.noSelect_spec hsel) hr hkn hdone l.length listed A inv (Region.free_spec h0 hf) hr' hy
   (abz hsel hr hdone hend l (k + 1) _ _ (fun j hj => by have := hl (j + 1) (by simp; omega); simpa [Nat.add_assoc, Nat.add_comm 1 j] using this) (by simp only [List.length_cons] at hk; omega) (hr.step _ _ inv hr' hkn) (by simpa using hsz) (fun j hj => ?_) hB' hK)
  by_cases e : k = j
  ·subst e; simp [Array.getD, hsz, hin]
  ·rw [getD_set_ne false e]; exact hls j (by omega)
structure Made (B : Nat) (w0 : World) (Zs : Nat → Option Obj) (n : Nat) (γ : m7) (w : World) : Prop where
 below : Below B w0 w
 blk : ∀ i Z, i < n → Zs i = some Z → w.heap[γ i]? = some Z ∧ B ≤ γ i
 inj : ∀ i j Z Z', i < n → j < n → Zs i = some Z → Zs j = some Z' → γ i = γ j → i = j
theorem ajo {id : Nat} {Q : Exit → Act → World → Prop} {a : Act} {w : World} {l : List Oper} (Zs : Nat → Option Obj) (n : Nat) (hm : P.follows .mixedOrders = true) (hB : Region.lexTailB .any l.toArray n = true)
  (h : wpFlowA P l.toArray w.drew.heap.size w.drew Zs (fun A => ∀ γ w', Made w.drew.heap.size w.drew Zs n γ w' → wpList P l.toArray Q (l.drop n) (A γ) w') (l.take n) 0 (fun _ => a)) : (Code.region id l.toArray true).wp P Q a w := by
 simp only [Region.lexTailB, Bool.and_eq_true, decide_eq_true_eq] at hB
 obtain ⟨⟨⟨⟨hsel, hn⟩, hs⟩, hc⟩, hlex⟩ := hB
 have hn' : n < l.length := by simpa using hn
 have htl : (l.take n).length = n := by simp; omega
 have hdl : (l.drop n).length = l.toArray.size - n := by simp
 have inv0 : HeadInv .any l.toArray n (Array.replicate l.toArray.size false) :=
  ⟨by simp, fun j oj _ hl => (by rw [getD_replicate_false] at hl; cases hl), fun t _ ht => getD_in (by simpa using ht) (getD_replicate_false _ _)⟩
 have H := abz (md := .any) (n := n) (g := l.toArray.size - n)
  (L := fun listed' A' => Region.seqB .any l.toArray (l.toArray.size - n) n listed' = true ∧ (∀ j, j < n → listed'.getD j false = true) ∧ ∀ γ w', Made w.drew.heap.size w.drew Zs n γ w' → wpList P l.toArray Q (l.drop n) (A' γ) w')
  (Inv := HeadInv .any l.toArray n) hsel
  ⟨fun _ _ inv hi hin => inv.set hi hin, fun listed i inv hin hun j hj => by
   rcases Nat.lt_or_ge j n with h | h
   ·exact h
   ·exact absurd hj (tail_waits hs hc hn inv _ i rfl hin hun j h)⟩
  (fun listed' A' hL => seqB_ready hL.1) (fun listed A hs hls hq => ⟨hs, hls, hq⟩)
  (l.take n) 0 _ (fun _ => a) (fun j hj => by
   have hj' : j < n := by rw [htl] at hj; exact hj
   simp [hj']) (by simpa using htl) inv0 (by simp) (fun j hj => by omega) (by rw [htl]; exact hlex) h
 refine wp_region_any hm ?_
 have := l6 (Q' := Q) (g := l.toArray.size - n) (Nat.le_refl _) (fun listed' A' γ w' hF hL => by
  have hM : Made w.drew.heap.size w.drew Zs n γ w' := ⟨hF.below, fun i Z hi hz => hF.blk i Z hz (hL.2.1 i hi), fun i j Z Z' hi hj hz hz' => hF.inj i j Z Z' hz hz' (hL.2.1 i hi) (hL.2.1 j hj)⟩
  have := wpAny_of_seq (md := .any) (Q' := Q) (l.drop n) n listed' (A' γ) w' (fun j => by simp [List.getElem?_drop]) (by rw [hdl]; exact hL.1) (hL.2.2 γ w' hM)
  rwa [hdl] at this) _ _ _ (fun _ => 0) _ (by simp) (fun _ _ _ => rfl)
  ⟨Below.refl _ _, fun i Z _ hl => (by rw [getD_replicate_false] at hl; cases hl), fun i j Z Z' _ _ hl => (by rw [getD_replicate_false] at hl; cases hl)⟩ H
 rw [htl, show n + (l.toArray.size - n) = l.toArray.size by omega] at this
 exact this
theorem ac2 {id : Nat} {Q : Exit → Act → World → Prop} {a : Act} {w : World} {l : List Oper} (Zs : Nat → Option Obj) (hm : P.follows .mixedOrders = true) (hB : ao1 l.toArray = true)
  (h : wpFlowA P l.toArray w.drew.heap.size w.drew Zs (fun A => ∀ γ w', Made w.drew.heap.size w.drew Zs l.length γ w' → Q .normal (A γ) w') l 0 (fun _ => a)) : (Code.region id l.toArray true).wp P Q a w := by
 simp only [ao1, Bool.and_eq_true] at hB
 refine wp_region_any hm ?_
 have H := abz (md := .any) (n := l.toArray.size) (g := 0)
  (L := fun listed a' => Region.ready .any l.toArray listed = [] ∧ (∀ j, j < l.length → listed.getD j false = true) ∧ ∀ γ w', Made w.drew.heap.size w.drew Zs l.length γ w' → Q .normal (a' γ) w') (Inv := fun _ => True) hB.1
  ⟨fun _ _ _ _ _ => trivial, fun listed i _ _ _ j hj => by obtain ⟨_, o, ho, _⟩ := mem_ready.1 hj; exact (Array.getElem?_eq_some_iff.1 ho).1⟩
  (fun listed a' hL j hj => by rw [hL.1] at hj; cases hj)
  (fun listed a' hs hls hq => ⟨by simpa [Region.seqB] using hs, fun j hj => hls j (by simpa using hj), hq⟩)
  l 0 (Array.replicate l.toArray.size false) (fun _ => a) (fun j hj => by simp) (by simp) trivial (by simp) (fun j hj => by omega) (by simpa using hB.2) h
 have := l6 (Q' := Q) (g := 0) (Nat.le_refl _) (fun listed' A' γ w' hF hL => by
  have hM : Made w.drew.heap.size w.drew Zs l.length γ w' := ⟨hF.below, fun i Z hi hz => hF.blk i Z hz (hL.2.1 i hi), fun i j Z Z' hi hj hz hz' => hF.inj i j Z Z' hz hz' (hL.2.1 i hi) (hL.2.1 j hj)⟩
  exact ⟨hL.1, hL.2.2 γ w' hM⟩) _ _ _ (fun _ => 0) _ (by simp) (fun _ _ _ => rfl)
  ⟨Below.refl _ _, fun i Z _ hl => (by rw [getD_replicate_false] at hl; cases hl), fun i j Z Z' _ _ hl => (by rw [getD_replicate_false] at hl; cases hl)⟩ H
 simpa using this
end
end Go.Proofs.YtifajndacnfcbaaDoor
namespace Go.Proofs.YtifajndacnfcbaaDoor
open Go Go.RowKit
abbrev Sl := List (Nat × Value)
def Sl.get : Sl → Nat → Option Value
 | [], _ => none
 | p :: r, i => bif Nat.beq p.1 i then some p.2 else Sl.get r i
def ev (L : Sl) : Operand → Option Value
 | .tmp t => L.get t
 | .const v => some v
 | .global g => some (.pointer (some ⟨g, 0, none⟩))
 | .func f => some (.func (.func f) #[] #[])
def Sub (L : Sl) : Sl → Prop
 | [] => True
 | p :: r => L.get p.1 = some p.2 ∧ Sub L r
structure Cx where
 n : Nat
 D : List Deferred
 w0 : World
 M : List Nat
 R : List (Nat × Obj)
structure Fr (C : Cx) (L : Sl) (a : Act) : Prop where
 defers : a.defers = C.D
 size : C.n ≤ a.tmps.size
 get : ∀ i v, L.get i = some v → a.tmps[i]? = some v
theorem Sl.get_mem {L : Sl} {i : Nat} {v : Value} (h : L.get i = some v) : (i, v) ∈ L := by
 induction L with
 | nil => cases h
 | cons p r ih =>
  unfold Sl.get at h
  cases hb : Nat.beq p.1 i with
  | true =>
   rw [hb] at h
   have e : p.1 = i := Nat.eq_of_beq_eq_true hb
   have e2 : p.2 = v := by simpa using h
   rw [← e, ← e2]; exact List.mem_cons_self ..
  | false => rw [hb] at h; exact List.mem_cons_of_mem _ (ih h)
theorem Sub.get {L L' : Sl} (h : Sub L L') {p : Nat × Value} (hp : p ∈ L') : L.get p.1 = some p.2 := by
 induction L' with
 | nil => cases hp
 | cons q r ih =>
  rcases List.mem_cons.1 hp with rfl | hp
  ·exact h.1
  ·exact ih h.2 hp
variable {C : Cx} {L : Sl} {a : Act}
theorem Fr.sub {L' : Sl} (h : Fr C L a) (hs : Sub L L') : Fr C L' a :=
 ⟨h.defers, h.size, fun _ _ hg => h.get _ _ (hs.get (Sl.get_mem hg))⟩
theorem Fr.ev (h : Fr C L a) {x : Operand} {v : Value} (hx : ev L x = some v) : a.eval x = v := by
 cases x with
 | tmp t => simp only [Act.eval, Array.getD_eq_getD_getElem?, h.get t v hx, Option.getD_some]
 | const c => exact Option.some.inj hx
 | global g => exact Option.some.inj hx
 | func f => exact Option.some.inj hx
theorem Fr.put (h : Fr C L a) {d : Nat} (hn : Nat.blt d C.n = true) (v : Value) : Fr C ((d, v) :: L) (a.put (some d) v) := by
 have hd : d < C.n := Nat.blt_eq ▸ hn
 refine ⟨h.defers, by simpa [Act.put] using h.size, fun i u hg => ?_⟩
 have hsz := h.size
 unfold Sl.get at hg
 cases hb : Nat.beq d i with
 | true =>
  obtain rfl : d = i := Nat.eq_of_beq_eq_true hb
  simp only [hb, cond_true, Option.some.injEq] at hg
  subst hg
  simp [Act.put, show d < a.tmps.size by omega]
 | false =>
  simp only [hb, cond_false] at hg
  have hne : d ≠ i := fun e => by subst e; simp at hb
  simpa [Act.put, Array.getElem?_setIfInBounds_ne hne] using h.get i u hg
theorem Fr.put0 (h : Fr C L a) (v : Value) : Fr C L (a.put none v) := h
def aud (p : World → List Nat → Prop) : Prop := ∀ w w' F, p w F → (∀ k ∈ F, w'.heap[k]? = w.heap[k]?) → p w' F
inductive HA where
 | blk (b : Nat) (o : Obj)
 | row (v : Value) (t : TypeId) (sz n : Nat) (xs : List Value)
 | gen (p : World → List Nat → Prop) (h : aud p)
def HA.at (w : World) : HA → List Nat → Prop
 | .blk b o, F => F = [b] ∧ w.heap[b]? = some o
 | .gen p _, F => p w F
 | .row v t sz n xs, F => F = v.ownBlock.toList ∧ w.ownsRow 0 t sz v n xs
def Own (w : World) : List HA → List Nat → Prop
 | [], F => F = []
 | h :: H, F => ∃ F1 F2, F = F1 ++ F2 ∧ h.at w F1 ∧ Own w H F2
structure Hp (C : Cx) (H : List HA) (w : World) : Prop where
 os : w.os = C.w0.os
 tape : w.tape = C.w0.tape
 output : w.output = C.w0.output
 size : C.w0.heap.size ≤ w.heap.size
 keep : ∀ k, k < C.w0.heap.size → k ∉ C.M → w.heap[k]? = C.w0.heap[k]?
 ro : ∀ p ∈ C.R, C.w0.heap[p.1]? = some p.2 ∧ p.1 ∉ C.M
 own : ∃ F, Own w H F ∧ F.Nodup ∧ ∀ k ∈ F, k < w.heap.size ∧ (C.w0.heap.size ≤ k ∨ k ∈ C.M)
theorem HA.at_keep {w w' : World} {h : HA} {F : List Nat} (hh : h.at w F) (hk : ∀ k ∈ F, w'.heap[k]? = w.heap[k]?) : h.at w' F := by
 cases h with
 | blk b o => obtain ⟨rfl, hb⟩ := hh; exact ⟨rfl, by rw [hk b (by simp)]; exact hb⟩
 | gen p h => exact h w w' F hh hk
 | row v t sz n xs =>
  obtain ⟨rfl, h1, hh⟩ := hh
  refine ⟨rfl, h1, ?_⟩
  rcases hh with hh | ⟨b, cap, cur, rfl, h2, hb, h3⟩
  ·exact .inl hh
  ·exact .inr ⟨b, cap, cur, rfl, h2, by rw [hk b (by simp [Value.ownBlock])]; exact hb, h3⟩
theorem Own.keep {w w' : World} : ∀ {H : List HA} {F : List Nat}, Own w H F → (∀ k ∈ F, w'.heap[k]? = w.heap[k]?) → Own w' H F
 | [], _, h, _ => h
 | _ :: _, _, ⟨F1, F2, hF, h1, h2⟩, hk =>
  ⟨F1, F2, hF, HA.at_keep h1 fun k hm => hk k (by rw [hF]; simp [hm]), h2.keep fun k hm => hk k (by rw [hF]; simp [hm])⟩
theorem Own.append {w : World} : ∀ {A B : List HA} {F G : List Nat}, Own w A F → Own w B G → Own w (A ++ B) (F ++ G)
 | [], _, _, _, h, h' => by have : _ = [] := h; subst this; simpa using h'
 | _ :: _, _, _, _, ⟨F1, F2, hF, h1, h2⟩, h' => ⟨F1, F2 ++ _, by rw [hF, List.append_assoc], h1, h2.append h'⟩
theorem Own.split {w : World} : ∀ {A B : List HA} {F : List Nat}, Own w (A ++ B) F → ∃ F1 F2, F = F1 ++ F2 ∧ Own w A F1 ∧ Own w B F2
 | [], _, F, h => ⟨[], F, rfl, rfl, h⟩
 | _ :: _, _, _, ⟨F1, F2, hF, h1, h2⟩ => by
  obtain ⟨G1, G2, rfl, h3, h4⟩ := h2.split
  exact ⟨F1 ++ G1, G2, by rw [hF, List.append_assoc], ⟨F1, G1, rfl, h1, h3⟩, h4⟩
def sel (H : List HA) : List Nat → List HA
 | [] => []
 | i :: r => match H[i]? with
  | some h => h :: sel H r
  | none => sel H r
theorem Own.parts {w : World} : ∀ {H : List HA} {F : List Nat}, Own w H F → ∃ Fs : List (List Nat), Fs.length = H.length ∧ Fs.flatten = F ∧ ∀ (i : Nat) (h : HA) (f : List Nat), H[i]? = some h → Fs[i]? = some f → h.at w f
 | [], _, h => ⟨[], rfl, by have : _ = [] := h; simp [this], fun i h f hh _ => by simp at hh⟩
 | h0 :: H, _, ⟨F1, F2, hF, h1, h2⟩ => by
  obtain ⟨Fs, hl, hf, hall⟩ := h2.parts
  refine ⟨F1 :: Fs, by simp [hl], by simp [hf, hF], fun i h f hh hff => ?_⟩
  cases i with
  | zero => simp at hh hff; subst hh; subst hff; exact h1
  | succ i => simp at hh hff; exact hall i h f hh hff
theorem aed : ∀ {Fs : List (List Nat)}, Fs.flatten.Nodup → ∀ {i j : Nat} {f g : List Nat}, Fs[i]? = some f → Fs[j]? = some g → i ≠ j → ∀ k ∈ f, k ∉ g := by
 intro Fs
 induction Fs with
 | nil => intro _ i j f g h; simp at h
 | cons F Fs ih =>
  intro hn i j f g hf hg hij k hk hk'
  rw [List.flatten_cons, List.nodup_append] at hn
  obtain ⟨_, h2, h3⟩ := hn
  cases i with
  | zero =>
   cases j with
   | zero => exact hij rfl
   | succ j =>
    simp at hf hg; subst hf
    exact h3 k hk k (List.mem_flatten.2 ⟨g, List.mem_of_getElem? hg, hk'⟩) rfl
  | succ i =>
   cases j with
   | zero =>
    simp at hf hg; subst hg
    exact h3 k hk' k (List.mem_flatten.2 ⟨f, List.mem_of_getElem? hf, hk⟩) rfl
   | succ j => simp at hf hg; exact ih h2 hf hg (by omega) k hk hk'
theorem ala {Fs : List (List Nat)} (h : Fs.flatten.Nodup) {i : Nat} {f : List Nat} (hf : Fs[i]? = some f) : f.Nodup := by
 induction Fs generalizing i with
 | nil => simp at hf
 | cons F Fs ih =>
  rw [List.flatten_cons, List.nodup_append] at h
  cases i with
  | zero => simp at hf; subst hf; exact h.1
  | succ i => simp at hf; exact ih h.2.1 hf
theorem arh {w : World} {H : List HA} {Fs : List (List Nat)} (hl : Fs.length = H.length) (hall : ∀ (i : Nat) (h : HA) (f : List Nat), H[i]? = some h → Fs[i]? = some f → h.at w f) (hn : Fs.flatten.Nodup) :
  ∀ {idx : List Nat}, idx.Nodup → ∃ G, Own w (sel H idx) G ∧ G.Nodup ∧ ∀ k ∈ G, ∃ i ∈ idx, ∃ f, Fs[i]? = some f ∧ k ∈ f
 | [], _ => ⟨[], rfl, List.nodup_nil, fun k hk => by cases hk⟩
 | i :: r, hi => by
  rw [List.nodup_cons] at hi
  obtain ⟨G, h1, h2, h3⟩ := arh hl hall hn hi.2
  unfold sel
  cases hh : H[i]? with
  | none => exact ⟨G, h1, h2, fun k hk => by obtain ⟨j, hj, f, hf⟩ := h3 k hk; exact ⟨j, by simp [hj], f, hf⟩⟩
  | some h =>
   have hlt : i < Fs.length := by rw [hl]; exact (List.getElem?_eq_some_iff.1 hh).1
   have hf : Fs[i]? = some Fs[i] := List.getElem?_eq_getElem hlt
   refine ⟨Fs[i] ++ G, ⟨Fs[i], G, rfl, hall i h _ hh hf, h1⟩, ?_, fun k hk => ?_⟩
   ·rw [List.nodup_append]
    refine ⟨ala hn hf, h2, fun x hx y hy e => ?_⟩
    subst e
    obtain ⟨j, hj, f, hf', hk⟩ := h3 _ hy
    exact aed hn hf hf' (fun e => hi.1 (e ▸ hj)) _ hx hk
   ·rcases List.mem_append.1 hk with hk | hk
    ·exact ⟨i, by simp, _, hf, hk⟩
    ·obtain ⟨j, hj, f, hf'⟩ := h3 k hk; exact ⟨j, by simp [hj], f, hf'⟩
def u4 : List Nat → Bool
 | [] => true
 | i :: r => !r.contains i && u4 r
theorem afo : ∀ {l : List Nat}, u4 l = true → l.Nodup
 | [], _ => List.nodup_nil
 | i :: r, h => by
  simp only [u4, Bool.and_eq_true, Bool.not_eq_true', List.contains_eq_mem, decide_eq_false_iff_not] at h
  exact List.nodup_cons.2 ⟨h.1, afo h.2⟩
variable {H : List HA} {w : World}
theorem Hp.pick (h : Hp C H w) (idx : List Nat) (hi : u4 idx = true) : Hp C (sel H idx) w := by
 obtain ⟨F, h1, h2, h3⟩ := h.own
 obtain ⟨Fs, hl, rfl, hall⟩ := h1.parts
 obtain ⟨G, g1, g2, g3⟩ := arh hl hall h2 (afo hi)
 exact ⟨h.os, h.tape, h.output, h.size, h.keep, h.ro, G, g1, g2, fun k hk => by
  obtain ⟨i, _, f, hf, hk⟩ := g3 k hk
  exact h3 k (List.mem_flatten.2 ⟨f, List.mem_of_getElem? hf, hk⟩)⟩
theorem Hp.start (n : Nat) (D : List Deferred) (w : World) {H : List HA} {M : List Nat} {R : List (Nat × Obj)} (h : Own w H M) (hn : M.Nodup) (hlt : ∀ k ∈ M, k < w.heap.size) (hR : ∀ p ∈ R, w.heap[p.1]? = some p.2 ∧ p.1 ∉ M) : Hp ⟨n, D, w, M, R⟩ H w :=
 ⟨rfl, rfl, rfl, Nat.le_refl _, fun _ _ _ => rfl, hR, M, h, hn, fun k hk => ⟨hlt k hk, .inr hk⟩⟩
theorem Hp.ctx {n n' : Nat} {D D' : List Deferred} {w0 w : World} {M : List Nat} {R : List (Nat × Obj)} {H : List HA} (h : Hp ⟨n, D, w0, M, R⟩ H w) : Hp ⟨n', D', w0, M, R⟩ H w := ⟨h.os, h.tape, h.output, h.size, h.keep, h.ro, h.own⟩
theorem Hp.blk (h : Hp C H w) {i b : Nat} {o : Obj} (hi : H[i]? = some (.blk b o)) : w.heap[b]? = some o := by
 obtain ⟨F, h1, _, _⟩ := h.own
 obtain ⟨Fs, hl, _, hall⟩ := h1.parts
 have hlt : i < Fs.length := by rw [hl]; exact (List.getElem?_eq_some_iff.1 hi).1
 exact (hall i _ _ hi (List.getElem?_eq_getElem hlt)).2
theorem Hp.old (h : Hp C H w) {b : Nat} {o : Obj} (hb : (b, o) ∈ C.R) : w.heap[b]? = some o := by
 obtain ⟨h1, h2⟩ := h.ro _ hb
 rw [h.keep b (aa9 h1) h2]; exact h1
theorem Hp.alloc (h : Hp C H w) (o : Obj) : Hp C (.blk w.heap.size o :: H) (w.alloc o) := by
 obtain ⟨F, h1, h2, h3⟩ := h.own
 refine ⟨h.os, h.tape, h.output, ?_, fun k hk hM => ?_, h.ro, w.heap.size :: F, ⟨[w.heap.size], F, rfl, ⟨rfl, heap_alloc_new _ _⟩, h1.keep fun k hk => ?_⟩, ?_, fun k hk => ?_⟩
 ·rw [World.size_alloc]; have := h.size; omega
 ·rw [heap_alloc_old _ _ (h := by have := h.size; omega)]; exact h.keep k hk hM
 ·exact heap_alloc_old _ _ (h := (h3 k hk).1)
 ·exact List.nodup_cons.2 ⟨fun hm => by have := (h3 _ hm).1; omega, h2⟩
 ·rw [World.size_alloc]
  rcases List.mem_cons.1 hk with rfl | hk
  ·exact ⟨by omega, .inl h.size⟩
  ·exact ⟨by have := (h3 k hk).1; omega, (h3 k hk).2⟩
theorem Hp.below (h : Hp C H w) {w' : World} (hb : Below w.heap.size w w') : Hp C H w' := by
 obtain ⟨F, h1, h2, h3⟩ := h.own
 exact ⟨hb.os.trans h.os, hb.tape.trans h.tape, hb.output.trans h.output, Nat.le_trans h.size hb.size,
  fun k hk hM => by rw [hb.block k (by have := h.size; omega)]; exact h.keep k hk hM, h.ro,
  F, h1.keep (fun k hk => hb.block k (h3 k hk).1), h2, fun k hk => ⟨Nat.lt_of_lt_of_le (h3 k hk).1 hb.size, (h3 k hk).2⟩⟩
theorem Hp.drew (h : Hp C H w) : Hp C H w.drew := h.below (Below.refl _ _).drew
theorem Hp.toBelow {n : Nat} {D : List Deferred} {w0 : World} {R : List (Nat × Obj)} (h : Hp ⟨n, D, w0, [], R⟩ H w) : Below w0.heap.size w0 w :=
 ⟨h.os, h.tape, h.output, h.size, fun k hk => h.keep k hk (by simp)⟩
theorem atc {Fs : List (List Nat)} {H : List HA} {w : World} {i : Nat} {x : HA} (hl : Fs.length = H.length) (hall : ∀ (j : Nat) (h : HA) (f : List Nat), H[j]? = some h → j ≠ i → Fs[j]? = some f → h.at w f)
  (hx : ∀ f, Fs[i]? = some f → x.at w f) : Own w (H.set i x) Fs.flatten := by
 induction H generalizing Fs i with
 | nil => cases Fs with
  | nil => exact rfl
  | cons _ _ => simp at hl
 | cons h0 H ih =>
  cases Fs with
  | nil => simp at hl
  | cons F Fs =>
   have hl' : Fs.length = H.length := by simpa using hl
   cases i with
   | zero =>
    refine ⟨F, Fs.flatten, by simp, hx F (by simp), ?_⟩
    have : Own w (H.set H.length x) Fs.flatten := ih hl' (fun j h f hh _ hf => hall (j + 1) h f (by simpa using hh) (by omega) (by simpa using hf)) (fun f hf => by
     have := (List.getElem?_eq_some_iff.1 hf).1; omega)
    rwa [List.set_eq_of_length_le (Nat.le_refl _)] at this
   | succ i =>
    refine ⟨F, Fs.flatten, by simp, hall 0 h0 F (by simp) (by omega) (by simp), ?_⟩
    exact ih hl' (fun j h f hh hn hf => hall (j + 1) h f (by simpa using hh) (by omega) (by simpa using hf)) (fun f hf => hx f (by simpa using hf))
theorem Hp.set (h : Hp C H w) {i b : Nat} {o o' : Obj} (hi : H[i]? = some (.blk b o)) {w' : World} (hos : w'.os = w.os) (htape : w'.tape = w.tape) (hout : w'.output = w.output)
  (hsz : w'.heap.size = w.heap.size) (hoth : ∀ k, k ≠ b → w'.heap[k]? = w.heap[k]?) (hb : w'.heap[b]? = some o') : Hp C (H.set i (.blk b o')) w' := by
 obtain ⟨F, h1, h2, h3⟩ := h.own
 obtain ⟨Fs, hl, rfl, hall⟩ := h1.parts
 have hlt : i < Fs.length := by rw [hl]; exact (List.getElem?_eq_some_iff.1 hi).1
 have hfi : Fs[i]? = some Fs[i] := List.getElem?_eq_getElem hlt
 have hF := (hall i _ _ hi hfi).1
 have hmem : b ∈ Fs.flatten := List.mem_flatten.2 ⟨Fs[i], List.getElem_mem _, by rw [hF]; simp⟩
 refine ⟨hos.trans h.os, htape.trans h.tape, hout.trans h.output, by rw [hsz]; exact h.size, fun k hk hM => ?_, h.ro, Fs.flatten, ?_, h2, fun k hk => by rw [hsz]; exact h3 k hk⟩
 ·rw [hoth k (fun e => by subst e; rcases (h3 _ hmem).2 with h4 | h4 <;> first | omega | exact hM h4)]
  exact h.keep k hk hM
 ·refine atc hl (fun j x f hj hne hf => ?_) (fun f hf => ?_)
  ·refine HA.at_keep (hall j x f hj hf) fun k hk => hoth k fun e => ?_
   subst e
   exact aed h2 hf hfi hne _ hk (by rw [hF]; simp)
  ·rw [hfi] at hf
   cases hf
   exact ⟨hF, hb⟩
theorem Hp.call {A R A' : List HA} {w' : World} {n' : Nat} {D' : List Deferred} {F1 F2 : List Nat} {R' : List (Nat × Obj)} (h : Hp C (A ++ R) w) (hR : Own w R F2) (h2 : (F1 ++ F2).Nodup)
  (h3 : ∀ k ∈ F1 ++ F2, k < w.heap.size ∧ (C.w0.heap.size ≤ k ∨ k ∈ C.M)) (hc : Hp ⟨n', D', w, F1, R'⟩ A' w') : Hp C (A' ++ R) w' := by
 have hM : ∀ k ∈ F1, k ∈ F1 := fun _ h => h
 obtain ⟨G, g1, g2, g3⟩ := hc.own
 rw [List.nodup_append] at h2
 have hcs := hc.size
 simp only at hcs g3
 refine ⟨hc.os.trans h.os, hc.tape.trans h.tape, hc.output.trans h.output, Nat.le_trans h.size hc.size, fun k hk hkM => ?_, h.ro, G ++ F2, g1.append (hR.keep fun k hk => ?_), ?_, fun k hk => ?_⟩
 ·have hk' : k < w.heap.size := by have := h.size; omega
  rw [hc.keep k hk' (fun hm => by
   have h4 := (h3 k (List.mem_append.2 (.inl (hM k hm)))).2
   rcases h4 with h4 | h4
   ·omega
   ·exact hkM h4)]
  exact h.keep k hk hkM
 ·exact hc.keep k (h3 k (List.mem_append.2 (.inr hk))).1 (fun hm => h2.2.2 k (hM k hm) k hk rfl)
 ·rw [List.nodup_append]
  refine ⟨g2, h2.2.1, fun x hx y hy e => ?_⟩
  subst e
  rcases (g3 x hx).2 with h4 | h4
  ·have := (h3 x (List.mem_append.2 (.inr hy))).1; omega
  ·exact h2.2.2 x (hM x h4) x hy rfl
 ·rcases List.mem_append.1 hk with hk | hk
  ·refine ⟨(g3 k hk).1, ?_⟩
   rcases (g3 k hk).2 with h4 | h4
   ·exact .inl (Nat.le_trans h.size h4)
   ·exact (h3 k (List.mem_append.2 (.inl (hM k h4)))).2
  ·exact ⟨Nat.lt_of_lt_of_le (h3 k (List.mem_append.2 (.inr hk))).1 hcs, (h3 k (List.mem_append.2 (.inr hk))).2⟩
end Go.Proofs.YtifajndacnfcbaaDoor
namespace Go.Proofs.YtifajndacnfcbaaDoor
open Go Go.RowKit
variable {P : Program} {ops : Array Oper} {Q : Exit → Act → World → Prop} {C : Cx} {L : Sl} {H : List HA} {rest : List Oper} {o : Oper}
def WL (P : Program) (ops : Array Oper) (Q : Exit → Act → World → Prop) (C : Cx) (L : Sl) (H : List HA) (l : List Oper) : Prop := ∀ a w, Fr C L a → Hp C H w → wpList P ops Q l a w
def WC (P : Program) (c : Code) (Q : Exit → Act → World → Prop) (C : Cx) (L : Sl) (H : List HA) : Prop := ∀ a w, Fr C L a → Hp C H w → c.wp P Q a w
def QX (Q : Exit → Act → World → Prop) (e : Exit) (C : Cx) (L : Sl) (H : List HA) : Prop := ∀ a w, Fr C L a → Hp C H w → Q e a w
abbrev KX (K : Act → World → Prop) (C : Cx) (L : Sl) (H : List HA) : Prop := ∀ a w, Fr C L a → Hp C H w → K a w
theorem WC.weak {c : Code} {L' : Sl} (hs : Sub L L') (h : WC P c Q C L' H) : WC P c Q C L H := fun a w hf hp => h a w (hf.sub hs) hp
theorem WC.pick {c : Code} (idx : List Nat) (hi : u4 idx = true) {H' : List HA} (he : sel H idx = H') (h : WC P c Q C L H') : WC P c Q C L H := fun a w hf hp => h a w hf (he ▸ hp.pick idx hi)
theorem WL.weak {l : List Oper} {L' : Sl} (hs : Sub L L') (h : WL P ops Q C L' H l) : WL P ops Q C L H l := fun a w hf hp => h a w (hf.sub hs) hp
theorem WL.pick {l : List Oper} (idx : List Nat) (hi : u4 idx = true) {H' : List HA} (he : sel H idx = H') (h : WL P ops Q C L H' l) : WL P ops Q C L H l := fun a w hf hp => h a w hf (he ▸ hp.pick idx hi)
theorem KX.go {K : Act → World → Prop} {L' : Sl} (h : KX K C L' H) (hs : Sub L L') : KX K C L H := fun a w hf hp => h a w (hf.sub hs) hp
theorem KX.goH {K : Act → World → Prop} {L' : Sl} {H' : List HA} (h : KX K C L' H') (hs : Sub L L') (idx : List Nat) (hi : u4 idx = true) (he : sel H idx = H') : KX K C L H := fun a w hf hp => h a w (hf.sub hs) (he ▸ hp.pick idx hi)
theorem WL.set {l : List Oper} (i : Nat) {v u : Value} (hL : L.get i = some v) (hv : v = u) (h : WL P ops Q C ((i, u) :: L) H l) : WL P ops Q C L H l := fun a w hf hp => h a w ⟨hf.defers, hf.size, fun j x hj => by
 unfold Sl.get at hj
 cases hb : Nat.beq i j with
 | true =>
  obtain rfl : i = j := Nat.eq_of_beq_eq_true hb
  simp only [hb, cond_true, Option.some.injEq] at hj
  rw [← hj, ← hv]; exact hf.get _ _ hL
 | false => simp only [hb, cond_false] at hj; exact hf.get _ _ hj⟩ hp
theorem a7 {x y : Code} (h : ∀ K : Act → World → Prop, (∀ L H, WC P y Q C L H → KX K C L H) → WC P x (Exit.then K Q) C L H) : WC P (.seq x y) Q C L H :=
 fun a w hf hp => wp_seq (h _ (fun _ _ hy => hy) a w hf hp)
theorem m5 {x y : Code} {X : Type} (V : X → Prop) (Lj : X → Sl) (Hj : X → List HA) (hy : ∀ s, V s → WC P y Q C (Lj s) (Hj s))
  (h : ∀ K : Act → World → Prop, (∀ s, V s → KX K C (Lj s) (Hj s)) → WC P x (Exit.then K Q) C L H) : WC P (.seq x y) Q C L H :=
 fun a w hf hp => wp_seq (h _ (fun s hs => hy s hs) a w hf hp)
theorem b6 (h : QX Q .normal C L H) : WC P .skip Q C L H := fun a w hf hp => wp_skip (h a w hf hp)
theorem b8 (h : QX Q .ret C L H) : WC P .ret Q C L H := fun a w hf hp => wp_ret (h a w hf hp)
theorem l4 {id : Nat} (h : QX Q (.exit id) C L H) : WC P (.exit id) Q C L H := fun a w hf hp => wp_exit (h a w hf hp)
theorem b7 {id : Nat} {c : Code} (h : WC P c (Exit.inBlock id Q) C L H) : WC P (.block id c) Q C L H := fun a w hf hp => wp_block (h a w hf hp)
theorem b5 {c : Operand} {x y : Code} {b : Bool} (hc : ev L c = some (.bool b)) (ht : b = true → WC P x Q C L H) (hf : b = false → WC P y Q C L H) : WC P (.cond c x y) Q C L H :=
 fun a w hfr hp => wp_cond_split (hfr.ev hc) (fun h => ht h a w hfr hp) (fun h => hf h a w hfr hp)
theorem f7 {c : Operand} {x y : Code} (hc : ev L c = some (.bool true)) (ht : WC P x Q C L H) : WC P (.cond c x y) Q C L H := fun a w hfr hp => wp_cond_true (hfr.ev hc) (ht a w hfr hp)
theorem d5 {c : Operand} {x y : Code} (hc : ev L c = some (.bool false)) (ht : WC P y Q C L H) : WC P (.cond c x y) Q C L H := fun a w hfr hp => wp_cond_false (hfr.ev hc) (ht a w hfr hp)
theorem a6 {id : Nat} {l : List Oper} (h : WL P l.toArray Q C L H l) : WC P (.region id l.toArray false) Q C L H := fun a w hf hp => wp_region_lit (h a w hf hp)
theorem alu {S : Type} {c : Code} {Q : Exit → Act → World → Prop} {a : Act} {w : World} (I : S → Act → World → Prop) (μ : S → Nat) (s0 : S) (h0 : I s0 a w)
  (round : ∀ s a w, I s a w → c.wp P (Exit.then (fun a' w' => ∃ s', I s' a' w' ∧ μ s' < μ s) Q) a w) : (Code.loop c).wp P Q a w := by
 intro b k cs
 have key : ∀ n s a w, μ s = n → I s a w →
   ∃ e a' w', Q e a' w' ∧ Arrives P (lone (b.at a (.code c :: .inLoop c :: k)) cs w) b k cs e a' w' := by
  intro n
  induction n using Nat.strongRecOn with
  | _ n ih =>
   intro s a w hn hI
   obtain ⟨e, a₁, w₁, hq, harr⟩ := round s a w hI b (.inLoop c :: k) cs
   cases e with
   | normal =>
    obtain ⟨s', hI₁, hlt⟩ := hq
    obtain ⟨e₂, a₂, w₂, hq₂, harr₂⟩ := ih (μ s') (hn ▸ hlt) s' a₁ w₁ rfl hI₁
    exact ⟨e₂, a₂, w₂, hq₂, .of_steps (Steps.trans harr (.one step_inLoop)) harr₂⟩
   | exit id => exact ⟨_, a₁, w₁, hq, .pass (x := .inLoop c) rfl (fun _ _ => .inl (by simp)) harr⟩
   | goto l => exact ⟨_, a₁, w₁, hq, .pass (x := .inLoop c) rfl (fun _ _ => .inl (by simp)) harr⟩
   | ret => exact ⟨_, a₁, w₁, hq, .pass (x := .inLoop c) rfl (fun _ _ => .inl (by simp)) harr⟩
   | panic ch => exact ⟨_, a₁, w₁, hq, .pass (x := .inLoop c) rfl (fun _ _ => .inl (by simp)) harr⟩
   | outgrown => exact ⟨_, a₁, w₁, hq, .pass (x := .inLoop c) rfl (fun _ _ => .inl (by simp)) harr⟩
 obtain ⟨e, a', w', hq, harr⟩ := key _ s0 a w rfl h0
 exact ⟨e, a', w', hq, .of_steps (.one step_loop) harr⟩
theorem o7 {S : Type} {c : Code} (I : S → Prop) (μ : S → Nat) (Ls : S → Sl) (Hs : S → List HA) (s0 : S) (h0 : I s0) (hs : Sub L (Ls s0)) (hH : H = Hs s0)
  (round : ∀ s, I s → ∀ K : Act → World → Prop, (∀ s', I s' → μ s' < μ s → KX K C (Ls s') (Hs s')) → WC P c (Exit.then K Q) C (Ls s) (Hs s)) : WC P (.loop c) Q C L H :=
 fun _ _ hf hp => alu (fun s a w => I s ∧ Fr C (Ls s) a ∧ Hp C (Hs s) w) μ s0 ⟨h0, hf.sub hs, hH ▸ hp⟩
  fun s _ _ ⟨hI, hf, hp⟩ => round s hI _ (fun s' hI' hlt _ _ hf' hp' => ⟨s', ⟨hI', hf', hp'⟩, hlt⟩) _ _ hf hp
def p7 (ops : Array Oper) (L : Sl) (o : Oper) : Option Bool :=
 match o.guard with
 | none => some true
 | some (j, b) => match ops[j]? with
  | some oj => match oj.dst with
   | some d => match L.get d with
    | some (.bool c) => some (c == b)
    | some (.tuple _) => some false
    | _ => none
   | none => none
  | none => none
theorem j9 {a : Act} {b : Bool} (hf : Fr C L a) (h : p7 ops L o = some b) : Region.wanted o (yielded ops a.tmps) = b := by
 unfold p7 at h
 unfold Region.wanted
 split at h
 ·rename_i hg; rw [hg]; simpa using h
 ·rename_i j b' hg
  rw [hg]
  split at h
  ·rename_i oj hoj
   split at h
   ·rename_i d hd
    split at h
    ·rename_i c hc
     have := hf.get d _ hc
     simp only [yielded, hoj, hd, Option.bind_some, this]
     cases c <;> cases b' <;> simpa using h
    ·rename_i vs hc
     have := hf.get d _ hc
     simp only [yielded, hoj, hd, Option.bind_some, this]
     simpa using h
    ·cases h
   ·cases h
  ·cases h
theorem s7 {Q : Exit → Act → World → Prop} {a : Act} {w : World} (hw : Region.wanted o (yielded ops a.tmps) = true) (h : o.wp P a w (wpList P ops Q rest) Q) : wpList P ops Q (o :: rest) a w := by
 unfold wpList; rw [if_pos hw]; exact .inl h
def OV (P : Program) (C : Cx) (L : Sl) (H : List HA) (o : Oper) (v : Value) : Prop := ∀ a w, Fr C L a → Hp C H w → (execOp a.eval o).run P w = .ok (.value v) w
theorem WL.val {v : Value} {d : Nat} (hv : OV P C L H o v) (hw : p7 ops L o = some true) (hd : o.dst = some d) (hn : Nat.blt d C.n = true) (h : WL P ops Q C ((d, v) :: L) H rest) : WL P ops Q C L H (o :: rest) := by
 intro a w hf hp
 refine s7 (j9 hf hw) ?_
 unfold Oper.wp
 rw [hv a w hf hp]
 simp only [Oper.upon, hd]
 exact h _ _ (hf.put hn v) hp
theorem WL.skip {d : Nat} (hw : p7 ops L o = some false) (hd : o.dst = some d) (hn : Nat.blt d C.n = true) (h : WL P ops Q C ((d, undef) :: L) H rest) : WL P ops Q C L H (o :: rest) := by
 intro a w hf hp
 unfold wpList
 rw [j9 hf hw]
 simp only [Bool.false_eq_true, if_false, hd]
 exact h _ _ (hf.put hn undef) hp
theorem WL.nil (h : QX Q .normal C L H) : WL P ops Q C L H [] := fun a w hf hp => h a w hf hp
theorem WL.end_ {K : Act → World → Prop} (h : KX K C L H) : WL P ops (Exit.then K Q) C L H [] := fun a w hf hp => h a w hf hp
theorem aks {Q : Exit → Act → World → Prop} {l2 : List Oper} : ∀ {l1 : List Oper} {a : Act} {w : World}, wpList P ops (Exit.then (wpList P ops Q l2) Q) l1 a w → wpList P ops Q (l1 ++ l2) a w
 | [], _, _, h => h
 | o :: l1, a, w, h => by
  have ih : ∀ {a w}, wpList P ops (Exit.then (wpList P ops Q l2) Q) l1 a w → wpList P ops Q (l1 ++ l2) a w := aks
  rw [List.cons_append]
  unfold wpList at h ⊢
  split
  ·rename_i hw
   rw [if_pos hw] at h
   rcases h with h | ⟨h1, h2⟩
   ·left
    unfold Oper.wp at h ⊢
    generalize (execOp a.eval o).run P w = r at h ⊢
    cases r with
    | ok m w' =>
     cases m <;> simp only [Oper.upon] at h ⊢ <;>
      first
       | exact ih h
       | exact Calls.mono h (fun e w'' he => by cases e <;> first | exact ih he | exact he | (obtain ⟨a0, w0, h0⟩ := he; exact ⟨a0, w0, h0⟩))
       | exact Rows.mono h (fun _ _ he => ih he)
    | halt x w' => cases x <;> simp only [Oper.upon] at h ⊢ <;> exact h
   ·exact .inr ⟨h1, by obtain ⟨a0, w0, h0⟩ := h2; exact ⟨a0, w0, h0⟩⟩
  ·rename_i hw
   rw [if_neg hw] at h
   exact ih h
theorem WL.cut {l : List Oper} (k : Nat) (Lj : Sl) (hj : WL P ops Q C Lj H (l.drop k)) (h : ∀ K : Act → World → Prop, KX K C Lj H → WL P ops (Exit.then K Q) C L H (l.take k)) : WL P ops Q C L H l := by
 intro a w hf hp
 have := aks (P := P) (ops := ops) (Q := Q) (l1 := l.take k) (l2 := l.drop k) (h _ hj a w hf hp)
 rwa [List.take_append_drop] at this
theorem WL.split {l : List Oper} (b : Bool) (ht : b = true → WL P ops Q C L H l) (hf : b = false → WL P ops Q C L H l) : WL P ops Q C L H l := by
 cases b
 ·exact hf rfl
 ·exact ht rfl
section ov
variable {x y z : Operand} {u v : Value} {t t' ty : TypeId} {d : Option Tmp} {p : String} {e : Array Edge} {g : Option (Nat × Bool)} {n m : Int} {k k' : IntKind}
theorem OV.move (hx : ev L x = some v) : OV P C L H ⟨d, .move x, ty, p, e, g⟩ v := fun a w hf _ => by simp [execOp, hf.ev hx]
theorem OV.assign (hx : ev L x = some v) : OV P C L H ⟨d, .assign x, ty, p, e, g⟩ v := fun a w hf _ => by simp [execOp, hf.ev hx]
theorem OV.pick {b : Bool} (hc : ev L x = some (.bool b)) (hy : ev L y = some u) (hz : ev L z = some v) {r : Value} (hr : (if b then u else v) = r) : OV P C L H ⟨d, .pick x y z, ty, p, e, g⟩ r := fun a w hf _ => by
 subst hr; cases b <;> simp [execOp, hf.ev hc, hf.ev hy, hf.ev hz, asBool]
theorem OV.pickT (hc : ev L x = some (.bool true)) (hy : ev L y = some u) : OV P C L H ⟨d, .pick x y z, ty, p, e, g⟩ u := fun a w hf _ => by simp [execOp, hf.ev hc, hf.ev hy, asBool]
theorem OV.pickF (hc : ev L x = some (.bool false)) (hz : ev L z = some v) : OV P C L H ⟨d, .pick x y z, ty, p, e, g⟩ v := fun a w hf _ => by simp [execOp, hf.ev hc, hf.ev hz, asBool]
theorem OV.not {b : Bool} (hx : ev L x = some (.bool b)) : OV P C L H ⟨d, .unOp .not t x, ty, p, e, g⟩ (.bool (!b)) := fun a w hf _ => by simp [execOp, hf.ev hx, Op.unary]
def I64 (n : Int) : Prop := -9223372036854775808 ≤ n ∧ n ≤ 9223372036854775807
theorem I64.wrap {n : Int} (h : I64 n) : IntKind.i64.wrap n = n := IntWalk.i64_in _ ⟨by have := h.1; omega, by have := h.2; omega⟩
theorem OV.add (hx : ev L x = some (.int .i64 n)) (hy : ev L y = some (.int .i64 m)) (hb : I64 (n + m)) : OV P C L H ⟨d, .binOp .add t x y t', ty, p, e, g⟩ (.int .i64 (n + m)) := fun a w hf _ => by
 simp [execOp, hf.ev hx, hf.ev hy, eqGuard, binOp, Op.intArith, hb.wrap]
theorem OV.sub (hx : ev L x = some (.int .i64 n)) (hy : ev L y = some (.int .i64 m)) (hb : I64 (n - m)) : OV P C L H ⟨d, .binOp .sub t x y t', ty, p, e, g⟩ (.int .i64 (n - m)) := fun a w hf _ => by
 simp [execOp, hf.ev hx, hf.ev hy, eqGuard, binOp, Op.intArith, hb.wrap]
theorem OV.mul (hx : ev L x = some (.int .i64 n)) (hy : ev L y = some (.int .i64 m)) (hb : I64 (n * m)) : OV P C L H ⟨d, .binOp .mul t x y t', ty, p, e, g⟩ (.int .i64 (n * m)) := fun a w hf _ => by
 simp [execOp, hf.ev hx, hf.ev hy, eqGuard, binOp, Op.intArith, hb.wrap]
theorem OV.subW (hx : ev L x = some (.int k n)) (hy : ev L y = some (.int k m)) : OV P C L H ⟨d, .binOp .sub t x y t', ty, p, e, g⟩ (.int k (k.wrap (n - m))) := fun a w hf _ => by
 simp [execOp, hf.ev hx, hf.ev hy, eqGuard, binOp, Op.intArith]
theorem OV.lss (hx : ev L x = some (.int k n)) (hy : ev L y = some (.int k m)) : OV P C L H ⟨d, .binOp .lss t x y t', ty, p, e, g⟩ (.bool (decide (n < m))) := fun a w hf _ => by
 simp [execOp, hf.ev hx, hf.ev hy, eqGuard, binOp, Op.intCmp]
theorem OV.leq (hx : ev L x = some (.int k n)) (hy : ev L y = some (.int k m)) : OV P C L H ⟨d, .binOp .leq t x y t', ty, p, e, g⟩ (.bool (decide (n ≤ m))) := fun a w hf _ => by
 simp [execOp, hf.ev hx, hf.ev hy, eqGuard, binOp, Op.intCmp]
theorem OV.gtr (hx : ev L x = some (.int k n)) (hy : ev L y = some (.int k m)) : OV P C L H ⟨d, .binOp .gtr t x y t', ty, p, e, g⟩ (.bool (decide (m < n))) := fun a w hf _ => by
 simp [execOp, hf.ev hx, hf.ev hy, eqGuard, binOp, Op.intCmp]
theorem OV.geq (hx : ev L x = some (.int k n)) (hy : ev L y = some (.int k m)) : OV P C L H ⟨d, .binOp .geq t x y t', ty, p, e, g⟩ (.bool (decide (m ≤ n))) := fun a w hf _ => by
 simp [execOp, hf.ev hx, hf.ev hy, eqGuard, binOp, Op.intCmp]
theorem OV.eql (hx : ev L x = some (.int k n)) (hy : ev L y = some (.int k m)) : OV P C L H ⟨d, .binOp .eql t x y t', ty, p, e, g⟩ (.bool (decide (n = m))) := fun a w hf _ => by
 have : (n == m) = decide (n = m) := by rw [Bool.eq_iff_iff]; simp
 simp [execOp, hf.ev hx, hf.ev hy, eqGuard, binOp, Op.intCmp, this]
theorem OV.neq (hx : ev L x = some (.int k n)) (hy : ev L y = some (.int k m)) : OV P C L H ⟨d, .binOp .neq t x y t', ty, p, e, g⟩ (.bool (!decide (n = m))) := fun a w hf _ => by
 have : (n != m) = !decide (n = m) := by rw [Bool.eq_iff_iff]; simp
 simp [execOp, hf.ev hx, hf.ev hy, eqGuard, binOp, Op.intCmp, this]
theorem s6 {t : TypeId} {dd : TypeDesc} (h : P.underlying t = some dd) (w : World) : (underlying t).run P w = .ok dd w := run_underlying h w
theorem aos {t t' : TypeId} {k k' : IntKind} {n : Int} (hs : (P.underlying t).isSome = true) (ht : P.underlying t' = some (.int k)) (w : World) : (convert t t' (.int k' n)).run P w = .ok (.int k (k.wrap n)) w := by
 obtain ⟨ds, hd⟩ := Option.isSome_iff_exists.1 hs
 unfold convert
 rw [Sem.run_bind, s6 hd, Result.andThen_ok, Sem.run_bind, s6 ht, Result.andThen_ok]
 rfl
theorem OV.conv (hx : ev L x = some (.int k' n)) (hs : (P.underlying t).isSome = true) (ht : P.underlying t' = some (.int k)) : OV P C L H ⟨d, .convert t t' x, ty, p, e, g⟩ (.int k (k.wrap n)) := fun a w hf _ => by
 simp [execOp, hf.ev hx, aos hs ht]
theorem OV.conv64 (hx : ev L x = some (.int k' n)) (hs : (P.underlying t).isSome = true) (ht : P.underlying t' = some (.int .i64)) (hb : I64 n) : OV P C L H ⟨d, .convert t t' x, ty, p, e, g⟩ (.int .i64 n) := fun a w hf _ => by
 simp [execOp, hf.ev hx, aos hs ht, hb.wrap]
theorem OV.extract {vs : Array Value} (i : Nat) (hx : ev L x = some (.tuple vs)) (hi : vs[i]? = some v) : OV P C L H ⟨d, .extract x i, ty, p, e, g⟩ v := fun a w hf _ => by
 simp [execOp, hf.ev hx, Instr.extract, hi]
theorem OV.nilCheck {ad : Addr} (hx : ev L x = some (.pointer (some ad))) : OV P C L H ⟨d, .nilCheck x, ty, p, e, g⟩ (.pointer (some ad)) := fun a w hf _ => by
 simp [execOp, hf.ev hx]
theorem OV.iface (hx : ev L x = some v) (ht : P.concrete t = true) : OV P C L H ⟨d, .makeInterface t x, ty, p, e, g⟩ (.iface t v) := fun a w hf _ => by
 simp [execOp, hf.ev hx, run_makeInterface w t v ht]
end ov
end Go.Proofs.YtifajndacnfcbaaDoor
namespace Go.Proofs.YtifajndacnfcbaaDoor
open Go Go.RowKit
variable {P : Program} {ops : Array Oper} {Q : Exit → Act → World → Prop} {C : Cx} {L : Sl} {H : List HA} {rest : List Oper} {o : Oper}
abbrev st (l : List UInt8) : Value := .string ⟨l.toArray⟩
def At (C : Cx) (H : List HA) (b : Nat) (o : Obj) : Prop := ∀ w, Hp C H w → w.heap[b]? = some o
theorem At.own {b : Nat} {ob : Obj} (i : Nat) (hi : H[i]? = some (.blk b ob)) : At C H b ob := fun _ hp => hp.blk hi
theorem At.ro {b : Nat} {ob : Obj} (i : Nat) (hi : C.R[i]? = some (b, ob)) : At C H b ob := fun _ hp => hp.old (List.mem_of_getElem? hi)
theorem At.old {b : Nat} {ob : Obj} (hb : (b, ob) ∈ C.R) : At C H b ob := fun _ hp => hp.old hb
def aal (P : Program) (t : TypeId) : Bool := match P.underlying t with | some d => !d.isRow | none => false
def f6 (P : Program) (t : TypeId) (i : Nat) : Option Nat := match P.underlying t with
 | some (.struct fs) => match fs[i]? with
  | some f => match (P.info? f.type).map (·.size) with
   | some n => if n = 0 then none else some f.offset
   | none => none
  | none => none
 | _ => none
def o8 (P : Program) (t : TypeId) (n : Nat) : Bool := (P.info? t).map (·.size) == some n
theorem aes {t : TypeId} {n : Nat} (h : o8 P t n = true) (w : World) : (sizeOf t).run P w = .ok n w := by
 unfold o8 at h
 cases hq : P.info? t with
 | none => simp [hq] at h
 | some i => simp [hq] at h; simp [sizeOf, typeInfo, hq, h]
theorem aaq {t : TypeId} (h : aal P t = true) (w : World) : (isAgg t).run P w = .ok false w := by
 unfold aal at h
 split at h
 ·rename_i d hd
  unfold isAgg
  rw [Sem.run_bind, s6 hd]
  cases d <;> simp_all
 ·cases h
def av7 (P : Program) (t e : TypeId) (n sz : Nat) : Bool := (match P.underlying t with | some (.array m f) => m == n && f == e | _ => false) && o8 P e sz
def slB (P : Program) (t e : TypeId) (sz : Nat) : Bool := (match P.underlying t with | some (.slice f) => f == e | _ => false) && o8 P e sz
theorem asn {t e : TypeId} {n sz : Nat} (h : av7 P t e n sz = true) : P.underlying t = some (.array n e) ∧ o8 P e sz = true := by
 unfold av7 at h
 rw [Bool.and_eq_true] at h
 refine ⟨?_, h.2⟩
 have h1 := h.1
 split at h1
 ·rename_i m f hd; simp at h1; rw [hd, h1.1, h1.2]
 ·cases h1
theorem w7 {t e : TypeId} {sz : Nat} (h : slB P t e sz = true) : P.underlying t = some (.slice e) ∧ o8 P e sz = true := by
 unfold slB at h
 rw [Bool.and_eq_true] at h
 refine ⟨?_, h.2⟩
 have h1 := h.1
 split at h1
 ·rename_i f hd; simp at h1; rw [hd, h1]
 ·cases h1
def ane (P : Program) (t : TypeId) : Bool := match P.underlying t with | some .string => true | _ => false
theorem aby {t : TypeId} (h : ane P t = true) : P.underlying t = some .string := by
 unfold ane at h; split at h
 ·assumption
 ·cases h
section ov
variable {x y z : Operand} {u v : Value} {t t' ty e' : TypeId} {d : Option Tmp} {p : String} {e : Array Edge} {g : Option (Nat × Bool)} {n m : Int} {k k' : IntKind} {b off sz : Nat}
theorem OV.fieldAddr {i f : Nat} (hx : ev L x = some (.pointer (some ⟨b, off, none⟩))) (hf : f6 P t i = some f) : OV P C L H ⟨d, .fieldAddr t x i, ty, p, e, g⟩ (.pointer (some ⟨b, off + f, none⟩)) := fun a w hfr _ => by
 unfold f6 at hf
 split at hf
 ·rename_i fs hu
  split at hf
  ·rename_i fl hfl
   split at hf
   ·rename_i nn hs
    have hsz : (sizeOf fl.type).run P w = .ok nn w := aes (by unfold o8; rw [hs]; simp) w
    split at hf
    ·cases hf
    ·rename_i hnz
     have hf' : fl.offset = f := by simpa using hf
     simp [execOp, hfr.ev hx, Instr.fieldAt, s6 hu, hfl, Instr.sureAddr, fieldPlace, hsz, hnz, hf', Addr.add_mid]
   ·cases hf
  ·cases hf
 ·cases hf
theorem OV.fieldAddr0 {i : Nat} (hx : ev L x = some (.pointer (some ⟨b, 0, none⟩))) {f : Nat} (hf : f6 P t i = some f) : OV P C L H ⟨d, .fieldAddr t x i, ty, p, e, g⟩ (.pointer (some ⟨b, f, none⟩)) := by
 have := OV.fieldAddr (C := C) (H := H) (d := d) (ty := ty) (p := p) (e := e) (g := g) hx hf
 rwa [Nat.zero_add] at this
theorem OV.indexSl {nn cap : Nat} {i : Int} (hx : ev L x = some (.slice (some ⟨b, off, none⟩) nn cap)) (hy : ev L y = some (.int k i)) (ht : slB P t e' sz = true) (hb : 0 ≤ i ∧ i < nn) {off' : Nat} (he : off + i.toNat * sz = off') :
  OV P C L H ⟨d, .indexAddr t x y, ty, p, e, g⟩ (.pointer (some ⟨b, off', none⟩)) := fun a w hfr _ => by
 obtain ⟨hu, hs⟩ := w7 ht
 subst he
 simp [execOp, hfr.ev hx, hfr.ev hy, Instr.indexAt, s6 hu, asIntOf, hb, aes hs, Addr.add_mid]
theorem OV.load {cs : List Value} {T : TypeId} {fr : Nat × Nat} (hx : ev L x = some (.pointer (some ⟨b, off, none⟩))) (hb : At C H b (.cells cs.toArray T fr)) (hc : cs[off]? = some v) (ht : aal P t = true) :
  OV P C L H ⟨d, .load t x, ty, p, e, g⟩ v := fun a w hfr hp => by
 have hcell : w.cell? ⟨b, off, none⟩ = some v := by simp [World.cell?, hb w hp, hc]
 simp [execOp, hfr.ev hx, Instr.loadAt, Instr.sureAddr, loadVar, aaq ht, hcell]
theorem ale {cs : List Value} {T : TypeId} {fr : Nat × Nat} {w : World} (hb : w.heap[b]? = some (.cells cs.toArray T fr)) {vs : List Value} (hv : (cs.drop off).take vs.length = vs) : w.rangeAt b off vs := fun j u hj => by
 have hlt : j < vs.length := (List.getElem?_eq_some_iff.1 hj).1
 have : cs[off + j]? = some u := by
  rw [← hv] at hj
  rw [List.getElem?_take, if_pos hlt, List.getElem?_drop] at hj
  exact hj
 simp [World.cell?, hb, this]
theorem OV.loadM {cs vs : List Value} {T : TypeId} {fr : Nat × Nat} (hx : ev L x = some (.pointer (some ⟨b, off, none⟩))) (hb : At C H b (.cells cs.toArray T fr)) (hv : (cs.drop off).take vs.length = vs) (ht : RowT P t vs.length) :
  OV P C L H ⟨d, .load t x, ty, p, e, g⟩ (.agg vs.toArray) := fun a w hfr hp => by
 obtain ⟨dd, hu, hd⟩ : ∃ dd, P.underlying t = some dd ∧ dd.isRow = true := by
  rcases ht.desc with ⟨_, h⟩ | ⟨_, _, h⟩ <;> exact ⟨_, h, rfl⟩
 simp [execOp, hfr.ev hx, run_loadAt_mid w b off t vs dd (ale (hb w hp) hv) hu hd ht.size]
theorem OV.loadR {cs : List Value} {T : TypeId} {fr : Nat × Nat} (hx : ev L x = some (.pointer (some ⟨b, 0, none⟩))) (hb : At C H b (.cells cs.toArray T fr)) (ht : RowT P t cs.length) :
  OV P C L H ⟨d, .load t x, ty, p, e, g⟩ (.agg cs.toArray) := OV.loadM hx hb (by simp) ht
theorem OV.index {l : List UInt8} {i : Int} (hx : ev L x = some (st l)) (hy : ev L y = some (.int k i)) (ht : ane P t = true) (hb : 0 ≤ i ∧ i < l.length) : OV P C L H ⟨d, .index t x y, ty, p, e, g⟩ (.int .u8 ((l.getD i.toNat 0).toNat : Int)) := fun a w hf _ => by
 have hlt : i.toNat < l.length := by omega
 have hc : 0 ≤ i ∧ i < (ByteArray.size ⟨l.toArray⟩ : Nat) := by simpa [ByteArray.size] using hb
 have hg : (ByteArray.mk l.toArray)[i.toNat]'(by simpa [ByteArray.size] using hlt) = l.getD i.toNat 0 := by
  rw [List.getD_eq_getElem?_getD, List.getElem?_eq_getElem hlt]
  show l.toArray[i.toNat]'_ = _
  simp
 simp only [execOp, hf.ev hx, hf.ev hy, Sem.run_bind, run_index_string w t _ k i (aby ht), dif_pos hc, hg, Result.andThen_ok, Sem.run_pure]
theorem OV.len {l : List UInt8} (hx : ev L x = some (st l)) (ht : ane P t = true) : OV P C L H ⟨d, .call ⟨.builtin .len, #[x], #[t]⟩, ty, p, e, g⟩ (.int .i64 (l.length : Int)) := fun a w hf _ => by
 have := run_len_string (P := P) w t ty ⟨l.toArray⟩ (aby ht)
 simp only [execOp, resolve, invoke, builtin, Sem.run_bind, Sem.run_pure, Result.andThen_ok, List.map_toArray, List.map_cons, List.map_nil, hf.ev hx, this]
 simp [goInt, ByteArray.size]
theorem OV.lenS {a0 : Option Addr} {nn cap : Nat} (hx : ev L x = some (.slice a0 nn cap)) (ht : slB P t e' sz = true) : OV P C L H ⟨d, .call ⟨.builtin .len, #[x], #[t]⟩, ty, p, e, g⟩ (.int .i64 (nn : Int)) := fun a w hf _ => by
 have hu := (w7 ht).1
 have : (Builtin.len_ #[t] ty #[.slice a0 nn cap]).run P w = .ok (goInt nn) w := by simp [Builtin.len_, s6 hu]
 simp only [execOp, resolve, invoke, builtin, Sem.run_bind, Sem.run_pure, Result.andThen_ok, List.map_toArray, List.map_cons, List.map_nil, hf.ev hx, this]
 rfl
theorem OV.cat {l r : List UInt8} (hx : ev L x = some (st l)) (hy : ev L y = some (st r)) (hb : l.length + r.length ≤ 9223372036854775807) : OV P C L H ⟨d, .binOp .add t x y t', ty, p, e, g⟩ (st (l ++ r)) := fun a w hf _ => by
 have h1 := run_string_add_sum (P := P) w ⟨l.toArray⟩ ⟨r.toArray⟩ (by simpa [ByteArray.size] using hb)
 have h2 : binOp .add t (st l) (st r) = Op.stringOp .add ⟨l.toArray⟩ ⟨r.toArray⟩ := rfl
 simp only [execOp, hf.ev hx, hf.ev hy, eqGuard_add, Sem.run_bind, Sem.run_pure, Result.andThen_ok, h2, h1]
 rw [ByteArray.mk_append_mk]
theorem OV.eqlS {l r : List UInt8} (hx : ev L x = some (st l)) (hy : ev L y = some (st r)) : OV P C L H ⟨d, .binOp .eql t x y t', ty, p, e, g⟩ (.bool (decide (l = r))) := fun a w hf _ => by
 have h2 : binOp .eql t (st l) (st r) = pure (.bool ((⟨l.toArray⟩ : ByteArray).toList == (⟨r.toArray⟩ : ByteArray).toList)) := rfl
 have h3 : ((⟨l.toArray⟩ : ByteArray).toList == (⟨r.toArray⟩ : ByteArray).toList) = decide (l = r) := by
  rw [ByteArray.toList_eq, ByteArray.toList_eq, Bool.eq_iff_iff]; simp
 simp only [execOp, hf.ev hx, hf.ev hy, eqGuard_at_string, Sem.run_bind, Sem.run_pure, Result.andThen_ok, h2, h3]
theorem OV.neqS {l r : List UInt8} (hx : ev L x = some (st l)) (hy : ev L y = some (st r)) : OV P C L H ⟨d, .binOp .neq t x y t', ty, p, e, g⟩ (.bool (!decide (l = r))) := fun a w hf _ => by
 have h2 : binOp .neq t (st l) (st r) = pure (.bool (!((⟨l.toArray⟩ : ByteArray).toList == (⟨r.toArray⟩ : ByteArray).toList))) := rfl
 have h3 : ((⟨l.toArray⟩ : ByteArray).toList == (⟨r.toArray⟩ : ByteArray).toList) = decide (l = r) := by
  rw [ByteArray.toList_eq, ByteArray.toList_eq, Bool.eq_iff_iff]; simp
 simp only [execOp, hf.ev hx, hf.ev hy, eqGuard_at_string, Sem.run_bind, Sem.run_pure, Result.andThen_ok, h2, h3]
end ov
end Go.Proofs.YtifajndacnfcbaaDoor
namespace Go.Proofs.YtifajndacnfcbaaDoor
open Go Go.RowKit
variable {P : Program} {ops : Array Oper} {Q : Exit → Act → World → Prop} {C : Cx} {L : Sl} {H : List HA} {rest : List Oper} {o : Oper}
def MV (P : Program) (C : Cx) (L : Sl) (H : List HA) (o : Oper) (Z : Obj) (f : Nat → Value) : Prop := ∀ a w, Fr C L a → Hp C H w → (execOp a.eval o).run P w = .ok (.value (f w.heap.size)) (w.alloc Z)
theorem WL.make {Z : Obj} {f : Nat → Value} {d : Nat} (hv : MV P C L H o Z f) (hw : p7 ops L o = some true) (hd : o.dst = some d) (hn : Nat.blt d C.n = true) (h : ∀ b, WL P ops Q C ((d, f b) :: L) (.blk b Z :: H) rest) : WL P ops Q C L H (o :: rest) := by
 intro a w hf hp
 refine s7 (j9 hf hw) ?_
 unfold Oper.wp
 rw [hv a w hf hp]
 simp only [Oper.upon, hd]
 exact h _ _ _ (hf.put hn _) (hp.alloc Z)
section mv
variable {x y z : Operand} {u v : Value} {t t' ty e' : TypeId} {d : Option Tmp} {p : String} {e : Array Edge} {g : Option (Nat × Bool)} {n m : Int} {k k' : IntKind} {b off sz : Nat}
def ab0 (P : Program) (t : TypeId) : Option (List Value) := ((P.info? t).bind (·.zero)).map (·.cells.toList)
theorem MV.alloc {cs : List Value} (hz : ab0 P t = some cs) : MV P C L H ⟨d, .alloc t, ty, p, e, g⟩ (.cells cs.toArray t (0, 0)) (fun b => .pointer (some ⟨b, 0, none⟩)) := fun a w _ _ => by
 unfold ab0 at hz
 cases hq : P.info? t with
 | none => simp [hq] at hz
 | some i =>
  cases hz2 : i.zero with
  | none => simp [hq, hz2] at hz
  | some zv =>
   simp only [hq, hz2, Option.bind_some, Option.map_some, Option.some.injEq] at hz
   subst hz
   have hzr : (zeroValue t).run P w = .ok zv w := by simp [zeroValue, typeInfo, hq, hz2]
   simp only [execOp, Instr.alloc, Sem.run_bind, hzr, Result.andThen_ok, Sem.run_pure, newVar, newRow, newObj, Array.toArray_toList]
   rfl
theorem MV.box {cs : List Value} (hx : ev L x = some v) (hc : v.cells = cs.toArray) : MV P C L H ⟨d, .box t x, ty, p, e, g⟩ (.cells cs.toArray t (0, 0)) (fun b => .pointer (some ⟨b, 0, none⟩)) := fun a w hf _ => by
 simp only [execOp, Instr.box, hf.ev hx, hc, Sem.run_bind, Sem.run_pure, newVar, newRow, newObj]
 rfl
def evs (L : Sl) : List Operand → Option (List Value)
 | [] => some []
 | x :: r => match ev L x, evs L r with
  | some v, some vs => some (v :: vs)
  | _, _ => none
theorem af7 {a : Act} (hf : Fr C L a) : ∀ {xs : List Operand} {vs : List Value}, evs L xs = some vs → xs.map a.eval = vs
 | [], vs, h => by simp [evs] at h; simp [h]
 | x :: r, vs, h => by
  unfold evs at h
  split at h
  ·rename_i v ws h1 h2
   simp only [Option.some.injEq] at h
   rw [← h, List.map_cons, hf.ev h1, af7 hf h2]
  ·cases h
def evp (L : Sl) : List (Nat × Operand) → Option (List (Nat × Value))
 | [] => some []
 | x :: r => match ev L x.2, evp L r with
  | some v, some vs => some ((x.1, v) :: vs)
  | _, _ => none
theorem akv {a : Act} (hf : Fr C L a) : ∀ {xs : List (Nat × Operand)} {vs : List (Nat × Value)}, evp L xs = some vs → xs.map (fun q => (q.1, a.eval q.2)) = vs
 | [], vs, h => by simp [evp] at h; simp [h]
 | x :: r, vs, h => by
  unfold evp at h
  split at h
  ·rename_i v ws h1 h2
   simp only [Option.some.injEq] at h
   rw [← h, List.map_cons, hf.ev h1, akv hf h2]
  ·cases h
theorem OV.build {ps : List (Nat × Operand)} {vs : List (Nat × Value)} {cs : List Value} (hx : evp L ps = some vs) (hb : P.built t vs = some cs.toArray) : OV P C L H ⟨d, .build t ps.toArray, ty, p, e, g⟩ (.agg cs.toArray) := fun a w hf _ => by
 have h1 := akv hf hx
 have h2 : (ps.toArray.map fun (i, x) => (i, a.eval x)).toList = vs := by simpa using h1
 have h3 := run_build (P := P) w t (ps.toArray.map fun (i, x) => (i, a.eval x)) cs.toArray (by rw [h2]; exact hb)
 simp only [execOp, Sem.run_bind, h3, Result.andThen_ok, Sem.run_pure]
theorem MV.buildSlice {ps : List (Nat × Operand)} {vs : List (Nat × Value)} {cs : List Value} {len : Nat} (hx : evp L ps = some vs) (hs : slB P t e' sz = true) (hb : P.builtSlice e' len vs = some cs.toArray) :
  MV P C L H ⟨d, .buildSlice t len ps.toArray, ty, p, e, g⟩ (.cells cs.toArray e' (0, 0)) (fun b => .slice (some ⟨b, 0, none⟩) len len) := fun a w hf _ => by
 have h1 := akv hf hx
 have h2 : (ps.toArray.map fun (i, x) => (i, a.eval x)).toList = vs := by simpa using h1
 have hu := (w7 hs).1
 unfold Program.builtSlice at hb
 cases hie : P.info? e' with
 | none => simp [hie] at hb
 | some ie =>
  simp only [hie] at hb
  cases hz : ie.zero with
  | none => simp [hz] at hb
  | some z =>
   simp only [hz] at hb
   by_cases hc : len * ie.size > 2 ^ 24 ∨ len * ie.size = 0
   ·simp [hc] at hb
   ·rw [if_neg hc] at hb
    have hc1 : ¬ len * ie.size > 2 ^ 24 := fun h' => hc (.inl h')
    have hc2 : ¬ len * ie.size = 0 := fun h' => hc (.inr h')
    have hfill : Instr.fill (fun i => some (i * ie.size, ie.size)) ((Array.range (len * ie.size)).map (z.cells[· % z.cells.size]!)) (ps.toArray.map fun (i, x) => (i, a.eval x)).toList = some cs.toArray := by rw [h2]; exact hb
    have hzr : (zeroValue e').run P w = .ok z w := by simp [zeroValue, typeInfo, hie, hz]
    have hsr : (sizeOf e').run P w = .ok ie.size w := by simp [sizeOf, typeInfo, hie]
    simp only [execOp, Instr.buildSlice, Sem.run_bind, s6 hu, Result.andThen_ok, hsr, if_neg hc1, if_neg hc2, hzr, Sem.run_pure, hfill, newRow, newObj]
    rfl
theorem OV.sliceS {l : List UInt8} {i j : Int} (hx : ev L x = some (st l)) (hy : ev L y = some (.int k i)) (hz : ev L z = some (.int k' j)) (ht : ane P t = true) (hb : 0 ≤ i ∧ i ≤ j ∧ j ≤ l.length) :
  OV P C L H ⟨d, .slice t x (some y) (some z) none, ty, p, e, g⟩ (st ((l.drop i.toNat).take (j.toNat - i.toNat))) := fun a w hf _ => by
 have hu := aby ht
 have h1 := run_slice_string (P := P) w t ⟨l.toArray⟩ k k' i j hu hb.1 hb.2.1 (by simpa [ByteArray.size] using hb.2.2)
 have h2 : (⟨l.toArray⟩ : ByteArray).extract i.toNat j.toNat = ⟨((l.drop i.toNat).take (j.toNat - i.toNat)).toArray⟩ := by
  rw [ByteArray.ext_iff]; simp [ByteArray.data_extract]
 have h3 : Instr.sliceAt t (st l) (some (.int k i)) (some (.int k' j)) none = (do match ← underlying t with | .array n elem => (do let a ← Instr.sureAddr (st l); let (l', h, m) ← Instr.sliceBounds false n n (some (.int k i)) (some (.int k' j)) none; let size ← sizeOf elem; pure (.slice (some (if m = l' then a else a.add (l' * size))) (h - l') (m - l'))) | _ => Instr.slice t (st l) (some (.int k i)) (some (.int k' j)) none) := rfl
 rw [h2] at h1
 simp only [execOp, Option.map_some, Option.map_none, hf.ev hx, hf.ev hy, hf.ev hz, Sem.run_bind, run_sliceAt_string (P := P) w t _ _ _ _ hu, h1, Result.andThen_ok, Sem.run_pure]
end mv
def OpK (P : Program) (o : Oper) (Q : Exit → Act → World → Prop) (C : Cx) (L : Sl) (H : List HA) (L' : Sl) (H' : List HA) : Prop :=
 ∀ K : Act → World → Prop, (∀ a w, Fr C L' a → Hp C H' w → K a w) → ∀ a w, Fr C L a → Hp C H w → o.wp P a w K Q
theorem WL.op {L' : Sl} {H' : List HA} (hop : OpK P o Q C L H L' H') (hw : p7 ops L o = some true) (h : WL P ops Q C L' H' rest) : WL P ops Q C L H (o :: rest) :=
 fun a w hf hp => s7 (j9 hf hw) (hop _ h a w hf hp)
theorem OpK.val {v : Value} {d : Nat} (hv : OV P C L H o v) (hd : o.dst = some d) (hn : Nat.blt d C.n = true) : OpK P o Q C L H ((d, v) :: L) H := by
 intro K hK a w hf hp
 unfold Oper.wp
 rw [hv a w hf hp]
 simp only [Oper.upon, hd]
 exact hK _ _ (hf.put hn v) hp
theorem OpK.store {x y : Operand} {t ty T : TypeId} {p : String} {e : Array Edge} {g : Option (Nat × Bool)} {b off : Nat} {v : Value} {cs vs cs' : List Value} (i : Nat)
  (hx : ev L x = some (.pointer (some ⟨b, off, none⟩))) (hy : ev L y = some v) (hi : H[i]? = some (.blk b (.cells cs.toArray T (0, 0)))) (hv : v.cells = vs.toArray) (hs : o8 P t vs.length = true)
  (hfit : off + vs.length ≤ cs.length) (h1 : vs.all (·.oneCell') = true) (he : cs.take off ++ vs ++ cs.drop (off + vs.length) = cs') :
  OpK P ⟨none, .store t x y, ty, p, e, g⟩ Q C L H L (H.set i (.blk b (.cells cs'.toArray T (0, 0)))) := by
 intro K hK a w hf hp
 have hb := hp.blk hi
 have hrun := run_storeCells_at (P := P) b off T vs 0 cs.toArray w hb (by simpa using hfit) (by simpa using h1)
 simp only [Nat.add_zero] at hrun
 rw [he] at hrun
 have hst : (storeVar t ⟨b, off, none⟩ v).run P w = .ok () (w.setRow b cs'.toArray) := by
  simp only [storeVar, Sem.run_bind, aes hs, Result.andThen_ok, hv, List.size_toArray, ne_eq, not_true_eq_false, if_false, hrun]
 unfold Oper.wp
 simp only [execOp, hf.ev hx, hf.ev hy, Instr.storeAt, Instr.sureAddr, Sem.run_bind, Sem.run_pure, Result.andThen_ok, hst, Oper.upon]
 refine hK _ _ (hf.put0 _) (hp.set hi rfl rfl rfl ?_ (fun k hk => setRow_other w b k _ hk) (aer hb))
 simp [World.setRow]
theorem WL.store {x y : Operand} {t ty T : TypeId} {p : String} {e : Array Edge} {g : Option (Nat × Bool)} {b off : Nat} {v : Value} {cs vs cs' : List Value} (i : Nat)
  (hx : ev L x = some (.pointer (some ⟨b, off, none⟩))) (hy : ev L y = some v) (hi : H[i]? = some (.blk b (.cells cs.toArray T (0, 0)))) (hv : v.cells = vs.toArray) (hs : o8 P t vs.length = true)
  (hfit : off + vs.length ≤ cs.length) (h1 : vs.all (·.oneCell') = true) (he : cs.take off ++ vs ++ cs.drop (off + vs.length) = cs') (hw : p7 ops L ⟨none, .store t x y, ty, p, e, g⟩ = some true)
  (h : WL P ops Q C L (H.set i (.blk b (.cells cs'.toArray T (0, 0)))) rest) : WL P ops Q C L H (⟨none, .store t x y, ty, p, e, g⟩ :: rest) :=
 WL.op (OpK.store i hx hy hi hv hs hfit h1 he) hw h
inductive Out where
 | ret (v : Value) (H : List HA)
 | pan (c : List PanicEntry) (H : List HA)
def ahf (S : Out → Prop) (e : Ending) (H' : List HA) : Prop := (∃ v, e = .returned v ∧ S (.ret v H')) ∨ (∃ c, e = .panicked c ∧ S (.pan c H'))
def d9 (P : Program) (f : FuncId) (args : List Value) (R : List (Nat × Obj)) (A : List HA) (S : Out → Prop) : Prop :=
 ∀ w M, Own w A M → M.Nodup → (∀ k ∈ M, k < w.heap.size) → (∀ p ∈ R, w.heap[p.1]? = some p.2 ∧ p.1 ∉ M) → Calls P f args.toArray w (fun e w' => ∃ H', ahf S e H' ∧ Hp ⟨0, [], w, M, R⟩ H' w')
def Ret (v : Value) (A' : List HA) : Out → Prop := fun o => o = .ret v A'
def ROk (C : Cx) (Rest : List HA) : List (Nat × Obj) → Prop
 | [] => True
 | p :: r => ((∃ i : Nat, Rest[i]? = some (HA.blk p.1 p.2)) ∨ p ∈ C.R) ∧ ROk C Rest r
theorem ROk.all {Rest : List HA} : ∀ {R : List (Nat × Obj)}, ROk C Rest R → ∀ p ∈ R, (∃ i : Nat, Rest[i]? = some (HA.blk p.1 p.2)) ∨ p ∈ C.R
 | [], _, p, hp => by cases hp
 | q :: r, h, p, hp => by
  rcases List.mem_cons.1 hp with rfl | hp
  ·exact h.1
  ·exact h.2.all p hp
theorem Own.mem_blk {w : World} : ∀ {H : List HA} {F : List Nat}, Own w H F → ∀ {i b : Nat} {ob : Obj}, H[i]? = some (.blk b ob) → b ∈ F
 | [], _, _, i, b, ob, h => by simp at h
 | x :: H, F, ⟨F1, F2, hF, h1, h2⟩, i, b, ob, h => by
  cases i with
  | zero =>
   simp at h
   subst h
   rw [hF, h1.1]; simp
  | succ i => rw [hF]; exact List.mem_append.2 (.inr (h2.mem_blk (i := i) (by simpa using h)))
theorem arw {f : FuncId} {args : List Value} {R : List (Nat × Obj)} {A Rest : List HA} {S : Out → Prop} {w : World} (hc : d9 P f args R A S) (hp : Hp C (A ++ Rest) w) (hR : ROk C Rest R) :
  Calls P f args.toArray w (fun e w' => ∃ H', ahf S e H' ∧ Hp C (H' ++ Rest) w') := by
 obtain ⟨F, h1, h2, h3⟩ := hp.own
 obtain ⟨F1, F2, rfl, hA, hB⟩ := h1.split
 have hn := List.nodup_append.1 h2
 refine (hc w F1 hA hn.1 (fun k hk => (h3 k (List.mem_append.2 (.inl hk))).1) ?_).mono ?_
 ·intro q hq
  rcases hR.all q hq with ⟨i, hi⟩ | hm
  ·refine ⟨hp.blk (i := A.length + i) (by rw [List.getElem?_append_right (by omega)]; simpa using hi), fun hm => ?_⟩
   exact hn.2.2 q.1 hm q.1 (hB.mem_blk hi) rfl
  ·refine ⟨hp.old hm, fun hk => ?_⟩
   have hro := hp.ro q hm
   have hlt := aa9 hro.1
   rcases (h3 q.1 (List.mem_append.2 (.inl hk))).2 with h4 | h4
   ·omega
   ·exact hro.2 h4
 ·rintro e w' ⟨H', hS, hh⟩
  exact ⟨H', hS, hp.call hB h2 h3 hh⟩
theorem ae8 {a : Act} {f : FuncId} {xs : List Operand} {ats : Array TypeId} {d : Option Tmp} {ty : TypeId} {p : String} {e : Array Edge} {g : Option (Nat × Bool)} {w : World} {vs : List Value} (he : k9 P f = true) (hf : Fr C L a) (hx : evs L xs = some vs) :
  (execOp a.eval ⟨d, .call ⟨.value (.func f), xs.toArray, ats⟩, ty, p, e, g⟩).run P w = .ok (.enter f vs.toArray) w := by
 rw [ar3 _ _ _ _ _ _ _ _ _ _ he]
 have : xs.toArray.map a.eval = vs.toArray := by rw [List.map_toArray, af7 hf hx]
 rw [this]
section call
variable {f : FuncId} {xs : List Operand} {ats : Array TypeId} {d : Nat} {ty : TypeId} {p : String} {e : Array Edge} {g : Option (Nat × Bool)} {vs : List Value} {R : List (Nat × Obj)} {A Rest : List HA} {S : Out → Prop} {v : Value} {A' : List HA}
theorem WL.callS (he : k9 P f = true) (hx : evs L xs = some vs) (hc : d9 P f vs R A S) (hH : H = A ++ Rest) (hR : ROk C Rest R) (hw : p7 ops L ⟨some d, .call ⟨.value (.func f), xs.toArray, ats⟩, ty, p, e, g⟩ = some true) (hn : Nat.blt d C.n = true)
  (h : ∀ r H', S (.ret r H') → WL P ops Q C ((d, r) :: L) (H' ++ Rest) rest) (hpan : ∀ c H', S (.pan c H') → QX Q (.panic c) C L (H' ++ Rest)) : WL P ops Q C L H (⟨some d, .call ⟨.value (.func f), xs.toArray, ats⟩, ty, p, e, g⟩ :: rest) := by
 intro a w hf hp
 subst hH
 refine s7 (j9 hf hw) ?_
 unfold Oper.wp
 rw [ae8 he hf hx]
 simp only [Oper.upon]
 refine (arw hc hp hR).mono ?_
 rintro en w' ⟨H', hS, hh⟩
 rcases hS with ⟨r, rfl, hS⟩ | ⟨c, rfl, hS⟩
 ·exact h r H' hS _ _ (hf.put hn r) hh
 ·exact hpan c H' hS _ _ hf hh
theorem WL.call (he : k9 P f = true) (hx : evs L xs = some vs) (hc : d9 P f vs R A (Ret v A')) (hH : H = A ++ Rest) (hR : ROk C Rest R) (hw : p7 ops L ⟨some d, .call ⟨.value (.func f), xs.toArray, ats⟩, ty, p, e, g⟩ = some true) (hn : Nat.blt d C.n = true)
  (h : WL P ops Q C ((d, v) :: L) (A' ++ Rest) rest) : WL P ops Q C L H (⟨some d, .call ⟨.value (.func f), xs.toArray, ats⟩, ty, p, e, g⟩ :: rest) :=
 WL.callS he hx hc hH hR hw hn (fun r H' hS => by cases hS; exact h) (fun c H' hS => by cases hS)
theorem d9.ofPure (h : ax0 P f vs.toArray v) : d9 P f vs [] [] (Ret v []) := fun w M hO hn _ _ => by
 have : M = [] := hO
 subst this
 refine (h w).mono ?_
 rintro en w' ⟨rfl, hb⟩
 exact ⟨[], .inl ⟨v, rfl, rfl⟩, (Hp.start 0 [] w (H := []) rfl hn (fun k hk => by cases hk) (fun p hp => by cases hp)).below hb⟩
theorem d9.weak {S' : Out → Prop} (h : d9 P f vs R A S) (hs : ∀ o, S o → S' o) : d9 P f vs R A S' := fun w M hO hn hl hr => (h w M hO hn hl hr).mono fun en w' ⟨H', hS, hh⟩ => ⟨H', by
  rcases hS with ⟨r, e1, hS⟩ | ⟨c, e1, hS⟩
  ·exact .inl ⟨r, e1, hs _ hS⟩
  ·exact .inr ⟨c, e1, hs _ hS⟩, hh⟩
end call
theorem WL.panic {x : Operand} {ty : TypeId} {p : String} {e : Array Edge} {g : Option (Nat × Bool)} {d : Option Tmp} {t : TypeId} {v : Value} (hx : ev L x = some (.iface t v)) (hw : p7 ops L ⟨d, .panic x, ty, p, e, g⟩ = some true)
  (h : QX Q (.panic [{ v := .iface t v, recovered := false }]) C L H) : WL P ops Q C L H (⟨d, .panic x, ty, p, e, g⟩ :: rest) := by
 intro a w hf hp
 refine s7 (j9 hf hw) ?_
 unfold Oper.wp
 have : (execOp a.eval ⟨d, .panic x, ty, p, e, g⟩).run P w = .halt (.panic (.iface t v)) w := by
  simp [execOp, hf.ev hx, Instr.panic, goPanic]
 rw [this]
 exact h _ _ hf hp
def d7 (P : Program) (fn : Func) (C : Cx) (L : Sl) (H : List HA) (v : Value) : Prop := ∀ a w, Fr C L a → Hp C H w → (results fn a.tmps).run P w = .ok v w
def auf (Q : Exit → Act → World → Prop) : Prop := ∀ c a d v w, Q (.panic c) (a.put d v) w → Q (.panic c) a w
structure Ends (P : Program) (fn : Func) (C : Cx) (S : Out → Prop) (Q : Exit → Act → World → Prop) : Prop where
 ret : ∀ {L : Sl} {H H' : List HA} {v : Value} (idx : List Nat), u4 idx = true → sel H idx = H' → S (.ret v H') → d7 P fn C L H v → QX Q .ret C L H
 norm : ∀ {L : Sl} {H H' : List HA} {v : Value} (idx : List Nat), u4 idx = true → sel H idx = H' → S (.ret v H') → d7 P fn C L H v → QX Q .normal C L H
 pan : ∀ {L : Sl} {H H' : List HA} {c : List PanicEntry} (idx : List Nat), u4 idx = true → sel H idx = H' → S (.pan c H') → QX Q (.panic c) C L H
theorem QX.pick {e : Exit} (idx : List Nat) (hi : u4 idx = true) {H' : List HA} (he : sel H idx = H') (h : QX Q e C L H') : QX Q e C L H := fun a w hf hp => h a w hf (he ▸ hp.pick idx hi)
theorem e8 {b : Bool} {A B : Prop} (h : if b = true then A else B) (hb : b = true) : A := by rw [if_pos hb] at h; exact h
theorem e9 {b : Bool} {A B : Prop} (h : if b = true then A else B) (hb : b = false) : B := by rw [if_neg (by simp [hb])] at h; exact h
theorem bT {b : Bool} {v : Bool} (hb : b = true) : Value.bool v = Value.bool (b && v) := by rw [hb]; rfl
theorem bF {b : Bool} {v : Bool} (hb : b = false) : Value.bool false = Value.bool (b && v) := by rw [hb]; rfl
theorem oT {b : Bool} {v : Bool} (hb : b = true) : Value.bool true = Value.bool (b || v) := by rw [hb]; rfl
theorem oF {b : Bool} {v : Bool} (hb : b = false) : Value.bool v = Value.bool (b || v) := by rw [hb]; rfl
theorem c8 {f : FuncId} {fn : Func} {c : Code} {args : List Value} {R : List (Nat × Obj)} {A : List HA} {S : Out → Prop} {L0 : Sl} {n : Nat} (hf : P.funcs[f]? = some fn) (hb : fn.body = some c) (hnt : fn.ntmps = n) (hl : Nat.ble args.length n = true)
  (hL : (List.range args.length).zip args = L0)
  (h : ∀ w0 M Q, Ends P fn ⟨n, [], w0, M, R⟩ S Q → WC P c Q ⟨n, [], w0, M, R⟩ L0 A) : d9 P f args R A S := by
 intro w M hO hn hlt hR
 subst hnt
 have hle : args.length ≤ fn.ntmps := Nat.le_of_ble_eq_true hl
 refine calls_of_wp hf hb ?_
 refine h w M _ ?_ _ _ ⟨rfl, ?_, ?_⟩ (Hp.start _ _ w hO hn hlt hR)
 ·refine ⟨fun idx hi he hS hr a w' hfr hp => ?_, fun idx hi he hS hr a w' hfr hp => ?_, fun idx hi he hS a w' hfr hp => ?_⟩
  ·exact ⟨hfr.defers, _, hr a w' hfr hp, _, .inl ⟨_, rfl, hS⟩, he ▸ (hp.pick idx hi).ctx⟩
  ·exact ⟨hfr.defers, _, hr a w' hfr hp, _, .inl ⟨_, rfl, hS⟩, he ▸ (hp.pick idx hi).ctx⟩
  ·exact ⟨hfr.defers, _, .inr ⟨_, rfl, hS⟩, he ▸ (hp.pick idx hi).ctx⟩
 ·simp; omega
 ·intro i v hg
  subst hL
  have hm := Sl.get_mem hg
  obtain ⟨j, hj⟩ := List.mem_iff_getElem?.1 hm
  rw [List.getElem?_zip_eq_some] at hj
  obtain ⟨h1, h2⟩ := hj
  have hij : j = i := by
   have h3 := (List.getElem?_eq_some_iff.1 h1)
   obtain ⟨h4, h5⟩ := h3
   simp at h5; exact h5
  subst hij
  have hjl : j < args.length := (List.getElem?_eq_some_iff.1 h2).1
  simp only [List.size_toArray]
  rw [Array.getElem?_append_left (by simpa using hjl)]
  simpa using h2
section res
variable {fn : Func}
theorem d7.none (hr : fn.results = #[]) : d7 P fn C L H (.tuple #[]) := fun _ _ _ _ => results_none hr _ _ _
theorem d7.one {t : Tmp} {v : Value} (hr : fn.results = #[.tmp t]) (ht : L.get t = some v) : d7 P fn C L H v := fun a w hf _ => by
 have := results_tmp hr a.tmps P w
 simpa [Array.getD_eq_getD_getElem?, hf.get _ _ ht] using this
def ak0 (tmps : Array Value) (r : ResultVar) : Sem Value := match r with
 | .tmp t => pure (tmps.getD t undef)
 | .cell q t => do loadVar t (← asAddr (tmps.getD q undef))
theorem ae6 (fn : Func) (tmps : Array Value) : results fn tmps = (do let vs ← fn.results.mapM (ak0 tmps); pure (if h : vs.size = 1 then vs[0] else .tuple vs)) := rfl
def RV (P : Program) (C : Cx) (L : Sl) (H : List HA) (r : ResultVar) (v : Value) : Prop := ∀ a w, Fr C L a → Hp C H w → (ak0 a.tmps r).run P w = .ok v w
theorem RV.tmp {t : Tmp} {v : Value} (ht : L.get t = some v) : RV P C L H (.tmp t) v := fun a w hf _ => by
 simp [ak0, Array.getD_eq_getD_getElem?, hf.get _ _ ht]
theorem RV.row {q : Tmp} {t T : TypeId} {b : Nat} {cs : List Value} {fr : Nat × Nat} (hq : L.get q = some (.pointer (some ⟨b, 0, none⟩))) (hb : At C H b (.cells cs.toArray T fr)) (ht : RowT P t cs.length) : RV P C L H (.cell q t) (.agg cs.toArray) := fun a w hf hp => by
 have h1 : (loadVar t ⟨b, 0, none⟩).run P w = .ok (.agg cs.toArray) w := as6 (hb w hp) (by simpa using ht)
 simp [ak0, Array.getD_eq_getD_getElem?, hf.get _ _ hq, asAddr, h1]
theorem RV.cell {q : Tmp} {t T : TypeId} {b : Nat} {cs : List Value} {v : Value} {fr : Nat × Nat} (hq : L.get q = some (.pointer (some ⟨b, 0, none⟩))) (hb : At C H b (.cells cs.toArray T fr)) (hc : cs[0]? = some v) (ht : aal P t = true) : RV P C L H (.cell q t) v := fun a w hf hp => by
 have hcell : w.cell? ⟨b, 0, none⟩ = some v := by simp [World.cell?, hb w hp, hc]
 have h1 : (loadVar t ⟨b, 0, none⟩).run P w = .ok v w := by simp [loadVar, aaq ht, hcell]
 simp [ak0, Array.getD_eq_getD_getElem?, hf.get _ _ hq, asAddr, h1]
theorem d7.of1 {r : ResultVar} {v : Value} (hr : fn.results = #[r]) (h0 : RV P C L H r v) : d7 P fn C L H v := fun a w hf hp => by
 rw [ae6, hr]
 simp [h0 a w hf hp]
theorem d7.of2 {r s : ResultVar} {v u : Value} (hr : fn.results = #[r, s]) (h0 : RV P C L H r v) (h1 : RV P C L H s u) : d7 P fn C L H (.tuple #[v, u]) := fun a w hf hp => by
 rw [ae6, hr]
 simp [h0 a w hf hp, h1 a w hf hp]
theorem d7.of3 {r s q : ResultVar} {v u x : Value} (hr : fn.results = #[r, s, q]) (h0 : RV P C L H r v) (h1 : RV P C L H s u) (h2 : RV P C L H q x) : d7 P fn C L H (.tuple #[v, u, x]) := fun a w hf hp => by
 rw [ae6, hr]
 simp [h0 a w hf hp, h1 a w hf hp, h2 a w hf hp]
theorem d7.of4 {r s q z : ResultVar} {v u x y : Value} (hr : fn.results = #[r, s, q, z]) (h0 : RV P C L H r v) (h1 : RV P C L H s u) (h2 : RV P C L H q x) (h3 : RV P C L H z y) : d7 P fn C L H (.tuple #[v, u, x, y]) := fun a w hf hp => by
 rw [ae6, hr]
 simp [h0 a w hf hp, h1 a w hf hp, h2 a w hf hp, h3 a w hf hp]
end res
end Go.Proofs.YtifajndacnfcbaaDoor
namespace Go.Proofs.YtifajndacnfcbaaDoor
open Go Go.RowKit
variable {P : Program} {ops : Array Oper} {Q : Exit → Act → World → Prop} {C : Cx} {H : List HA} {rest : List Oper} {o : Oper}
def aae : List (Nat × Obj) → Nat → Option Obj
 | [], _ => none
 | p :: r, i => bif Nat.beq p.1 i then some p.2 else aae r i
abbrev FSl := m7 → Sl
def FL (P : Program) (ops : Array Oper) (T : World → m7 → Act → Prop) (C : Cx) (L : FSl) (H : List HA) (zl : List (Nat × Obj)) (k : Nat) (l : List Oper) : Prop :=
 ∀ (A : Fam) (w0 : World), (∀ β, Fr C (L β) (A β)) → Hp C H w0 → wpFlowA P ops w0.heap.size w0 (aae zl) (fun A => ∀ γ, T w0 γ (A γ)) l k A
variable {T : World → m7 → Act → Prop} {L : FSl} {zl : List (Nat × Obj)} {k : Nat}
theorem FL.val {v : Value} {d : Nat} (hv : ∀ β, OV P C (L β) H o v) (hz : aae zl k = none) (hw : ∀ β, p7 ops (L β) o = some true) (hd : o.dst = some d) (hn : Nat.blt d C.n = true) (h : FL P ops T C (fun β => (d, v) :: L β) H zl (k + 1) rest) : FL P ops T C L H zl k (o :: rest) := by
 intro A w0 hf hp
 refine ⟨fun _ => v, .inr ⟨hz, v, rfl, fun β => .inl ⟨j9 (hf β) (hw β), fun w hb => ?_⟩⟩, ?_⟩
 ·rw [hv β _ w (hf β) (hp.below hb)]
  exact ⟨rfl, Below.refl _ _⟩
 ·rw [hd]; exact h _ w0 (fun β => (hf β).put hn v) hp
theorem FL.skip {d : Nat} (hz : aae zl k = none) (hw : ∀ β, p7 ops (L β) o = some false) (hd : o.dst = some d) (hn : Nat.blt d C.n = true) (h : FL P ops T C (fun β => (d, undef) :: L β) H zl (k + 1) rest) : FL P ops T C L H zl k (o :: rest) := by
 intro A w0 hf hp
 refine ⟨fun _ => undef, .inr ⟨hz, undef, rfl, fun β => .inr ⟨j9 (hf β) (hw β), rfl⟩⟩, ?_⟩
 rw [hd]; exact h _ w0 (fun β => (hf β).put hn undef) hp
theorem FL.make {Z : Obj} {f : Nat → Value} {d : Nat} (hv : ∀ β, MV P C (L β) H o Z f) (hz : aae zl k = some Z) (hw : ∀ β, p7 ops (L β) o = some true) (hd : o.dst = some d) (hn : Nat.blt d C.n = true) (h : FL P ops T C (fun β => (d, f (β k)) :: L β) H zl (k + 1) rest) : FL P ops T C L H zl k (o :: rest) := by
 intro A w0 hf hp
 refine ⟨fun β => f (β k), .inl ⟨Z, f, hz, rfl, fun β => ⟨j9 (hf β) (hw β), fun w hb => hv β _ w (hf β) (hp.below hb)⟩⟩, ?_⟩
 rw [hd]; exact h _ w0 (fun β => (hf β).put hn _) hp
theorem FL.call {f : FuncId} {xs : List Operand} {ats : Array TypeId} {d : Nat} {ty : TypeId} {p : String} {e : Array Edge} {g : Option (Nat × Bool)} {vs : List Value} {R : List (Nat × Obj)} {v : Value} (he : k9 P f = true) (hx : ∀ β, evs (L β) xs = some vs)
  (hc : d9 P f vs R [] (Ret v [])) (hR : ROk C H R) (hz : aae zl k = none) (hw : ∀ β, p7 ops (L β) ⟨some d, .call ⟨.value (.func f), xs.toArray, ats⟩, ty, p, e, g⟩ = some true) (hn : Nat.blt d C.n = true)
  (h : FL P ops T C (fun β => (d, v) :: L β) H zl (k + 1) rest) : FL P ops T C L H zl k (⟨some d, .call ⟨.value (.func f), xs.toArray, ats⟩, ty, p, e, g⟩ :: rest) := by
 intro A w0 hf hp
 refine ⟨fun _ => v, .inr ⟨hz, v, rfl, fun β => .inl ⟨j9 (hf β) (hw β), fun w hb => ?_⟩⟩, ?_⟩
 ·rw [ae8 he (hf β) (hx β)]
  have hpw := hp.below hb
  refine (hc w [] rfl List.nodup_nil (fun k hk => by cases hk) (fun q hq => ?_)).mono ?_
  ·refine ⟨?_, by simp⟩
   rcases hR.all q hq with ⟨i, hi⟩ | hm
   ·exact hpw.blk hi
   ·exact hpw.old hm
  ·rintro en w' ⟨H', hS, hh⟩
   rcases hS with ⟨r, rfl, hS⟩ | ⟨c, rfl, hS⟩
   ·cases hS; exact ⟨rfl, hh.toBelow⟩
   ·cases hS
 ·exact h _ w0 (fun β => (hf β).put hn v) hp
theorem FL.set {l : List Oper} (i : Nat) {v u : Value} (hL : ∀ β, (L β).get i = some v) (hv : v = u) (h : FL P ops T C (fun β => (i, u) :: L β) H zl k l) : FL P ops T C L H zl k l := fun A w0 hf hp => h A w0 (fun β => ⟨(hf β).defers, (hf β).size, fun j x hj => by
 unfold Sl.get at hj
 cases hb : Nat.beq i j with
 | true =>
  obtain rfl : i = j := Nat.eq_of_beq_eq_true hb
  simp only [hb, cond_true, Option.some.injEq] at hj
  rw [← hj, ← hv]; exact (hf β).get _ _ (hL β)
 | false => simp only [hb, cond_false] at hj; exact (hf β).get _ _ hj⟩) hp
theorem FL.weak {l : List Oper} {L' : FSl} (hs : ∀ β, Sub (L β) (L' β)) (h : FL P ops T C L' H zl k l) : FL P ops T C L H zl k l := fun A w0 hf hp => h A w0 (fun β => (hf β).sub (hs β)) hp
theorem FL.split {l : List Oper} (b : Bool) (ht : b = true → FL P ops T C L H zl k l) (hf : b = false → FL P ops T C L H zl k l) : FL P ops T C L H zl k l := by
 cases b
 ·exact hf rfl
 ·exact ht rfl
theorem FL.nil (h : ∀ (A : Fam) (w0 : World), (∀ β, Fr C (L β) (A β)) → Hp C H w0 → ∀ γ, T w0 γ (A γ)) : FL P ops T C L H zl k [] := fun A w0 hf hp => h A w0 hf hp
theorem ajc {B : Nat} {w0 : World} {Zs : Nat → Option Obj} {Qf : Fam → Prop} : ∀ {l1 l2 : List Oper} {k : Nat} {A : Fam}, wpFlowA P ops B w0 Zs (fun A => wpFlowA P ops B w0 Zs Qf l2 (k + l1.length) A) l1 k A → wpFlowA P ops B w0 Zs Qf (l1 ++ l2) k A
 | [], _, _, _, h => h
 | o :: l1, l2, k, A, ⟨v, hv, h⟩ => ⟨v, hv, ajc (by rw [show k + 1 + l1.length = k + (o :: l1).length by simp; omega]; exact h)⟩
theorem FL.cut {l : List Oper} (n : Nat) (hl : Nat.ble n l.length = true) (Lj : FSl) (hj : FL P ops T C Lj H zl (k + n) (l.drop n)) (h : ∀ T' : World → m7 → Act → Prop, (∀ (A : Fam) (w0 : World), (∀ β, Fr C (Lj β) (A β)) → Hp C H w0 → ∀ γ, T' w0 γ (A γ)) → FL P ops T' C L H zl k (l.take n)) : FL P ops T C L H zl k l := by
 have hn : n ≤ l.length := Nat.le_of_ble_eq_true hl
 intro A w0 hf hp
 have hjoin : ∀ (l1 : List Oper) (k0 : Nat) (A : Fam), wpFlowA P ops w0.heap.size w0 (aae zl) (fun A => ∀ β, Fr C (Lj β) (A β)) l1 k0 A → wpFlowA P ops w0.heap.size w0 (aae zl) (fun A => wpFlowA P ops w0.heap.size w0 (aae zl) (fun A => ∀ γ, T w0 γ (A γ)) (l.drop n) (k + n) A) l1 k0 A := by
  intro l1
  induction l1 with
  | nil => intro k0 A h; exact hj A w0 h hp
  | cons o l1 ih => intro k0 A ⟨v, hv, h⟩; exact ⟨v, hv, ih _ _ h⟩
 have h0 : wpFlowA P ops w0.heap.size w0 (aae zl) (fun A => ∀ β, Fr C (Lj β) (A β)) (l.take n) k A := by
  have := h (fun w0' γ a => w0' = w0 → Fr C (Lj γ) a) (fun A w0' hf' _ γ _ => hf' γ) A w0 hf hp
  have hm : ∀ (l1 : List Oper) (k0 : Nat) (A : Fam), wpFlowA P ops w0.heap.size w0 (aae zl) (fun A => ∀ γ, w0 = w0 → Fr C (Lj γ) (A γ)) l1 k0 A → wpFlowA P ops w0.heap.size w0 (aae zl) (fun A => ∀ β, Fr C (Lj β) (A β)) l1 k0 A := by
   intro l1
   induction l1 with
   | nil => intro k0 A h γ; exact h γ rfl
   | cons o l1 ih => intro k0 A ⟨v, hv, h⟩; exact ⟨v, hv, ih _ _ h⟩
  exact hm _ _ _ this
 have := ajc (l1 := l.take n) (l2 := l.drop n) (k := k) (A := A) (P := P) (ops := ops) (B := w0.heap.size) (w0 := w0) (Zs := aae zl) (Qf := fun A => ∀ γ, T w0 γ (A γ)) (by
  have hlen : (l.take n).length = n := by simp; omega
  rw [hlen]; exact hjoin _ _ _ h0)
 rwa [List.take_append_drop] at this
def ar7 (zl : List (Nat × Obj)) (γ : m7) (H : List HA) : List HA := match zl with
 | [] => H
 | p :: r => .blk (γ p.1) p.2 :: ar7 r γ H
def ar1 (n : Nat) (zl : List (Nat × Obj)) : Bool := u4 (zl.map (·.1)) && zl.all (fun p => Nat.blt p.1 n)
theorem ajt {zl : List (Nat × Obj)} (hn : (zl.map (·.1)).Nodup) {p : Nat × Obj} (hp : p ∈ zl) : aae zl p.1 = some p.2 := by
 induction zl with
 | nil => cases hp
 | cons q r ih =>
  unfold aae
  rw [List.map_cons, List.nodup_cons] at hn
  rcases List.mem_cons.1 hp with rfl | hp
  ·simp
  ·have hne : ¬ q.1 = p.1 := fun e => hn.1 (e ▸ List.mem_map_of_mem hp)
   have : Nat.beq q.1 p.1 = false := by
    cases hb : Nat.beq q.1 p.1 with
    | false => rfl
    | true => exact absurd (Nat.eq_of_beq_eq_true hb) hne
   rw [this]; exact ih hn.2 hp
theorem ara {n : Nat} {w0 w : World} {γ : m7} (hp : Hp C H w0) (hz : ar1 n zl = true) (hm : Made w0.heap.size w0 (aae zl) n γ w) : Hp C (ar7 zl γ H) w := by
 simp only [ar1, Bool.and_eq_true, List.all_eq_true] at hz
 have hnd := afo hz.1
 have hb := hp.below hm.below
 obtain ⟨F, h1, h2, h3⟩ := hp.own
 have hF : ∀ k ∈ F, k < w0.heap.size := fun k hk => (h3 k hk).1
 have key : ∀ zl' : List (Nat × Obj), (zl'.map (·.1)).Nodup → (∀ p ∈ zl', p ∈ zl) → Own w (ar7 zl' γ H) (zl'.map (fun p => γ p.1) ++ F) ∧ (zl'.map (fun p => γ p.1) ++ F).Nodup := by
  intro zl'
  induction zl' with
  | nil => intro _ _; exact ⟨by simpa [ar7] using h1.keep fun k hk => hm.below.block k (hF k hk), by simpa using h2⟩
  | cons q r ih =>
   intro hn hsub
   rw [List.map_cons, List.nodup_cons] at hn
   obtain ⟨i1, i2⟩ := ih hn.2 fun p hp => hsub p (List.mem_cons_of_mem _ hp)
   have hqm := hsub q (List.mem_cons_self ..)
   have hq := hm.blk q.1 q.2 (Nat.blt_eq ▸ hz.2 q hqm) (ajt hnd hqm)
   refine ⟨⟨[γ q.1], r.map (fun p => γ p.1) ++ F, rfl, ⟨rfl, hq.1⟩, i1⟩, ?_⟩
   show (γ q.1 :: (r.map (fun p => γ p.1) ++ F)).Nodup
   refine List.nodup_cons.2 ⟨fun hmem => ?_, i2⟩
   rcases List.mem_append.1 hmem with hmem | hmem
   ·obtain ⟨p, hp', he⟩ := List.mem_map.1 hmem
    have hpm := hsub p (List.mem_cons_of_mem _ hp')
    have := hm.inj q.1 p.1 q.2 p.2 (Nat.blt_eq ▸ hz.2 q hqm) (Nat.blt_eq ▸ hz.2 p hpm) (ajt hnd hqm) (ajt hnd hpm) he.symm
    exact hn.1 (this ▸ List.mem_map_of_mem hp')
   ·have := hF _ hmem; omega
 obtain ⟨k1, k2⟩ := key zl hnd fun _ h => h
 refine ⟨hb.os, hb.tape, hb.output, hb.size, hb.keep, hb.ro, _, k1, k2, fun k hk => ?_⟩
 rcases List.mem_append.1 hk with hk | hk
 ·obtain ⟨p, hp', rfl⟩ := List.mem_map.1 hk
  have hq := hm.blk p.1 p.2 (Nat.blt_eq ▸ hz.2 p hp') (ajt hnd hp')
  exact ⟨aa9 hq.1, .inl (Nat.le_trans hp.size hq.2)⟩
 ·exact ⟨Nat.lt_of_lt_of_le (h3 k hk).1 hm.below.size, (h3 k hk).2⟩
theorem m0 {id : Nat} {l : List Oper} {L : Sl} (n : Nat) (zl : List (Nat × Obj)) (hm : P.follows .mixedOrders = true) (hB : Region.lexTailB .any l.toArray n = true) (hz : ar1 n zl = true)
  (h : ∀ T : World → m7 → Act → Prop, (∀ (L' : FSl), (∀ γ, WL P l.toArray Q C (L' γ) (ar7 zl γ H) (l.drop n)) → ∀ (A : Fam) (w0 : World), (∀ β, Fr C (L' β) (A β)) → Hp C H w0 → ∀ γ, T w0 γ (A γ)) → FL P l.toArray T C (fun _ => L) H zl 0 (l.take n)) : WC P (.region id l.toArray true) Q C L H := by
 intro a w hf hp
 refine ajo (aae zl) n hm hB ?_
 exact h (fun w0 γ a' => ∀ w', Made w0.heap.size w0 (aae zl) n γ w' → wpList P l.toArray Q (l.drop n) a' w')
  (fun L' hL A w0 hA hw0 γ w' hmade => hL γ (A γ) w' (hA γ) (ara hw0 hz hmade)) (fun _ => a) w.drew (fun _ => hf) hp.drew
theorem l8 {id : Nat} {l : List Oper} {L : Sl} (zl : List (Nat × Obj)) (hm : P.follows .mixedOrders = true) (hB : ao1 l.toArray = true) (hz : ar1 l.length zl = true)
  (h : ∀ T : World → m7 → Act → Prop, (∀ (L' : FSl), (∀ γ, QX Q .normal C (L' γ) (ar7 zl γ H)) → ∀ (A : Fam) (w0 : World), (∀ β, Fr C (L' β) (A β)) → Hp C H w0 → ∀ γ, T w0 γ (A γ)) → FL P l.toArray T C (fun _ => L) H zl 0 l) : WC P (.region id l.toArray true) Q C L H := by
 intro a w hf hp
 refine ac2 (aae zl) hm hB ?_
 have h1 := h (fun w0 γ a' => ∀ w', Made w0.heap.size w0 (aae zl) l.length γ w' → Q .normal a' w')
  (fun L' hL A w0 hA hw0 γ w' hmade => hL γ (A γ) w' (hA γ) (ara hw0 hz hmade)) (fun _ => a) w.drew (fun _ => hf) hp.drew
 have hm : ∀ (l1 : List Oper) (k0 : Nat) (A : Fam), wpFlowA P l.toArray w.drew.heap.size w.drew (aae zl) (fun A => ∀ γ w', Made w.drew.heap.size w.drew (aae zl) l.length γ w' → Q .normal (A γ) w') l1 k0 A → wpFlowA P l.toArray w.drew.heap.size w.drew (aae zl) (fun A => ∀ γ w', Made w.drew.heap.size w.drew (aae zl) l.length γ w' → Q .normal (A γ) w') l1 k0 A := fun _ _ _ h => h
 exact hm _ _ _ h1
def TW (P : Program) (ops : Array Oper) (C : Cx) (HK : List HA) (T : Sl → Prop) : Sl → List Oper → Prop
 | L, [] => T L
 | L, o :: r => ∃ v d, ((p7 ops L o = some true ∧ OV P C L HK o v) ∨ (p7 ops L o = some false ∧ v = undef)) ∧ o.dst = some d ∧ Nat.blt d C.n = true ∧ TW P ops C HK T ((d, v) :: L) r
theorem TW.val {HK : List HA} {T : Sl → Prop} {L : Sl} {v : Value} {d : Nat} (hv : OV P C L HK o v) (hw : p7 ops L o = some true) (hd : o.dst = some d) (hn : Nat.blt d C.n = true) (h : TW P ops C HK T ((d, v) :: L) rest) : TW P ops C HK T L (o :: rest) :=
 ⟨v, d, .inl ⟨hw, hv⟩, hd, hn, h⟩
theorem TW.skip {HK : List HA} {T : Sl → Prop} {L : Sl} {d : Nat} (hw : p7 ops L o = some false) (hd : o.dst = some d) (hn : Nat.blt d C.n = true) (h : TW P ops C HK T ((d, undef) :: L) rest) : TW P ops C HK T L (o :: rest) :=
 ⟨undef, d, .inr ⟨hw, rfl⟩, hd, hn, h⟩
theorem TW.nil {HK : List HA} {T : Sl → Prop} {L : Sl} (h : T L) : TW P ops C HK T L [] := h
def am4 (P : Program) (ops : Array Oper) (Q : Exit → Act → World → Prop) (S : World → Prop) : List Oper → Act → World → Prop
 | [], a, w => Q .normal a w
 | o :: rest, a, w => Region.wanted o (yielded ops a.tmps) = true ∧ o.wp P a w (fun a' w' => S w' ∧ am4 P ops Q S rest a' w') Q
def WLK (P : Program) (ops : Array Oper) (Q : Exit → Act → World → Prop) (C : Cx) (HK : List HA) (L : Sl) (H : List HA) (l : List Oper) : Prop := ∀ a w, Fr C L a → Hp C H w → am4 P ops Q (Hp C HK) l a w
theorem WLK.op {HK H' : List HA} {L L' : Sl} (idx : List Nat) (hi : u4 idx = true) (hk : sel H' idx = HK) (hop : OpK P o Q C L H L' H') (hw : p7 ops L o = some true) (h : WLK P ops Q C HK L' H' rest) : WLK P ops Q C HK L H (o :: rest) :=
 fun a w hf hp => ⟨j9 hf hw, hop _ (fun a' w' hf' hp' => ⟨hk ▸ hp'.pick idx hi, h a' w' hf' hp'⟩) a w hf hp⟩
theorem WLK.nil {HK : List HA} {L : Sl} (h : QX Q .normal C L H) : WLK P ops Q C HK L H [] := fun a w hf hp => h a w hf hp
theorem ag1 {S : World → Prop} {md : Region.Mode} : ∀ (l : List Oper) (k : Nat) (listed : Array Bool) (a : Act) (w : World), (∀ j, l[j]? = ops[k + j]?) →
  Region.seqB md ops l.length k listed = true → am4 P ops Q S l a w → wpAnyH P md ops Q S l.length listed a w
 | [], _, _, _, _, _, hB, h => ⟨by simpa [Region.seqB] using hB, h⟩
 | o :: l, k, listed, a, w, hl, hB, h => by
  have h0 : ops[k]? = some o := by simpa using (hl 0).symm
  simp only [List.length_cons, Region.seqB, Bool.and_eq_true, decide_eq_true_eq] at hB
  refine ⟨fun h1 => (by rw [hB.1] at h1; cases h1), fun i hi => ?_⟩
  rw [hB.1] at hi
  obtain rfl : i = k := by simpa using hi
  unfold wpOp
  simp only [h0, h.1, if_true]
  refine .inl (Oper.wp_mono (fun a' w' h' => ⟨h'.1, ?_⟩) h.2)
  exact ag1 l (i + 1) _ a' w' (fun j => by have := hl (j + 1); simpa [Nat.add_assoc, Nat.add_comm 1 j] using this) hB.2 h'.2
theorem auw {g : Nat} {tail : List Oper} {HK : List HA} (hsel : Region.noSelect ops = true) (hq : auf Q) (hg : tail.length = g) : ∀ (l : List Oper) (k : Nat) (listed : Array Bool) (L : Sl) (a : Act) (w : World), (∀ j, j < l.length → l[j]? = ops[k + j]?) → (∀ j, tail[j]? = ops[k + l.length + j]?) →
  Region.lexHead .any ops g l.length k listed = true → Fr C L a → Hp C H w → Hp C HK w → TW P ops C HK (fun L' => WLK P ops Q C HK L' H tail) L l → wpAnyH P .any ops Q (Hp C HK) (l.length + g) listed a w
 | [], k, listed, L, a, w, _, ht, hB, hf, hp, _, h => by
  have := ag1 (md := .any) (Q := Q) (S := Hp C HK) tail k listed a w (fun j => by simpa using ht j) (by rw [hg]; simpa [Region.lexHead] using hB) (h a w hf hp)
  rw [hg] at this
  simpa using this
 | o :: l, k, listed, L, a, w, hl, ht, hB, hf, hp, hpk, ⟨v, d, hv, hd, hn, h⟩ => by
  have h0 : ops[k]? = some o := by simpa using (hl 0 (by simp)).symm
  simp only [List.length_cons, Region.lexHead, Bool.and_eq_true] at hB
  obtain ⟨⟨hrd, hfr⟩, hB'⟩ := hB
  have hy : YieldsIf P ops (Hp C HK) o v a := by
   rcases hv with ⟨hw, hv⟩ | ⟨hw, rfl⟩
   ·exact .inl ⟨j9 hf hw, fun w' hw' => hv a w' hf hw'⟩
   ·exact .inr ⟨j9 hf hw, rfl⟩
  have ih := auw hsel hq hg l (k + 1) (listed.setIfInBounds k true) ((d, v) :: L) (a.put (some d) v) w (fun j hj => by have := hl (j + 1) (by simp; omega); simpa [Nat.add_assoc, Nat.add_comm 1 j] using this)
   (fun j => by have := ht j; rw [List.length_cons] at this; rw [this]; congr 1; omega) hB' (hf.put hn v) hp hpk h
  rw [show (o :: l).length + g = (l.length + g) + 1 by simp; omega]
  refine wpAnyH_take h0 hsel hfr hrd (fun c a w h => hq c a _ v w h) hy hpk ?_
  rw [hd]; exact ih
def NP (Q : Exit → Act → World → Prop) : Exit → Act → World → Prop
 | .panic _, _, _ => False
 | e, a, w => Q e a w
theorem afx {id : Nat} {l : List Oper} {L : Sl} (n : Nat) (idx : List Nat) (HK : List HA) (hi : u4 idx = true) (hk : sel H idx = HK) (hm : P.follows .mixedOrders = true) (hB : (Region.noSelect l.toArray && Nat.ble n l.length && Region.lexHead .any l.toArray (l.length - n) n 0 (Array.replicate l.length false)) = true)
  (h : ∀ T : Sl → Prop, (∀ L', WLK P l.toArray (NP Q) C HK L' H (l.drop n) → T L') → TW P l.toArray C HK T L (l.take n)) : WC P (.region id l.toArray true) Q C L H := by
 intro a w hf hp
 simp only [Bool.and_eq_true] at hB
 obtain ⟨⟨hsel, hn⟩, hlex⟩ := hB
 have hn' : n ≤ l.length := Nat.le_of_ble_eq_true hn
 have htl : (l.take n).length = n := by simp; omega
 refine wp_mono (Q := NP Q) (wp_region_any hm ?_) (fun e a w hq => ?_)
 ·have := wpAny_of_held _ _ _ _ (auw (P := P) (ops := l.toArray) (Q := NP Q) (C := C) (H := H) (HK := HK) (g := l.length - n) (tail := l.drop n) hsel (fun _ _ _ _ _ h => h) (by simp) (l.take n) 0 (Array.replicate l.length false) L a w.drew
   (fun j hj => by rw [htl] at hj; simp [hj]) (fun j => by rw [htl]; simp [List.getElem?_drop]) (by rw [htl]; exact hlex) hf hp.drew (hk ▸ hp.drew.pick idx hi) (h _ fun _ hh => hh))
  rw [htl, show n + (l.length - n) = l.length by omega] at this
  simpa using this
 ·cases e <;> first | exact hq | exact hq.elim
end Go.Proofs.YtifajndacnfcbaaDoor
namespace Go.Proofs.YtifajndacnfcbaaDoor
open Go Go.RowKit
variable {P : Program} {ops : Array Oper} {Q : Exit → Act → World → Prop} {C : Cx} {L : Sl} {H : List HA} {rest : List Oper} {o : Oper}
def RC (P : Program) (c : Code) (Q : Exit → Act → World → Prop) (n : Nat) (C : Cx) (L : Sl) (H : List HA) : Prop := ∀ a w, Fr C L a → Hp C H w → Code.rounds P c Q n a w
theorem aew {c : Code} (n : Nat) (h : RC P c Q n C L H) : WC P (.loop c) Q C L H := fun a w hf hp => wp_loop_rounds n (h a w hf hp)
theorem RC.succ {c : Code} {n : Nat} (h : ∀ K : Act → World → Prop, (∀ L H, RC P c Q n C L H → KX K C L H) → WC P c (Exit.then K Q) C L H) : RC P c Q (n + 1) C L H :=
 fun a w hf hp => h _ (fun _ _ hr => hr) a w hf hp
def aie (P : Program) (t : TypeId) (i : Nat) : Option (Nat × TypeId) := match P.underlying t with
 | some (.struct fs) => (fs[i]?).map (fun f => (f.offset, f.type))
 | _ => none
section ov
variable {x y z : Operand} {u v : Value} {t t' ty e' : TypeId} {d : Option Tmp} {p : String} {e : Array Edge} {g : Option (Nat × Bool)} {n m : Int} {k k' : IntKind} {b off sz : Nat}
theorem apu (l : List UInt8) (i j : Nat) : (⟨l.toArray⟩ : ByteArray).extract i j = ⟨((l.drop i).take (j - i)).toArray⟩ := by
 rw [ByteArray.ext_iff]; simp [ByteArray.data_extract]
theorem OV.sliceL {l : List UInt8} {i : Int} (hx : ev L x = some (st l)) (hy : ev L y = some (.int k i)) (ht : ane P t = true) (hb : 0 ≤ i ∧ i ≤ l.length) :
  OV P C L H ⟨d, .slice t x (some y) none none, ty, p, e, g⟩ (st (l.drop i.toNat)) := fun a w hf _ => by
 have hu := aby ht
 have h1 := run_slice_string_l (P := P) w t ⟨l.toArray⟩ hu k i hb.1 (by simpa [ByteArray.size] using hb.2)
 rw [apu] at h1
 have h2 : (l.drop i.toNat).take ((⟨l.toArray⟩ : ByteArray).size - i.toNat) = l.drop i.toNat := by
  rw [List.take_of_length_le (by simp [ByteArray.size])]
 rw [h2] at h1
 simp only [execOp, Option.map_some, Option.map_none, hf.ev hx, hf.ev hy, Sem.run_bind, run_sliceAt_string (P := P) w t _ _ _ _ hu, h1, Result.andThen_ok, Sem.run_pure]
theorem OV.shr (hx : ev L x = some (.int k n)) (hy : ev L y = some (.int k' m)) (hb : 0 ≤ m ∧ m ≤ k.bits) : OV P C L H ⟨d, .binOp .shr t x y t', ty, p, e, g⟩ (.int k (n / 2 ^ m.toNat)) := fun a w hf _ => by
 have h := shift_shr k k' n m hb.1 hb.2
 simp [execOp, hf.ev hx, hf.ev hy, eqGuard, binOp, h]
theorem OV.bits_and (hx : ev L x = some (.int k n)) (hy : ev L y = some (.int k m)) : OV P C L H ⟨d, .binOp .and t x y t', ty, p, e, g⟩ (.int k (bits .and k n m)) := fun a w hf _ => by
 simp [execOp, hf.ev hx, hf.ev hy, eqGuard, binOp, intBits_and]
theorem OV.indexC {nn : Nat} {i : Int} {cs : List Value} (hx : ev L x = some (.agg cs.toArray)) (hy : ev L y = some (.int k i)) (ht : av7 P t e' nn 1 = true) (hb : 0 ≤ i ∧ i < nn) (hs : aal P e' = true) (hv : cs[i.toNat]? = some v) :
  OV P C L H ⟨d, .index t x y, ty, p, e, g⟩ v := fun a w hf _ => by
 obtain ⟨hu, hsz⟩ := asn ht
 have hp : (part e' cs.toArray i.toNat).run P w = .ok v w := by
  simp [part, aaq hs, hv]
 simp [execOp, hf.ev hx, hf.ev hy, Instr.index, s6 hu, asIntOf, hb, aes hsz, hp]
theorem OV.field {cs : List Value} {i f : Nat} {ft : TypeId} (hx : ev L x = some (.agg cs.toArray)) (hf' : aie P t i = some (f, ft)) (hs : aal P ft = true) (hv : cs[f]? = some v) : OV P C L H ⟨d, .field t x i, ty, p, e, g⟩ v := fun a w hf _ => by
 unfold aie at hf'
 split at hf'
 ·rename_i fs hu
  cases hfl : fs[i]? with
  | none => simp [hfl] at hf'
  | some fl =>
   simp [hfl] at hf'
   obtain ⟨rfl, rfl⟩ := hf'
   simp [execOp, hf.ev hx, Instr.field, s6 hu, hfl, asAgg, part, aaq hs, hv]
 ·cases hf'
end ov
theorem OpK.storeW {x y : Operand} {t ty T : TypeId} {p : String} {e : Array Edge} {g : Option (Nat × Bool)} {b n : Nat} {v : Value} {cs vs : List Value} (i : Nat)
  (hx : ev L x = some (.pointer (some ⟨b, 0, none⟩))) (hy : ev L y = some v) (hi : H[i]? = some (.blk b (.cells cs.toArray T (0, 0)))) (hv : v.cells = vs.toArray) (hn : vs.length = n) (hs : o8 P t n = true)
  (hl : vs.length = cs.length) (h1 : vs.all (·.oneCell') = true) : OpK P ⟨none, .store t x y, ty, p, e, g⟩ Q C L H L (H.set i (.blk b (.cells vs.toArray T (0, 0)))) := by
 subst hn
 refine OpK.store (vs := vs) i hx hy hi hv hs (by omega) h1 ?_
 rw [List.drop_eq_nil_of_le (by omega)]; simp
theorem WL.storeW {x y : Operand} {t ty T : TypeId} {p : String} {e : Array Edge} {g : Option (Nat × Bool)} {b n : Nat} {v : Value} {cs vs : List Value} (i : Nat)
  (hx : ev L x = some (.pointer (some ⟨b, 0, none⟩))) (hy : ev L y = some v) (hi : H[i]? = some (.blk b (.cells cs.toArray T (0, 0)))) (hv : v.cells = vs.toArray) (hn : vs.length = n) (hs : o8 P t n = true)
  (hl : vs.length = cs.length) (h1 : vs.all (·.oneCell') = true) (hw : p7 ops L ⟨none, .store t x y, ty, p, e, g⟩ = some true)
  (h : WL P ops Q C L (H.set i (.blk b (.cells vs.toArray T (0, 0)))) rest) : WL P ops Q C L H (⟨none, .store t x y, ty, p, e, g⟩ :: rest) :=
 WL.op (OpK.storeW i hx hy hi hv hn hs hl h1) hw h
theorem aus {c : Int} (h : 0 ≤ c ∧ c < 256) : ((c.toNat.toUInt8).toNat : Int) = c := by
 have : c.toNat.toUInt8.toNat = c.toNat := by simp; omega
 rw [this]; omega
end Go.Proofs.YtifajndacnfcbaaDoor
namespace Go.Proofs.YtifajndacnfcbaaDoor.SB
open Go Go.RowKit
section
variable {P : Program} {ops : Array Oper} {md : Region.Mode} {B : Nat} {w0 : World} {Zs : Nat → Option Obj} {Ws : Nat → Option (Nat × Obj)}
structure Upd (b : Nat) (Z : Obj) (w w' : World) : Prop where
 os : w'.os = w.os
 tape : w'.tape = w.tape
 output : w'.output = w.output
 size : w'.heap.size = w.heap.size
 oth : ∀ k, k ≠ b → w'.heap[k]? = w.heap[k]?
 blk : w'.heap[b]? = some Z
def apn (b : Nat) (Z : Obj) (w : World) : Result Next → Prop
 | .ok (.value _) w' => Upd b Z w w'
 | .ok .skip w' => Upd b Z w w'
 | _ => False
def n0 (P : Program) (ops : Array Oper) (B : Nat) (w0 : World) (Zs : Nat → Option Obj) (Ws : Nat → Option (Nat × Obj)) (i : Nat) (o : Oper) (v : m7 → Value) (A : Fam) : Prop :=
 (∃ Z, ∃ f : Nat → Value, Zs i = some Z ∧ Ws i = none ∧ v = (fun β => f (β i)) ∧ ∀ β, Region.wanted o (yielded ops (A β).tmps) = true ∧ ∀ w, Below B w0 w → (execOp (A β).eval o).run P w = .ok (.value (f w.heap.size)) (w.alloc Z)) ∨
 (∃ j Z Z', Zs i = none ∧ Ws i = some (j, Z') ∧ Zs j = some Z ∧ o.dst = none ∧ (o.after.toList.any fun e => Region.binds .any e && Nat.beq e.on j) = true ∧ ∀ β, Region.wanted o (yielded ops (A β).tmps) = true ∧ ∀ w, Below B w0 w → w.heap[β j]? = some Z → apn (β j) Z' w ((execOp (A β).eval o).run P w)) ∨
 (Zs i = none ∧ Ws i = none ∧ ∃ u, v = (fun _ => u) ∧ ∀ β, (Region.wanted o (yielded ops (A β).tmps) = true ∧ ∀ w, Below B w0 w → aiu P u w ((execOp (A β).eval o).run P w)) ∨
  (Region.wanted o (yielded ops (A β).tmps) = false ∧ u = undef))
theorem n0.of_same {i : Nat} {o : Oper} {v : m7 → Value} {A A' : Fam} (hy : n0 P ops B w0 Zs Ws i o v A) (he : ∀ β, execOp (A' β).eval o = execOp (A β).eval o)
  (hw : ∀ β, Region.wanted o (yielded ops (A' β).tmps) = Region.wanted o (yielded ops (A β).tmps)) : n0 P ops B w0 Zs Ws i o v A' := by
 unfold n0 at *; simp only [he, hw]; exact hy
def flOpA (P : Program) (ops : Array Oper) (B : Nat) (w0 : World) (Zs : Nat → Option Obj) (Ws : Nat → Option (Nat × Obj)) (i : Nat) (K : Fam → Prop) (A : Fam) : Prop :=
 match ops[i]? with
 | none => K A
 | some o => ∃ v, n0 P ops B w0 Zs Ws i o v A ∧ K (A.put o.dst v)
theorem ahs {i : Nat} {A : Fam} {K K' : Fam → Prop} (h : ∀ A, K A → K' A) (hh : flOpA P ops B w0 Zs Ws i K A) : flOpA P ops B w0 Zs Ws i K' A := by
 unfold flOpA at *
 split
 ·exact h _ (by simpa [*] using hh)
 ·rename_i o ho
  simp only [ho] at hh
  obtain ⟨v, hy, hk⟩ := hh
  exact ⟨v, hy, h _ hk⟩
theorem n0.flOpA {i : Nat} {o : Oper} {v : m7 → Value} {A : Fam} (hi : ops[i]? = some o) (hy : n0 P ops B w0 Zs Ws i o v A) {K : Fam → Prop} (h : K (A.put o.dst v)) : flOpA P ops B w0 Zs Ws i K A := by
 unfold SB.flOpA; simp only [hi]; exact ⟨v, hy, h⟩
theorem aix {i j : Nat} {oi oj : Oper} {v : m7 → Value} (hj : ops[j]? = some oj) (hap : oi.apart ops oj = true)
  (hsi : ∀ cs b, oi.op ≠ .select cs b) (hsj : ∀ cs b, oj.op ≠ .select cs b) {K : Fam → Prop} {A : Fam}
  (hy : n0 P ops B w0 Zs Ws i oi v A) (h : flOpA P ops B w0 Zs Ws j K (A.put oi.dst v)) :
  flOpA P ops B w0 Zs Ws j (fun A' => n0 P ops B w0 Zs Ws i oi v A' ∧ K (A'.put oi.dst v)) A := by
 obtain ⟨h1, h2, h3⟩ := Oper.apart_spec hap
 unfold flOpA at *
 simp only [hj] at *
 obtain ⟨u, hu, hk⟩ := h
 refine ⟨u, hu.of_same (fun β => (execOp_put oj hsj (A β) oi.dst (v β) h1).symm) (fun β => (wanted_put oj (A β) oi.dst (v β) h1).symm), ?_, ?_⟩
 ·exact hy.of_same (fun β => execOp_put oi hsi (A β) oj.dst (u β) h3) (fun β => wanted_put oi (A β) oj.dst (u β) h3)
 ·have e : (A.put oj.dst u).put oi.dst v = (A.put oi.dst v).put oj.dst u := by funext β; exact (Act.put_comm (A β) (v β) (u β) h2).symm
  rw [e]; exact hk
structure Facts (B : Nat) (w0 : World) (Zs : Nat → Option Obj) (Ws : Nat → Option (Nat × Obj)) (listed : Array Bool) (γ : m7) (w : World) : Prop where
 below : Below B w0 w
 blk : ∀ i Z, Zs i = some Z → listed.getD i false = true → B ≤ γ i ∧ ((∀ s Z', Ws s = some (i, Z') → listed.getD s false = false) → w.heap[γ i]? = some Z) ∧ (∀ s Z', Ws s = some (i, Z') → listed.getD s false = true → w.heap[γ i]? = some Z')
 lt : ∀ i Z, Zs i = some Z → listed.getD i false = true → γ i < w.heap.size
 aft : ∀ s i Z', Ws s = some (i, Z') → listed.getD s false = true → listed.getD i false = true
 inj : ∀ i j Z Z', Zs i = some Z → Zs j = some Z' → listed.getD i false = true → listed.getD j false = true → γ i = γ j → i = j
def ab1 (P : Program) (md : Region.Mode) (ops : Array Oper) (B : Nat) (w0 : World) (Zs : Nat → Option Obj) (Ws : Nat → Option (Nat × Obj)) (n : Nat) (L : Array Bool → Fam → Prop) : Nat → Array Bool → Fam → Prop
 | 0, listed, A => L listed A
 | f + 1, listed, A =>
  Region.ready md ops listed ≠ [] ∧ ∀ i ∈ Region.ready md ops listed, i < n ∧ flOpA P ops B w0 Zs Ws i (ab1 P md ops B w0 Zs Ws n L f (listed.setIfInBounds i true)) A
theorem abu {l : Array Bool} {i j : Nat} (h : l.getD j false = true) : (l.setIfInBounds i true).getD j false = true := by
 by_cases e : i = j
 ·subst e
  have : i < l.size := by
   rcases Nat.lt_or_ge i l.size with h2 | h2
   ·exact h2
   ·simp [Array.getD, Nat.not_lt.2 h2] at h
  simp [Array.getD, this]
 ·rw [getD_set_ne false e]; exact h
theorem aly {l : Array Bool} {i : Nat} (h : i < l.size) : (l.setIfInBounds i true).getD i false = true := by simp [Array.getD, h]
theorem Facts.plain {listed : Array Bool} {γ : m7} {w w' : World} {i : Nat} (hf : Facts B w0 Zs Ws listed γ w) (hB : B ≤ w0.heap.size) (hz : Zs i = none) (hw : Ws i = none) (hb : Below w.heap.size w w') : Facts B w0 Zs Ws (listed.setIfInBounds i true) γ w' := by
 have old : ∀ j Z, Zs j = some Z → (listed.setIfInBounds i true).getD j false = true → listed.getD j false = true := fun j Z hj hl => by
  rcases n6 hl with h | h
  ·exact h
  ·rw [h, hz] at hj; cases hj
 have oldS : ∀ s x, Ws s = some x → (listed.setIfInBounds i true).getD s false = listed.getD s false := fun s x hs => by
  refine getD_set_ne false fun e => ?_
  rw [← e, hw] at hs; cases hs
 refine ⟨hf.below.trans (hb.mono (Nat.le_trans hB hf.below.size)), fun j Z hj hl => ?_, fun j Z hj hl => Nat.lt_of_lt_of_le (hf.lt j Z hj (old j Z hj hl)) hb.size, fun s j Z' hs hl => ?_, fun j k Z Z' hj hk hl hl' => hf.inj j k Z Z' hj hk (old j Z hj hl) (old k Z' hk hl')⟩
 ·obtain ⟨h1, h2, h3⟩ := hf.blk j Z hj (old j Z hj hl)
  have hlt := hf.lt j Z hj (old j Z hj hl)
  refine ⟨h1, fun hn => ?_, fun s Z' hs hl' => ?_⟩
  ·rw [hb.block _ hlt]
   exact h2 fun s Z' hs => by rw [← oldS s _ hs]; exact hn s Z' hs
  ·rw [hb.block _ hlt]
   rw [oldS s _ hs] at hl'
   exact h3 s Z' hs hl'
 ·rw [oldS s _ hs] at hl
  have h1 := hf.aft s j Z' hs hl
  by_cases e : i = j
  ·subst e
   exact abu h1
  ·rw [getD_set_ne false e]; exact h1
theorem Facts.made {listed : Array Bool} {γ : m7} {w : World} {i : Nat} {Z : Obj} (hf : Facts B w0 Zs Ws listed γ w) (hB : B ≤ w0.heap.size) (hz : Zs i = some Z) (hw : Ws i = none) (hun : listed.getD i false = false) :
  Facts B w0 Zs Ws (listed.setIfInBounds i true) (fun j => if j = i then w.heap.size else γ j) (w.alloc Z) := by
 have hbw : B ≤ w.heap.size := Nat.le_trans hB hf.below.size
 have oldS : ∀ s x, Ws s = some x → (listed.setIfInBounds i true).getD s false = listed.getD s false := fun s x hs => by
  refine getD_set_ne false fun e => ?_
  rw [← e, hw] at hs; cases hs
 have lt : ∀ j Z', Zs j = some Z' → (listed.setIfInBounds i true).getD j false = true → j ≠ i → γ j < w.heap.size := fun j Z' hj hl hn => by
  rcases n6 hl with h | h
  ·exact hf.lt j Z' hj h
  ·exact absurd h hn
 refine ⟨hf.below.alloc hbw Z, fun j Z' hj hl => ?_, fun j Z' hj hl => ?_, fun s j Z' hs hl => ?_, fun j k Z1 Z2 hj hk hl hl' he => ?_⟩
 ·by_cases hji : j = i
  ·subst hji
   rw [hz] at hj
   obtain rfl := Option.some.inj hj
   simp only [if_pos]
   refine ⟨hbw, fun _ => heap_alloc_new w Z, fun s Z' hs hl' => ?_⟩
   rw [oldS s _ hs] at hl'
   have := hf.aft s j Z' hs hl'
   rw [hun] at this; cases this
  ·simp only [if_neg hji]
   rcases n6 hl with h | h
   ·obtain ⟨h1, h2, h3⟩ := hf.blk j Z' hj h
    have hlt := hf.lt j Z' hj h
    refine ⟨h1, fun hn => ?_, fun s Z2 hs hl' => ?_⟩
    ·rw [heap_alloc_old _ _ (h := hlt)]
     exact h2 fun s Z' hs => by rw [← oldS s _ hs]; exact hn s Z' hs
    ·rw [heap_alloc_old _ _ (h := hlt)]
     rw [oldS s _ hs] at hl'
     exact h3 s Z2 hs hl'
   ·exact absurd h hji
 ·by_cases hji : j = i
  ·subst hji; simp only [if_pos]; rw [World.size_alloc]; omega
  ·simp only [if_neg hji]; rw [World.size_alloc]; have := lt j Z' hj hl hji; omega
 ·rw [oldS s _ hs] at hl
  exact abu (hf.aft s j Z' hs hl)
 ·by_cases h1 : j = i <;> by_cases h2 : k = i
  ·rw [h1, h2]
  ·rw [if_pos h1, if_neg h2] at he
   have := lt k Z2 hk hl' h2
   omega
  ·rw [if_neg h1, if_pos h2] at he
   have := lt j Z1 hj hl h1
   omega
  ·rw [if_neg h1, if_neg h2] at he
   rcases n6 hl with h3 | h3
   ·rcases n6 hl' with h4 | h4
    ·exact hf.inj j k Z1 Z2 hj hk h3 h4 he
    ·exact absurd h4 h2
   ·exact absurd h3 h1
theorem Facts.stored {listed : Array Bool} {γ : m7} {w w' : World} {i j : Nat} {Z Z' : Obj} (hf : Facts B w0 Zs Ws listed γ w) (hz : Zs i = none) (hws : Ws i = some (j, Z')) (hzj : Zs j = some Z) (hj : listed.getD j false = true)
  (hin : i < listed.size) (huniq : ∀ s t x y, Ws s = some (x, y) → Ws t = some (x, Z') → s = t) (hu : Upd (γ j) Z' w w') : Facts B w0 Zs Ws (listed.setIfInBounds i true) γ w' := by
 have old : ∀ k Z, Zs k = some Z → (listed.setIfInBounds i true).getD k false = true → listed.getD k false = true := fun k Z hk hl => by
  rcases n6 hl with h | h
  ·exact h
  ·rw [h, hz] at hk; cases hk
 have hbj := (hf.blk j Z hzj hj).1
 refine ⟨⟨hu.os.trans hf.below.os, hu.tape.trans hf.below.tape, hu.output.trans hf.below.output, by rw [hu.size]; exact hf.below.size, fun k hk => ?_⟩, fun k Zk hk hl => ?_, fun k Zk hk hl => by rw [hu.size]; exact hf.lt k Zk hk (old k Zk hk hl), fun s k Z2 hs hl => ?_, fun k l Z1 Z2 hk hl h1 h2 => hf.inj k l Z1 Z2 hk hl (old k Z1 hk h1) (old l Z2 hl h2)⟩
 ·rw [hu.oth k (by omega)]; exact hf.below.block k hk
 ·obtain ⟨h1, h2, h3⟩ := hf.blk k Zk hk (old k Zk hk hl)
  refine ⟨h1, fun hn => ?_, fun s Z2 hs hl' => ?_⟩
  ·by_cases e : k = j
   ·subst e
    have := hn i Z' hws
    rw [aly hin] at this; cases this
   ·rw [hu.oth _ (fun e2 => e (hf.inj k j Zk Z hk hzj (old k Zk hk hl) hj e2))]
    refine h2 fun s Z2 hs => ?_
    have h4 := hn s Z2 hs
    cases hb : listed.getD s false with
    | false => rfl
    | true => rw [abu hb] at h4; cases h4
  ·by_cases e : k = j
   ·subst e
    have e2 : s = i := huniq s i k Z2 hs hws
    subst e2
    rw [hws] at hs
    obtain ⟨_, rfl⟩ := Prod.mk.inj (Option.some.inj hs)
    exact hu.blk
   ·rw [hu.oth _ (fun e2 => e (hf.inj k j Zk Z hk hzj (old k Zk hk hl) hj e2))]
    rcases n6 hl' with h | h
    ·exact h3 s Z2 hs h
    ·subst h
     rw [hws] at hs
     exact absurd (Prod.mk.inj (Option.some.inj hs)).1.symm e
 ·rcases n6 hl with h | h
  ·exact abu (hf.aft s k Z2 hs h)
  ·subst h
   rw [hws] at hs
   obtain ⟨rfl, _⟩ := Prod.mk.inj (Option.some.inj hs)
   exact abu hj
theorem l6 {n g : Nat} {L : Array Bool → Fam → Prop} {Q' : Exit → Act → World → Prop} (hB : B ≤ w0.heap.size) (hmd : md = .any) (huniq : ∀ s t x y z, Ws s = some (x, y) → Ws t = some (x, z) → s = t)
  (hL : ∀ listed A γ w, Facts B w0 Zs Ws listed γ w → L listed A → wpAny P md ops Q' g listed (A γ) w) :
  ∀ (f : Nat) (listed : Array Bool) (A : Fam) (γ : m7) (w : World), listed.size = ops.size → afe listed A → Facts B w0 Zs Ws listed γ w → ab1 P md ops B w0 Zs Ws n L f listed A → wpAny P md ops Q' (f + g) listed (A γ) w
 | 0, listed, A, γ, w, _, _, hF, h => by rw [Nat.zero_add]; exact hL _ _ _ _ hF h
 | f + 1, listed, A, γ, w, hsz, hA, hF, h => by
  rw [show f + 1 + g = (f + g) + 1 by omega]
  refine ⟨fun h0 => absurd h0 h.1, fun i hi => ?_⟩
  have hh := (h.2 i hi).2
  obtain ⟨hun, o, ho, _⟩ := mem_ready.1 hi
  have hin : i < ops.size := (Array.getElem?_eq_some_iff.1 ho).1
  have hnow : ∀ j, listed.getD j false = true → (listed.setIfInBounds i true).getD j false = true := fun j hj => by
   by_cases e : i = j
   ·subst e; simp [Array.getD, hsz, hin]
   ·rw [getD_set_ne false e]; exact hj
  have hset : (listed.setIfInBounds i true).getD i false = true := by simp [Array.getD, hsz, hin]
  have hsz' : (listed.setIfInBounds i true).size = ops.size := by simpa using hsz
  unfold flOpA at hh
  unfold wpOp
  simp only [ho] at hh ⊢
  obtain ⟨v, hv, hk⟩ := hh
  rcases hv with ⟨Z, fv, hz, hws, rfl, hg⟩ | ⟨j, Z, Z', hz, hws, hzj, hdst, haf, hg⟩ | ⟨hz, hws, u, rfl, hg⟩
  ·obtain ⟨hw, hx⟩ := hg γ
   simp only [hw, if_true]
   refine .inl ?_
   unfold Oper.wp
   rw [hx w hF.below]
   simp only [Oper.upon]
   have hF' := hF.made hB hz hws (getD_both hun)
   have hA' : afe (listed.setIfInBounds i true) (A.put o.dst (fun β => fv (β i))) := fun β β' hb => by
    show (A β).put o.dst (fv (β i)) = (A β').put o.dst (fv (β' i))
    rw [hA β β' (fun j hj => hb j (hnow j hj)), hb i hset]
   have := l6 hB hmd huniq hL f _ _ _ _ hsz' hA' hF' hk
   have e : (A.put o.dst (fun β => fv (β i))) (fun j => if j = i then w.heap.size else γ j) = (A γ).put o.dst (fv w.heap.size) := by
    show (A _).put o.dst _ = _
    rw [hA _ γ (fun j hj => by
     by_cases e : j = i
     ·subst e; rw [getD_both hun] at hj; cases hj
     ·simp [e])]
    simp
   rw [e] at this
   exact this
  ·obtain ⟨hw, hx⟩ := hg γ
   simp only [hw, if_true]
   refine .inl ?_
   obtain ⟨_, o2, ho2, hall⟩ := mem_ready.1 hi
   rw [ho] at ho2
   obtain rfl := Option.some.inj ho2
   obtain ⟨ed, hem, heb⟩ := List.any_eq_true.1 haf
   simp only [Bool.and_eq_true] at heb
   have hjl0 := hall ed (Array.mem_toList_iff.1 hem) (by rw [hmd]; exact heb.1)
   have hjl : listed.getD j false = true := by rw [← Nat.eq_of_beq_eq_true heb.2]; exact hjl0
   have hbl := hF.blk j Z hzj hjl
   have hZ : w.heap[γ j]? = some Z := hbl.2.1 fun s Z2 hs => by
    have e2 : s = i := huniq s i j Z2 Z' hs hws
    rw [e2]; exact getD_both hun
   have hS := hx w hF.below hZ
   have hA' : afe (listed.setIfInBounds i true) (A.put o.dst v) := fun β β' hb => by
    show (A β).put o.dst (v β) = (A β').put o.dst (v β')
    rw [hdst]; exact hA β β' (fun k hk => hb k (hnow k hk))
   have hput : ∀ u, (A γ).put o.dst u = (A.put o.dst v) γ := fun u => by show _ = (A γ).put o.dst (v γ); rw [hdst]; rfl
   unfold Oper.wp
   generalize (execOp (A γ).eval o).run P w = r at hS ⊢
   cases r with
   | ok m w' =>
    cases m <;> simp only [apn] at hS <;> simp only [Oper.upon]
    all_goals (rw [hput]; exact l6 hB hmd huniq hL f _ _ _ _ hsz' hA' (hF.stored hz hws hzj hjl (by rw [hsz]; exact hin) (fun s t x y h1 h2 => huniq s t x y _ h1 h2) hS) hk)
   | halt x w' => simp only [apn] at hS
  ·have hA' : afe (listed.setIfInBounds i true) (A.put o.dst (fun _ => u)) := fun β β' hb => by
    show (A β).put o.dst u = (A β').put o.dst u
    rw [hA β β' (fun j hj => hb j (hnow j hj))]
   rcases hg γ with ⟨hw, hx⟩ | ⟨hw, rfl⟩
   ·simp only [hw, if_true]
    refine .inl ?_
    unfold Oper.wp
    have hg' := hx w hF.below
    generalize (execOp (A γ).eval o).run P w = r at hg' ⊢
    cases r with
    | ok m w' =>
     cases m <;> simp only [aiu] at hg' <;> simp only [Oper.upon]
     case enter f' args => exact hg'.mono fun e w'' ⟨he, hs⟩ => by subst he; exact l6 hB hmd huniq hL f _ _ _ _ hsz' hA' (hF.plain hB hz hws hs) hk
     all_goals (obtain ⟨rfl, hs⟩ := hg'; exact l6 hB hmd huniq hL f _ _ _ _ hsz' hA' (hF.plain hB hz hws hs) hk)
    | halt x w' => simp only [aiu] at hg'
   ·simp only [hw, Bool.false_eq_true, if_false]
    exact l6 hB hmd huniq hL f _ _ _ _ hsz' hA' (hF.plain hB hz hws (Below.refl _ _)) hk
theorem aeh {n i : Nat} {oi : Oper} {v : m7 → Value} {L : Array Bool → Fam → Prop} {Inv : Array Bool → Prop} (hi : ops[i]? = some oi) (hsel : ∀ (j : Nat) (o : Oper) cs b, ops[j]? = some o → o.op ≠ .select cs b)
  (hr : HeadRule md ops n Inv) (hin : i < n) (hdone : ∀ listed A, L listed A → ∀ j ∈ Region.ready md ops listed, n ≤ j) :
  ∀ (f : Nat) (listed : Array Bool) (A : Fam), Inv listed →
   (∀ j oj, ops[j]? = some oj → j ≠ i → listed.getD j true = false → (∀ e ∈ oj.after, Region.binds md e = true → e.on ≠ i) → oi.apart ops oj = true) →
   i ∈ Region.ready md ops listed → n0 P ops B w0 Zs Ws i oi v A →
   ab1 P md ops B w0 Zs Ws n L f (listed.setIfInBounds i true) (A.put oi.dst v) → ab1 P md ops B w0 Zs Ws n L (f + 1) listed A := by
 intro f
 induction f with
 | zero =>
  intro listed A inv _ hri hy H
  refine ⟨fun h => (by rw [h] at hri; cases hri), fun j hj => ?_⟩
  have hjn := hr.first listed i inv hin (mem_ready.1 hri).1 j hj
  refine ⟨hjn, ?_⟩
  by_cases hji : j = i
  ·subst hji; exact hy.flOpA hi H
  ·have := hdone _ _ H j (ready_mono hj hji)
   omega
 | succ f ih =>
  intro listed A inv hfree hri hy H
  refine ⟨fun h => (by rw [h] at hri; cases hri), fun j hj => ?_⟩
  have hjn := hr.first listed i inv hin (mem_ready.1 hri).1 j hj
  refine ⟨hjn, ?_⟩
  by_cases hji : j = i
  ·subst hji; exact hy.flOpA hi H
  ·have h1 := (H.2 j (ready_mono hj hji)).2
   obtain ⟨hjun, oj, hoj, hall⟩ := mem_ready.1 hj
   have hnot : ∀ e ∈ oj.after, Region.binds md e = true → e.on ≠ i := fun e he hb heq => by
    have h1 := hall e he hb
    rw [heq, getD_both (mem_ready.1 hri).1] at h1
    cases h1
   have h2 := aix hoj (hfree j oj hoj hji hjun hnot) (fun cs b => hsel i oi cs b hi) (fun cs b => hsel j oj cs b hoj) hy h1
   refine ahs (fun A' h3 => ih (listed.setIfInBounds j true) A' (hr.step _ _ inv hj hjn) ?_ (ready_mono hri (Ne.symm hji)) h3.1 ?_) h2
   ·intro k ok hk hki hun hno
    refine hfree k ok hk hki ?_ hno
    by_cases hjk : j = k
    ·subst hjk; exact hjun
    ·rw [getD_set_ne true hjk] at hun; exact hun
   ·rw [Array.setIfInBounds_comm _ _ hji]
    exact h3.2
def wpFlowA (P : Program) (ops : Array Oper) (B : Nat) (w0 : World) (Zs : Nat → Option Obj) (Ws : Nat → Option (Nat × Obj)) (Q : Fam → Prop) : List Oper → Nat → Fam → Prop
 | [], _, A => Q A
 | o :: rest, k, A => ∃ v, n0 P ops B w0 Zs Ws k o v A ∧ wpFlowA P ops B w0 Zs Ws Q rest (k + 1) (A.put o.dst v)
theorem abz {n g : Nat} {L : Array Bool → Fam → Prop} {Lq : Fam → Prop} {Inv : Array Bool → Prop} (hsel : Region.noSelect ops = true) (hr : HeadRule md ops n Inv)
  (hdone : ∀ listed A, L listed A → ∀ j ∈ Region.ready md ops listed, n ≤ j)
  (hend : ∀ listed A, Region.seqB md ops g n listed = true → (∀ j, j < n → listed.getD j false = true) → Lq A → L listed A) :
  ∀ (l : List Oper) (k : Nat) (listed : Array Bool) (A : Fam), (∀ j, j < l.length → l[j]? = ops[k + j]?) → k + l.length = n → Inv listed → listed.size = ops.size → (∀ j, j < k → listed.getD j false = true) →
  Region.lexHead md ops g l.length k listed = true → wpFlowA P ops B w0 Zs Ws Lq l k A → ab1 P md ops B w0 Zs Ws n L l.length listed A
 | [], k, listed, A, _, hk, _, _, hls, hB, h => by
  have : k = n := by simpa using hk
  subst this
  exact hend _ _ (by simpa [Region.lexHead] using hB) hls h
 | o :: l, k, listed, A, hl, hk, inv, hsz, hls, hB, h => by
  have h0 : ops[k]? = some o := by simpa using (hl 0 (by simp)).symm
  have hin : k < ops.size := (Array.getElem?_eq_some_iff.1 h0).1
  simp only [List.length_cons, Region.lexHead, Bool.and_eq_true] at hB
  obtain ⟨⟨hrd, hf⟩, hB'⟩ := hB
  have hkn : k < n := by simp only [List.length_cons] at hk; omega
  have hr' : k ∈ Region.ready md ops listed := by simpa using hrd
  obtain ⟨v, hy, hK⟩ := h
  refine aeh h0 (Region.noSelect_spec hsel) hr hkn hdone l.length listed A inv (Region.free_spec h0 hf) hr' hy
   (abz hsel hr hdone hend l (k + 1) _ _ (fun j hj => by have := hl (j + 1) (by simp; omega); simpa [Nat.add_assoc, Nat.add_comm 1 j] using this) (by simp only [List.length_cons] at hk; omega) (hr.step _ _ inv hr' hkn) (by simpa using hsz) (fun j hj => ?_) hB' hK)
  by_cases e : k = j
  ·subst e; simp [Array.getD, hsz, hin]
  ·rw [getD_set_ne false e]; exact hls j (by omega)
structure Made (B : Nat) (w0 : World) (Zs : Nat → Option Obj) (Ws : Nat → Option (Nat × Obj)) (n : Nat) (γ : m7) (w : World) : Prop where
 below : Below B w0 w
 blk : ∀ i Z, i < n → Zs i = some Z → B ≤ γ i ∧ γ i < w.heap.size ∧ ((∀ s Z', Ws s ≠ some (i, Z')) → w.heap[γ i]? = some Z) ∧ (∀ s Z', s < n → Ws s = some (i, Z') → w.heap[γ i]? = some Z')
 inj : ∀ i j Z Z', i < n → j < n → Zs i = some Z → Zs j = some Z' → γ i = γ j → i = j
theorem ac2 {id : Nat} {Q : Exit → Act → World → Prop} {a : Act} {w : World} {l : List Oper} (Zs : Nat → Option Obj) (Ws : Nat → Option (Nat × Obj)) (hm : P.follows .mixedOrders = true) (hB : ao1 l.toArray = true) (huniq : ∀ s t x y z, Ws s = some (x, y) → Ws t = some (x, z) → s = t)
  (h : wpFlowA P l.toArray w.drew.heap.size w.drew Zs Ws (fun A => ∀ γ w', Made w.drew.heap.size w.drew Zs Ws l.length γ w' → Q .normal (A γ) w') l 0 (fun _ => a)) : (Code.region id l.toArray true).wp P Q a w := by
 simp only [ao1, Bool.and_eq_true] at hB
 refine wp_region_any hm ?_
 have H := abz (md := .any) (n := l.toArray.size) (g := 0)
  (L := fun listed a' => Region.ready .any l.toArray listed = [] ∧ (∀ j, j < l.length → listed.getD j false = true) ∧ ∀ γ w', Made w.drew.heap.size w.drew Zs Ws l.length γ w' → Q .normal (a' γ) w') (Inv := fun _ => True) hB.1
  ⟨fun _ _ _ _ _ => trivial, fun listed i _ _ _ j hj => by obtain ⟨_, o, ho, _⟩ := mem_ready.1 hj; exact (Array.getElem?_eq_some_iff.1 ho).1⟩
  (fun listed a' hL j hj => by rw [hL.1] at hj; cases hj)
  (fun listed a' hs hls hq => ⟨by simpa [Region.seqB] using hs, fun j hj => hls j (by simpa using hj), hq⟩)
  l 0 (Array.replicate l.toArray.size false) (fun _ => a) (fun j hj => by simp) (by simp) trivial (by simp) (fun j hj => by omega) (by simpa using hB.2) h
 have := l6 (Q' := Q) (g := 0) (Nat.le_refl _) rfl huniq (fun listed' A' γ w' hF hL => by
  have hM : Made w.drew.heap.size w.drew Zs Ws l.length γ w' := ⟨hF.below, fun i Z hi hz => by
   obtain ⟨h1, h2, h3⟩ := hF.blk i Z hz (hL.2.1 i hi)
   exact ⟨h1, hF.lt i Z hz (hL.2.1 i hi), fun hn => h2 fun s Z' hs => absurd hs (hn s Z'), fun s Z' hsn hs => h3 s Z' hs (hL.2.1 s hsn)⟩, fun i j Z Z' hi hj hz hz' => hF.inj i j Z Z' hz hz' (hL.2.1 i hi) (hL.2.1 j hj)⟩
  exact ⟨hL.1, hL.2.2 γ w' hM⟩) _ _ _ (fun _ => 0) _ (by simp) (fun _ _ _ => rfl)
  ⟨Below.refl _ _, fun i Z _ hl => (by rw [getD_replicate_false] at hl; cases hl), fun i Z _ hl => (by rw [getD_replicate_false] at hl; cases hl), fun s i Z' _ hl => (by rw [getD_replicate_false] at hl; cases hl), fun i j Z Z' _ _ hl => (by rw [getD_replicate_false] at hl; cases hl)⟩ H
 simpa using this
end
end Go.Proofs.YtifajndacnfcbaaDoor.SB
namespace Go.Proofs.YtifajndacnfcbaaDoor
open Go Go.RowKit
variable {P : Program} {ops : Array Oper} {Q : Exit → Act → World → Prop} {C : Cx} {H : List HA} {rest : List Oper} {o : Oper}
def ahv : List (Nat × Nat × Obj) → Nat → Option (Nat × Obj)
 | [], _ => none
 | p :: r, i => bif Nat.beq p.1 i then some p.2 else ahv r i
def FS (P : Program) (ops : Array Oper) (T : World → m7 → Act → Prop) (C : Cx) (L : FSl) (H : List HA) (zl : List (Nat × Obj)) (wl : List (Nat × Nat × Obj)) (k : Nat) (l : List Oper) : Prop :=
 ∀ (A : Fam) (w0 : World), (∀ β, Fr C (L β) (A β)) → Hp C H w0 → SB.wpFlowA P ops w0.heap.size w0 (aae zl) (ahv wl) (fun A => ∀ γ, T w0 γ (A γ)) l k A
variable {T : World → m7 → Act → Prop} {L : FSl} {zl : List (Nat × Obj)} {wl : List (Nat × Nat × Obj)} {k : Nat}
theorem FS.val {v : Value} {d : Nat} (hv : ∀ β, OV P C (L β) H o v) (hz : aae zl k = none) (hz2 : ahv wl k = none) (hw : ∀ β, p7 ops (L β) o = some true) (hd : o.dst = some d) (hn : Nat.blt d C.n = true) (h : FS P ops T C (fun β => (d, v) :: L β) H zl wl (k + 1) rest) : FS P ops T C L H zl wl k (o :: rest) := by
 intro A w0 hf hp
 refine ⟨fun _ => v, .inr (.inr ⟨hz, hz2, v, rfl, fun β => .inl ⟨j9 (hf β) (hw β), fun w hb => ?_⟩⟩), ?_⟩
 ·rw [hv β _ w (hf β) (hp.below hb)]
  exact ⟨rfl, Below.refl _ _⟩
 ·rw [hd]; exact h _ w0 (fun β => (hf β).put hn v) hp
theorem FS.skip {d : Nat} (hz : aae zl k = none) (hz2 : ahv wl k = none) (hw : ∀ β, p7 ops (L β) o = some false) (hd : o.dst = some d) (hn : Nat.blt d C.n = true) (h : FS P ops T C (fun β => (d, undef) :: L β) H zl wl (k + 1) rest) : FS P ops T C L H zl wl k (o :: rest) := by
 intro A w0 hf hp
 refine ⟨fun _ => undef, .inr (.inr ⟨hz, hz2, undef, rfl, fun β => .inr ⟨j9 (hf β) (hw β), rfl⟩⟩), ?_⟩
 rw [hd]; exact h _ w0 (fun β => (hf β).put hn undef) hp
theorem FS.make {Z : Obj} {f : Nat → Value} {d : Nat} (hv : ∀ β, MV P C (L β) H o Z f) (hz : aae zl k = some Z) (hz2 : ahv wl k = none) (hw : ∀ β, p7 ops (L β) o = some true) (hd : o.dst = some d) (hn : Nat.blt d C.n = true) (h : FS P ops T C (fun β => (d, f (β k)) :: L β) H zl wl (k + 1) rest) : FS P ops T C L H zl wl k (o :: rest) := by
 intro A w0 hf hp
 refine ⟨fun β => f (β k), .inl ⟨Z, f, hz, hz2, rfl, fun β => ⟨j9 (hf β) (hw β), fun w hb => hv β _ w (hf β) (hp.below hb)⟩⟩, ?_⟩
 rw [hd]; exact h _ w0 (fun β => (hf β).put hn _) hp
theorem FS.call {f : FuncId} {xs : List Operand} {ats : Array TypeId} {d : Nat} {ty : TypeId} {p : String} {e : Array Edge} {g : Option (Nat × Bool)} {vs : List Value} {R : List (Nat × Obj)} {v : Value} (he : k9 P f = true) (hx : ∀ β, evs (L β) xs = some vs)
  (hc : d9 P f vs R [] (Ret v [])) (hR : ROk C H R) (hz : aae zl k = none) (hz2 : ahv wl k = none) (hw : ∀ β, p7 ops (L β) ⟨some d, .call ⟨.value (.func f), xs.toArray, ats⟩, ty, p, e, g⟩ = some true) (hn : Nat.blt d C.n = true)
  (h : FS P ops T C (fun β => (d, v) :: L β) H zl wl (k + 1) rest) : FS P ops T C L H zl wl k (⟨some d, .call ⟨.value (.func f), xs.toArray, ats⟩, ty, p, e, g⟩ :: rest) := by
 intro A w0 hf hp
 refine ⟨fun _ => v, .inr (.inr ⟨hz, hz2, v, rfl, fun β => .inl ⟨j9 (hf β) (hw β), fun w hb => ?_⟩⟩), ?_⟩
 ·rw [ae8 he (hf β) (hx β)]
  have hpw := hp.below hb
  refine (hc w [] rfl List.nodup_nil (fun k hk => by cases hk) (fun q hq => ?_)).mono ?_
  ·refine ⟨?_, by simp⟩
   rcases hR.all q hq with ⟨i, hi⟩ | hm
   ·exact hpw.blk hi
   ·exact hpw.old hm
  ·rintro en w' ⟨H', hS, hh⟩
   rcases hS with ⟨r, rfl, hS⟩ | ⟨c, rfl, hS⟩
   ·cases hS; exact ⟨rfl, hh.toBelow⟩
   ·cases hS
 ·exact h _ w0 (fun β => (hf β).put hn v) hp
theorem FS.set {l : List Oper} (i : Nat) {v u : Value} (hL : ∀ β, (L β).get i = some v) (hv : v = u) (h : FS P ops T C (fun β => (i, u) :: L β) H zl wl k l) : FS P ops T C L H zl wl k l := fun A w0 hf hp => h A w0 (fun β => ⟨(hf β).defers, (hf β).size, fun j x hj => by
 unfold Sl.get at hj
 cases hb : Nat.beq i j with
 | true =>
  obtain rfl : i = j := Nat.eq_of_beq_eq_true hb
  simp only [hb, cond_true, Option.some.injEq] at hj
  rw [← hj, ← hv]; exact (hf β).get _ _ (hL β)
 | false => simp only [hb, cond_false] at hj; exact (hf β).get _ _ hj⟩) hp
theorem FS.weak {l : List Oper} {L' : FSl} (hs : ∀ β, Sub (L β) (L' β)) (h : FS P ops T C L' H zl wl k l) : FS P ops T C L H zl wl k l := fun A w0 hf hp => h A w0 (fun β => (hf β).sub (hs β)) hp
theorem FS.split {l : List Oper} (b : Bool) (ht : b = true → FS P ops T C L H zl wl k l) (hf : b = false → FS P ops T C L H zl wl k l) : FS P ops T C L H zl wl k l := by
 cases b
 ·exact hf rfl
 ·exact ht rfl
theorem FS.nil (h : ∀ (A : Fam) (w0 : World), (∀ β, Fr C (L β) (A β)) → Hp C H w0 → ∀ γ, T w0 γ (A γ)) : FS P ops T C L H zl wl k [] := fun A w0 hf hp => h A w0 hf hp
theorem ajh {B : Nat} {w0 : World} {Zs : Nat → Option Obj} {Ws : Nat → Option (Nat × Obj)} {Qf : Fam → Prop} : ∀ {l1 l2 : List Oper} {k : Nat} {A : Fam}, SB.wpFlowA P ops B w0 Zs Ws (fun A => SB.wpFlowA P ops B w0 Zs Ws Qf l2 (k + l1.length) A) l1 k A → SB.wpFlowA P ops B w0 Zs Ws Qf (l1 ++ l2) k A
 | [], _, _, _, h => h
 | o :: l1, l2, k, A, ⟨v, hv, h⟩ => ⟨v, hv, ajh (by rw [show k + 1 + l1.length = k + (o :: l1).length by simp; omega]; exact h)⟩
theorem FS.cut {l : List Oper} (n : Nat) (hl : Nat.ble n l.length = true) (Lj : FSl) (hj : FS P ops T C Lj H zl wl (k + n) (l.drop n)) (h : ∀ T' : World → m7 → Act → Prop, (∀ (A : Fam) (w0 : World), (∀ β, Fr C (Lj β) (A β)) → Hp C H w0 → ∀ γ, T' w0 γ (A γ)) → FS P ops T' C L H zl wl k (l.take n)) : FS P ops T C L H zl wl k l := by
 have hn : n ≤ l.length := Nat.le_of_ble_eq_true hl
 intro A w0 hf hp
 have hjoin : ∀ (l1 : List Oper) (k0 : Nat) (A : Fam), SB.wpFlowA P ops w0.heap.size w0 (aae zl) (ahv wl) (fun A => ∀ β, Fr C (Lj β) (A β)) l1 k0 A → SB.wpFlowA P ops w0.heap.size w0 (aae zl) (ahv wl) (fun A => SB.wpFlowA P ops w0.heap.size w0 (aae zl) (ahv wl) (fun A => ∀ γ, T w0 γ (A γ)) (l.drop n) (k + n) A) l1 k0 A := by
  intro l1
  induction l1 with
  | nil => intro k0 A h; exact hj A w0 h hp
  | cons o l1 ih => intro k0 A ⟨v, hv, h⟩; exact ⟨v, hv, ih _ _ h⟩
 have h0 : SB.wpFlowA P ops w0.heap.size w0 (aae zl) (ahv wl) (fun A => ∀ β, Fr C (Lj β) (A β)) (l.take n) k A := by
  have := h (fun w0' γ a => w0' = w0 → Fr C (Lj γ) a) (fun A w0' hf' _ γ _ => hf' γ) A w0 hf hp
  have hm : ∀ (l1 : List Oper) (k0 : Nat) (A : Fam), SB.wpFlowA P ops w0.heap.size w0 (aae zl) (ahv wl) (fun A => ∀ γ, w0 = w0 → Fr C (Lj γ) (A γ)) l1 k0 A → SB.wpFlowA P ops w0.heap.size w0 (aae zl) (ahv wl) (fun A => ∀ β, Fr C (Lj β) (A β)) l1 k0 A := by
   intro l1
   induction l1 with
   | nil => intro k0 A h γ; exact h γ rfl
   | cons o l1 ih => intro k0 A ⟨v, hv, h⟩; exact ⟨v, hv, ih _ _ h⟩
  exact hm _ _ _ this
 have := ajh (l1 := l.take n) (l2 := l.drop n) (k := k) (A := A) (P := P) (ops := ops) (B := w0.heap.size) (w0 := w0) (Zs := aae zl) (Ws := ahv wl) (Qf := fun A => ∀ γ, T w0 γ (A γ)) (by
  have hlen : (l.take n).length = n := by simp; omega
  rw [hlen]; exact hjoin _ _ _ h0)
 rwa [List.take_append_drop] at this
theorem FS.store {x y : Operand} {t ty Tt : TypeId} {p : String} {e : Array Edge} {g : Option (Nat × Bool)} {off j : Nat} {v : Value} {cs vs cs' : List Value}
  (hx : ∀ β, ev (L β) x = some (.pointer (some ⟨β j, off, none⟩))) (hy : ∀ β, ev (L β) y = some v) (hz : aae zl k = none) (hj : aae zl j = some (.cells cs.toArray Tt (0, 0))) (hz2 : ahv wl k = some (j, .cells cs'.toArray Tt (0, 0)))
  (haf : (e.toList.any fun e => Region.binds .any e && Nat.beq e.on j) = true) (hv : v.cells = vs.toArray) (hs : o8 P t vs.length = true) (hfit : off + vs.length ≤ cs.length) (h1 : vs.all (·.oneCell') = true) (he : cs.take off ++ vs ++ cs.drop (off + vs.length) = cs')
  (hw : ∀ β, p7 ops (L β) ⟨none, .store t x y, ty, p, e, g⟩ = some true) (h : FS P ops T C L H zl wl (k + 1) rest) : FS P ops T C L H zl wl k (⟨none, .store t x y, ty, p, e, g⟩ :: rest) := by
 intro A w0 hf hp
 refine ⟨fun _ => undef, .inr (.inl ⟨j, _, _, hz, hz2, hj, rfl, haf, fun β => ⟨j9 (hf β) (hw β), fun w hb hZ => ?_⟩⟩), ?_⟩
 ·have hrun := run_storeCells_at (P := P) (β j) off Tt vs 0 cs.toArray w hZ (by simpa using hfit) (by simpa using h1)
  simp only [Nat.add_zero] at hrun
  rw [he] at hrun
  have hst : (storeVar t ⟨β j, off, none⟩ v).run P w = .ok () (w.setRow (β j) cs'.toArray) := by
   simp only [storeVar, Sem.run_bind, aes hs, Result.andThen_ok, hv, List.size_toArray, ne_eq, not_true_eq_false, if_false, hrun]
  simp only [execOp, (hf β).ev (hx β), (hf β).ev (hy β), Instr.storeAt, Instr.sureAddr, Sem.run_bind, Sem.run_pure, Result.andThen_ok, hst]
  exact ⟨rfl, rfl, rfl, by simp [World.setRow], fun k hk => setRow_other w (β j) k _ hk, aer hZ⟩
 ·exact h _ w0 (fun β => (hf β).put0 _) hp
theorem FS.storeW {x y : Operand} {t ty Tt : TypeId} {p : String} {e : Array Edge} {g : Option (Nat × Bool)} {j : Nat} {v : Value} {cs vs : List Value} {n : Nat}
  (hx : ∀ β, ev (L β) x = some (.pointer (some ⟨β j, 0, none⟩))) (hy : ∀ β, ev (L β) y = some v) (hz : aae zl k = none) (hj : aae zl j = some (.cells cs.toArray Tt (0, 0))) (hz2 : ahv wl k = some (j, .cells vs.toArray Tt (0, 0)))
  (haf : (e.toList.any fun e => Region.binds .any e && Nat.beq e.on j) = true) (hv : v.cells = vs.toArray) (hl : vs.length = n) (hs : o8 P t n = true) (hl2 : cs.length = vs.length) (h1 : vs.all (·.oneCell') = true)
  (hw : ∀ β, p7 ops (L β) ⟨none, .store t x y, ty, p, e, g⟩ = some true) (h : FS P ops T C L H zl wl (k + 1) rest) : FS P ops T C L H zl wl k (⟨none, .store t x y, ty, p, e, g⟩ :: rest) :=
 FS.store (cs := cs) (vs := vs) (cs' := vs) hx hy hz hj hz2 haf hv (hl ▸ hs) (by omega) h1 (by
  rw [Nat.zero_add, ← hl2, List.drop_length]; simp) hw h
end Go.Proofs.YtifajndacnfcbaaDoor
