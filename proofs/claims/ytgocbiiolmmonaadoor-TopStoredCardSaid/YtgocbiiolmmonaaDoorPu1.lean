/-
  Merged: Gwg, Gwr, Gws, Gwt, Gwe, Gwb, Gwl, Gwi, Gwk, Gwv, Gwy, Gwz, Gwu, Gwp, Gwq, Gwn, FlowC, Gwj, Gwd, Shelf, ArD, TsT, MpA.
-/
import Derived.Deep.DeepAppendWide
import Derived.Laws.OwnMore
import Derived.Lib.AppendStr
import Derived.Laws.StructEq
import Derived.Lib.Builder
import Derived.Laws.Pointers
import Derived.Laws.Externs
import Derived.Maps.Own
import Derived.Maps.Views
import Derived.Recover
import Derived.Shelf.Strings.Trim
import Derived.Shelf.Small.Utf8
import Derived.Shelf.Small.Strs
import Derived.Shelf.Strconv.Atoi
import Derived.Shelf.Strconv.Itoa0
import Derived.Shelf.Strconv.Itoa1
import Derived.Shelf.LaysM
import Derived.Shelf.Strconv.Itoa2
import Derived.Shelf.Strconv.Itoa3
import Derived.Shelf.Strings.Search1
import Derived.Shelf.Strings.Search2
import Derived.Shelf.Strings.Search3
import Derived.Shelf.Strings.Shaped
import Derived.Shelf.Unicode.Decode
import Derived.Shelf.Strings.Runes
import Derived.Shelf.Strings.AsciiSet
import Derived.Shelf.Unicode.DecodeSlow
import Derived.Shelf.Unicode.DecodeAny
import Derived.Shelf.Unicode.DecodeLast
import Derived.Test.YtgocbiiolmmonaaDoorProg
import Derived.Lib.AtoiErrMem
import Derived.Test.YtgocbiiolmmonaaDoorCards
import Derived.Test.YtgocbiiolmmonaaDoorTie
import Derived.OpenShut
import Derived.LaidLaws
import Derived.ChangeArms
import Derived.Deep.DeepHandedRow
import Derived.Deep.DeepWitnessRowRef
import Derived.Maps.OwnSet
import Derived.StringKeys
import Derived.Test.YtgocbiiolmmonaaDoorPu0
namespace Go.Proofs.YtgocbiiolmmonaaDoor
open Go Go.RowKit
variable {P : Program} {ops : Array Oper} {Q : Exit → Act → World → Prop} {C : Cx} {H : List HA} {rest : List Oper} {o : Oper}
def w1 : List (Nat × Nat × Obj) → Nat → Option (Nat × Obj)
 | [], _ => none
 | p :: r, i => bif Nat.beq p.1 i then some p.2 else w1 r i
def FS (P : Program) (ops : Array Oper) (T : World → i8 → Act → Prop) (C : Cx) (L : FSl) (H : List HA) (zl : List (Nat × Obj)) (wl : List (Nat × Nat × Obj)) (k : Nat) (l : List Oper) : Prop :=
 ∀ (A : Fam) (w0 : World), (∀ β, Fr C (L β) (A β)) → Hp C H w0 → SB.wpFlowA P ops w0.heap.size w0 (n6 zl) (w1 wl) (fun A => ∀ γ, T w0 γ (A γ)) l k A
variable {T : World → i8 → Act → Prop} {L : FSl} {zl : List (Nat × Obj)} {wl : List (Nat × Nat × Obj)} {k : Nat}
theorem FS.val {v : Value} {d : Nat} (hv : ∀ β, OV P C (L β) H o v) (hz : n6 zl k = none) (hz2 : w1 wl k = none) (hw : ∀ β, j4 ops (L β) o = some true) (hd : o.dst = some d) (hn : Nat.blt d C.n = true) (h : FS P ops T C (fun β => (d, v) :: L β) H zl wl (k + 1) rest) : FS P ops T C L H zl wl k (o :: rest) := by
 intro A w0 hf hp
 refine ⟨fun _ => v, .inr (.inr ⟨hz, hz2, v, rfl, fun β => .inl ⟨d9 (hf β) (hw β), fun w hb => ?_⟩⟩), ?_⟩
 ·rw [hv β _ w (hf β) (hp.below hb)]
  exact ⟨rfl, Below.refl _ _⟩
 ·rw [hd]; exact h _ w0 (fun β => (hf β).put hn v) hp
theorem FS.skip {d : Nat} (hz : n6 zl k = none) (hz2 : w1 wl k = none) (hw : ∀ β, j4 ops (L β) o = some false) (hd : o.dst = some d) (hn : Nat.blt d C.n = true) (h : FS P ops T C (fun β => (d, undef) :: L β) H zl wl (k + 1) rest) : FS P ops T C L H zl wl k (o :: rest) := by
 intro A w0 hf hp
 refine ⟨fun _ => undef, .inr (.inr ⟨hz, hz2, undef, rfl, fun β => .inr ⟨d9 (hf β) (hw β), rfl⟩⟩), ?_⟩
 rw [hd]; exact h _ w0 (fun β => (hf β).put hn undef) hp
theorem FS.make {Z : Obj} {f : Nat → Value} {d : Nat} (hv : ∀ β, MV P C (L β) H o Z f) (hz : n6 zl k = some Z) (hz2 : w1 wl k = none) (hw : ∀ β, j4 ops (L β) o = some true) (hd : o.dst = some d) (hn : Nat.blt d C.n = true) (h : FS P ops T C (fun β => (d, f (β k)) :: L β) H zl wl (k + 1) rest) : FS P ops T C L H zl wl k (o :: rest) := by
 intro A w0 hf hp
 refine ⟨fun β => f (β k), .inl ⟨Z, f, hz, hz2, rfl, fun β => ⟨d9 (hf β) (hw β), fun w hb => hv β _ w (hf β) (hp.below hb)⟩⟩, ?_⟩
 rw [hd]; exact h _ w0 (fun β => (hf β).put hn _) hp
theorem FS.call {f : FuncId} {xs : List Operand} {ats : Array TypeId} {d : Nat} {ty : TypeId} {p : String} {e : Array Edge} {g : Option (Nat × Bool)} {vs : List Value} {R : List (Nat × Obj)} {v : Value} (he : n9 P f = true) (hx : ∀ β, evs (L β) xs = some vs)
  (hc : i7 P f vs R [] (Ret v [])) (hR : ROk C H R) (hz : n6 zl k = none) (hz2 : w1 wl k = none) (hw : ∀ β, j4 ops (L β) ⟨some d, .call ⟨.value (.func f), xs.toArray, ats⟩, ty, p, e, g⟩ = some true) (hn : Nat.blt d C.n = true)
  (h : FS P ops T C (fun β => (d, v) :: L β) H zl wl (k + 1) rest) : FS P ops T C L H zl wl k (⟨some d, .call ⟨.value (.func f), xs.toArray, ats⟩, ty, p, e, g⟩ :: rest) := by
 intro A w0 hf hp
 refine ⟨fun _ => v, .inr (.inr ⟨hz, hz2, v, rfl, fun β => .inl ⟨d9 (hf β) (hw β), fun w hb => ?_⟩⟩), ?_⟩
 ·rw [y5 he (hf β) (hx β)]
  have hpw := hp.below hb
  refine (hc w [] rfl List.nodup_nil (fun k hk => by cases hk) (fun q hq => ?_)).mono ?_
  ·refine ⟨?_, by simp⟩
   rcases hR.all q hq with ⟨i, hi⟩ | hm
   ·exact hpw.blk hi
   ·exact hpw.old hm
  ·rintro en w' ⟨H', hS, hh⟩
   rcases hS with ⟨r, rfl, hS⟩ | ⟨c, rfl, hS⟩
   ·cases hS; exact ⟨rfl, hh.toBelow⟩
   ·cases hS
 ·exact h _ w0 (fun β => (hf β).put hn v) hp
theorem FS.set {l : List Oper} (i : Nat) {v u : Value} (hL : ∀ β, (L β).get i = some v) (hv : v = u) (h : FS P ops T C (fun β => (i, u) :: L β) H zl wl k l) : FS P ops T C L H zl wl k l := fun A w0 hf hp => h A w0 (fun β => ⟨(hf β).defers, (hf β).size, fun j x hj => by
 unfold Sl.get at hj
 cases hb : Nat.beq i j with
 | true =>
  obtain rfl : i = j := Nat.eq_of_beq_eq_true hb
  simp only [hb, cond_true, Option.some.injEq] at hj
  rw [← hj, ← hv]; exact (hf β).get _ _ (hL β)
 | false => simp only [hb, cond_false] at hj; exact (hf β).get _ _ hj⟩) hp
theorem FS.weak {l : List Oper} {L' : FSl} (hs : ∀ β, Sub (L β) (L' β)) (h : FS P ops T C L' H zl wl k l) : FS P ops T C L H zl wl k l := fun A w0 hf hp => h A w0 (fun β => (hf β).sub (hs β)) hp
theorem FS.split {l : List Oper} (b : Bool) (ht : b = true → FS P ops T C L H zl wl k l) (hf : b = false → FS P ops T C L H zl wl k l) : FS P ops T C L H zl wl k l := by
 cases b
 ·exact hf rfl
 ·exact ht rfl
theorem FS.nil (h : ∀ (A : Fam) (w0 : World), (∀ β, Fr C (L β) (A β)) → Hp C H w0 → ∀ γ, T w0 γ (A γ)) : FS P ops T C L H zl wl k [] := fun A w0 hf hp => h A w0 hf hp
theorem ac5 {B : Nat} {w0 : World} {Zs : Nat → Option Obj} {Ws : Nat → Option (Nat × Obj)} {Qf : Fam → Prop} : ∀ {l1 l2 : List Oper} {k : Nat} {A : Fam}, SB.wpFlowA P ops B w0 Zs Ws (fun A => SB.wpFlowA P ops B w0 Zs Ws Qf l2 (k + l1.length) A) l1 k A → SB.wpFlowA P ops B w0 Zs Ws Qf (l1 ++ l2) k A
 | [], _, _, _, h => h
 | o :: l1, l2, k, A, ⟨v, hv, h⟩ => ⟨v, hv, ac5 (by rw [show k + 1 + l1.length = k + (o :: l1).length by simp; omega]; exact h)⟩
theorem FS.cut {l : List Oper} (n : Nat) (hl : Nat.ble n l.length = true) (Lj : FSl) (hj : FS P ops T C Lj H zl wl (k + n) (l.drop n)) (h : ∀ T' : World → i8 → Act → Prop, (∀ (A : Fam) (w0 : World), (∀ β, Fr C (Lj β) (A β)) → Hp C H w0 → ∀ γ, T' w0 γ (A γ)) → FS P ops T' C L H zl wl k (l.take n)) : FS P ops T C L H zl wl k l := by
 have hn : n ≤ l.length := Nat.le_of_ble_eq_true hl
 intro A w0 hf hp
 have hjoin : ∀ (l1 : List Oper) (k0 : Nat) (A : Fam), SB.wpFlowA P ops w0.heap.size w0 (n6 zl) (w1 wl) (fun A => ∀ β, Fr C (Lj β) (A β)) l1 k0 A → SB.wpFlowA P ops w0.heap.size w0 (n6 zl) (w1 wl) (fun A => SB.wpFlowA P ops w0.heap.size w0 (n6 zl) (w1 wl) (fun A => ∀ γ, T w0 γ (A γ)) (l.drop n) (k + n) A) l1 k0 A := by
  intro l1
  induction l1 with
  | nil => intro k0 A h; exact hj A w0 h hp
  | cons o l1 ih => intro k0 A ⟨v, hv, h⟩; exact ⟨v, hv, ih _ _ h⟩
 have h0 : SB.wpFlowA P ops w0.heap.size w0 (n6 zl) (w1 wl) (fun A => ∀ β, Fr C (Lj β) (A β)) (l.take n) k A := by
  have := h (fun w0' γ a => w0' = w0 → Fr C (Lj γ) a) (fun A w0' hf' _ γ _ => hf' γ) A w0 hf hp
  have hm : ∀ (l1 : List Oper) (k0 : Nat) (A : Fam), SB.wpFlowA P ops w0.heap.size w0 (n6 zl) (w1 wl) (fun A => ∀ γ, w0 = w0 → Fr C (Lj γ) (A γ)) l1 k0 A → SB.wpFlowA P ops w0.heap.size w0 (n6 zl) (w1 wl) (fun A => ∀ β, Fr C (Lj β) (A β)) l1 k0 A := by
   intro l1
   induction l1 with
   | nil => intro k0 A h γ; exact h γ rfl
   | cons o l1 ih => intro k0 A ⟨v, hv, h⟩; exact ⟨v, hv, ih _ _ h⟩
  exact hm _ _ _ this
 have := ac5 (l1 := l.take n) (l2 := l.drop n) (k := k) (A := A) (P := P) (ops := ops) (B := w0.heap.size) (w0 := w0) (Zs := n6 zl) (Ws := w1 wl) (Qf := fun A => ∀ γ, T w0 γ (A γ)) (by
  have hlen : (l.take n).length = n := by simp; omega
  rw [hlen]; exact hjoin _ _ _ h0)
 rwa [List.take_append_drop] at this
theorem FS.store {x y : Operand} {t ty Tt : TypeId} {p : String} {e : Array Edge} {g : Option (Nat × Bool)} {off j : Nat} {v : Value} {cs vs cs' : List Value}
  (hx : ∀ β, ev (L β) x = some (.pointer (some ⟨β j, off, none⟩))) (hy : ∀ β, ev (L β) y = some v) (hz : n6 zl k = none) (hj : n6 zl j = some (.cells cs.toArray Tt (0, 0))) (hz2 : w1 wl k = some (j, .cells cs'.toArray Tt (0, 0)))
  (haf : (e.toList.any fun e => Region.binds .any e && Nat.beq e.on j) = true) (hv : v.cells = vs.toArray) (hs : p8 P t vs.length = true) (hfit : off + vs.length ≤ cs.length) (h1 : vs.all (·.oneCell') = true) (he : cs.take off ++ vs ++ cs.drop (off + vs.length) = cs')
  (hw : ∀ β, j4 ops (L β) ⟨none, .store t x y, ty, p, e, g⟩ = some true) (h : FS P ops T C L H zl wl (k + 1) rest) : FS P ops T C L H zl wl k (⟨none, .store t x y, ty, p, e, g⟩ :: rest) := by
 intro A w0 hf hp
 refine ⟨fun _ => undef, .inr (.inl ⟨j, _, _, hz, hz2, hj, rfl, haf, fun β => ⟨d9 (hf β) (hw β), fun w hb hZ => ?_⟩⟩), ?_⟩
 ·have hrun := run_storeCells_at (P := P) (β j) off Tt vs 0 cs.toArray w hZ (by simpa using hfit) (by simpa using h1)
  simp only [Nat.add_zero] at hrun
  rw [he] at hrun
  have hst : (storeVar t ⟨β j, off, none⟩ v).run P w = .ok () (w.setRow (β j) cs'.toArray) := by
   simp only [storeVar, Sem.run_bind, aaj hs, Result.andThen_ok, hv, List.size_toArray, ne_eq, not_true_eq_false, if_false, hrun]
  simp only [execOp, (hf β).ev (hx β), (hf β).ev (hy β), Instr.storeAt, Instr.sureAddr, Sem.run_bind, Sem.run_pure, Result.andThen_ok, hst]
  exact ⟨rfl, rfl, rfl, by simp [World.setRow], fun k hk => setRow_other w (β j) k _ hk, aao hZ⟩
 ·exact h _ w0 (fun β => (hf β).put0 _) hp
theorem FS.storeW {x y : Operand} {t ty Tt : TypeId} {p : String} {e : Array Edge} {g : Option (Nat × Bool)} {j : Nat} {v : Value} {cs vs : List Value} {n : Nat}
  (hx : ∀ β, ev (L β) x = some (.pointer (some ⟨β j, 0, none⟩))) (hy : ∀ β, ev (L β) y = some v) (hz : n6 zl k = none) (hj : n6 zl j = some (.cells cs.toArray Tt (0, 0))) (hz2 : w1 wl k = some (j, .cells vs.toArray Tt (0, 0)))
  (haf : (e.toList.any fun e => Region.binds .any e && Nat.beq e.on j) = true) (hv : v.cells = vs.toArray) (hl : vs.length = n) (hs : p8 P t n = true) (hl2 : cs.length = vs.length) (h1 : vs.all (·.oneCell') = true)
  (hw : ∀ β, j4 ops (L β) ⟨none, .store t x y, ty, p, e, g⟩ = some true) (h : FS P ops T C L H zl wl (k + 1) rest) : FS P ops T C L H zl wl k (⟨none, .store t x y, ty, p, e, g⟩ :: rest) :=
 FS.store (cs := cs) (vs := vs) (cs' := vs) hx hy hz hj hz2 haf hv (hl ▸ hs) (by omega) h1 (by
  rw [Nat.zero_add, ← hl2, List.drop_length]; simp) hw h
def fin (wl : List (Nat × Nat × Obj)) (i : Nat) (Z : Obj) : Obj := match wl with
 | [] => Z
 | p :: r => bif Nat.beq p.2.1 i then p.2.2 else fin r i Z
def agw (zl : List (Nat × Obj)) (wl : List (Nat × Nat × Obj)) (γ : i8) (H : List HA) : List HA := match zl with
 | [] => H
 | p :: r => .blk (γ p.1) (fin wl p.1 p.2) :: agw r wl γ H
def ahb (n : Nat) (wl : List (Nat × Nat × Obj)) : Bool := n3 (wl.map (·.1)) && n3 (wl.map (·.2.1)) && wl.all (fun p => Nat.blt p.1 n)
theorem ad6 {wl : List (Nat × Nat × Obj)} {s : Nat} {x : Nat × Obj} (h : w1 wl s = some x) : (s, x) ∈ wl := by
 induction wl with
 | nil => cases h
 | cons q r ih =>
  unfold w1 at h
  cases hb : Nat.beq q.1 s with
  | true =>
   rw [hb] at h
   have e1 : q.1 = s := Nat.eq_of_beq_eq_true hb
   have e2 : q.2 = x := by simpa using h
   rw [← e1, ← e2]; exact List.mem_cons_self ..
  | false => rw [hb] at h; exact List.mem_cons_of_mem _ (ih h)
theorem al3 {wl : List (Nat × Nat × Obj)} (hn : (wl.map (·.1)).Nodup) {p : Nat × Nat × Obj} (hp : p ∈ wl) : w1 wl p.1 = some p.2 := by
 induction wl with
 | nil => cases hp
 | cons q r ih =>
  unfold w1
  rw [List.map_cons, List.nodup_cons] at hn
  rcases List.mem_cons.1 hp with rfl | hp
  ·simp
  ·have hne : ¬ q.1 = p.1 := fun e => hn.1 (e ▸ List.mem_map_of_mem hp)
   have : Nat.beq q.1 p.1 = false := by
    cases hb : Nat.beq q.1 p.1 with
    | false => rfl
    | true => exact absurd (Nat.eq_of_beq_eq_true hb) hne
   rw [this]; exact ih hn.2 hp
theorem aiu {α β : Type} {f : α → β} : ∀ {l : List α}, (l.map f).Nodup → ∀ {x y : α}, x ∈ l → y ∈ l → f x = f y → x = y
 | [], _, _, _, hx, _, _ => by cases hx
 | a :: l, hn, x, y, hx, hy, he => by
  rw [List.map_cons, List.nodup_cons] at hn
  rcases List.mem_cons.1 hx with e1 | hx2
  ·rcases List.mem_cons.1 hy with e2 | hy2
   ·rw [e1, e2]
   ·rw [e1] at he; exact absurd (he ▸ List.mem_map_of_mem hy2) hn.1
  ·rcases List.mem_cons.1 hy with e2 | hy2
   ·rw [e2] at he; exact absurd (he ▸ List.mem_map_of_mem hx2) hn.1
   ·exact aiu hn.2 hx2 hy2 he
theorem ahy {n : Nat} (hw : ahb n wl = true) : ∀ s t x y z, w1 wl s = some (x, y) → w1 wl t = some (x, z) → s = t := fun s t x y z h1 h2 => by
 simp only [ahb, Bool.and_eq_true] at hw
 have := aiu (s5 hw.1.2) (ad6 h1) (ad6 h2) rfl
 exact (Prod.mk.inj this).1
theorem aj9 {i : Nat} {Z : Obj} (h : ∀ p ∈ wl, p.2.1 ≠ i) : fin wl i Z = Z := by
 induction wl with
 | nil => rfl
 | cons q r ih =>
  unfold fin
  have : Nat.beq q.2.1 i = false := by
   cases hb : Nat.beq q.2.1 i with
   | false => rfl
   | true => exact absurd (Nat.eq_of_beq_eq_true hb) (h q (List.mem_cons_self ..))
  rw [this]; exact ih fun p hp => h p (List.mem_cons_of_mem _ hp)
theorem akn {i : Nat} {Z : Obj} (hn : (wl.map (·.2.1)).Nodup) {p : Nat × Nat × Obj} (hp : p ∈ wl) (hi : p.2.1 = i) : fin wl i Z = p.2.2 := by
 induction wl with
 | nil => cases hp
 | cons q r ih =>
  unfold fin
  rw [List.map_cons, List.nodup_cons] at hn
  rcases List.mem_cons.1 hp with rfl | hp
  ·simp [hi]
  ·have : Nat.beq q.2.1 i = false := by
    cases hb : Nat.beq q.2.1 i with
    | false => rfl
    | true => exact absurd ((Nat.eq_of_beq_eq_true hb).trans hi.symm ▸ List.mem_map_of_mem (f := (·.2.1)) hp) hn.1
   rw [this]; exact ih hn.2 hp
theorem ali {n : Nat} {w0 w : World} {γ : i8} (hp : Hp C H w0) (hz : ae7 n zl = true) (hw : ahb n wl = true) (hm : SB.Made w0.heap.size w0 (n6 zl) (w1 wl) n γ w) : Hp C (agw zl wl γ H) w := by
 simp only [ae7, Bool.and_eq_true, List.all_eq_true] at hz
 simp only [ahb, Bool.and_eq_true, List.all_eq_true] at hw
 have hnd := s5 hz.1
 have hwd := s5 hw.1.1
 have hwd2 := s5 hw.1.2
 have hb := hp.below hm.below
 obtain ⟨F, h1, h2, h3⟩ := hp.own
 have hF : ∀ k ∈ F, k < w0.heap.size := fun k hk => (h3 k hk).1
 have hq : ∀ q ∈ zl, w.heap[γ q.1]? = some (fin wl q.1 q.2) ∧ w0.heap.size ≤ γ q.1 := fun q hqm => by
  obtain ⟨g1, _, g3, g4⟩ := hm.blk q.1 q.2 (Nat.blt_eq ▸ hz.2 q hqm) (aav hnd hqm)
  refine ⟨?_, g1⟩
  by_cases hex : ∃ p ∈ wl, p.2.1 = q.1
  ·obtain ⟨p, hpm, he⟩ := hex
   rw [akn hwd2 hpm he]
   exact g4 p.1 p.2.2 (Nat.blt_eq ▸ hw.2 p hpm) (by rw [al3 hwd hpm, ← he])
  ·rw [aj9 fun p hpm he => hex ⟨p, hpm, he⟩]
   exact g3 fun s Z' hs => hex ⟨_, ad6 hs, rfl⟩
 have key : ∀ zl' : List (Nat × Obj), (zl'.map (·.1)).Nodup → (∀ p ∈ zl', p ∈ zl) → Own w (agw zl' wl γ H) (zl'.map (fun p => γ p.1) ++ F) ∧ (zl'.map (fun p => γ p.1) ++ F).Nodup := by
  intro zl'
  induction zl' with
  | nil => intro _ _; exact ⟨by simpa [agw] using h1.keep fun k hk => hm.below.block k (hF k hk), by simpa using h2⟩
  | cons q r ih =>
   intro hn hsub
   rw [List.map_cons, List.nodup_cons] at hn
   obtain ⟨i1, i2⟩ := ih hn.2 fun p hp => hsub p (List.mem_cons_of_mem _ hp)
   have hqm := hsub q (List.mem_cons_self ..)
   have hq1 := hq q hqm
   refine ⟨⟨[γ q.1], r.map (fun p => γ p.1) ++ F, rfl, ⟨rfl, hq1.1⟩, i1⟩, ?_⟩
   show (γ q.1 :: (r.map (fun p => γ p.1) ++ F)).Nodup
   refine List.nodup_cons.2 ⟨fun hmem => ?_, i2⟩
   rcases List.mem_append.1 hmem with hmem | hmem
   ·obtain ⟨p, hp', he⟩ := List.mem_map.1 hmem
    have hpm := hsub p (List.mem_cons_of_mem _ hp')
    have := hm.inj q.1 p.1 q.2 p.2 (Nat.blt_eq ▸ hz.2 q hqm) (Nat.blt_eq ▸ hz.2 p hpm) (aav hnd hqm) (aav hnd hpm) he.symm
    exact hn.1 (this ▸ List.mem_map_of_mem hp')
   ·have := hF _ hmem; omega
 obtain ⟨k1, k2⟩ := key zl hnd fun _ h => h
 refine ⟨hb.os, hb.tape, hb.output, hb.size, hb.keep, hb.ro, _, k1, k2, fun k hk => ?_⟩
 rcases List.mem_append.1 hk with hk | hk
 ·obtain ⟨p, hp', rfl⟩ := List.mem_map.1 hk
  have hq1 := hq p hp'
  exact ⟨n8 hq1.1, .inl (Nat.le_trans hp.size hq1.2)⟩
 ·exact ⟨Nat.lt_of_lt_of_le (h3 k hk).1 hm.below.size, (h3 k hk).2⟩
theorem ad4 {id : Nat} {l : List Oper} {L : Sl} (zl : List (Nat × Obj)) (wl : List (Nat × Nat × Obj)) (hm : P.follows .mixedOrders = true) (hB : aep l.toArray = true) (hz : ae7 l.length zl = true) (hw : ahb l.length wl = true)
  (h : ∀ T : World → i8 → Act → Prop, (∀ (L' : FSl), (∀ γ, QX Q .normal C (L' γ) (agw zl wl γ H)) → ∀ (A : Fam) (w0 : World), (∀ β, Fr C (L' β) (A β)) → Hp C H w0 → ∀ γ, T w0 γ (A γ)) → FS P l.toArray T C (fun _ => L) H zl wl 0 l) : WC P (.region id l.toArray true) Q C L H := by
 intro a w hf hp
 refine SB.wp_region_flowA_all (n6 zl) (w1 wl) hm hB (ahy hw) ?_
 have h1 := h (fun w0 γ a' => ∀ w', SB.Made w0.heap.size w0 (n6 zl) (w1 wl) l.length γ w' → Q .normal a' w')
  (fun L' hL A w0 hA hw0 γ w' hmade => hL γ (A γ) w' (hA γ) (ali hw0 hz hw hmade)) (fun _ => a) w.drew (fun _ => hf) hp.drew
 have hm : ∀ (l1 : List Oper) (k0 : Nat) (A : Fam), SB.wpFlowA P l.toArray w.drew.heap.size w.drew (n6 zl) (w1 wl) (fun A => ∀ γ w', SB.Made w.drew.heap.size w.drew (n6 zl) (w1 wl) l.length γ w' → Q .normal (A γ) w') l1 k0 A → SB.wpFlowA P l.toArray w.drew.heap.size w.drew (n6 zl) (w1 wl) (fun A => ∀ γ w', SB.Made w.drew.heap.size w.drew (n6 zl) (w1 wl) l.length γ w' → Q .normal (A γ) w') l1 k0 A := fun _ _ _ h => h
 exact hm _ _ _ h1
end Go.Proofs.YtgocbiiolmmonaaDoor
namespace Go.Proofs.YtgocbiiolmmonaaDoor
open Go Go.RowKit
variable {P : Program} {ops : Array Oper} {Q : Exit → Act → World → Prop} {C : Cx} {L : Sl} {H : List HA} {rest : List Oper} {o : Oper} {w : World}
def aiz : Value → Nat
 | .slice (some a) _ _ => a.block
 | _ => 0
theorem afo : ∀ {Fs : List (List Nat)} {i : Nat} {F F' : List Nat}, Fs.flatten.Nodup → Fs[i]? = some F → F'.Nodup → (∀ k ∈ F', k ∈ F ∨ ∀ G ∈ Fs, k ∉ G) → (Fs.set i F').flatten.Nodup
 | [], i, F, F', _, h, _, _ => by simp at h
 | G :: Fs, 0, F, F', hn, h, hF, hk => by
  simp at h
  subst h
  rw [List.flatten_cons, List.nodup_append] at hn
  rw [List.set_cons_zero, List.flatten_cons, List.nodup_append]
  refine ⟨hF, hn.2.1, fun x hx y hy e => ?_⟩
  subst e
  obtain ⟨G', hG', hxG⟩ := List.mem_flatten.1 hy
  rcases hk x hx with h1 | h1
  ·exact hn.2.2 x h1 x hy rfl
  ·exact h1 G' (List.mem_cons_of_mem _ hG') hxG
 | G :: Fs, i + 1, F, F', hn, h, hF, hk => by
  simp at h
  rw [List.flatten_cons, List.nodup_append] at hn
  rw [List.set_cons_succ, List.flatten_cons, List.nodup_append]
  refine ⟨hn.1, afo hn.2.1 h hF fun k hkk => (hk k hkk).imp_right fun h1 G' hG' => h1 G' (List.mem_cons_of_mem _ hG'), fun x hx y hy e => ?_⟩
  subst e
  obtain ⟨G', hG', hxG⟩ := List.mem_flatten.1 hy
  rcases List.mem_or_eq_of_mem_set hG' with h1 | h1
  ·exact hn.2.2 x hx x (List.mem_flatten.2 ⟨G', h1, hxG⟩) rfl
  ·subst h1
   rcases hk x hxG with h2 | h2
   ·exact hn.2.2 x hx x (List.mem_flatten.2 ⟨F, List.mem_of_getElem? h, h2⟩) rfl
   ·exact h2 G (List.mem_cons_self ..) hx
theorem afw {w' : World} : ∀ {Fs : List (List Nat)} {H : List HA} {i : Nat} {x' : HA} {F' : List Nat}, Fs.length = H.length → (∀ (j : Nat) (h : HA) (f : List Nat), H[j]? = some h → j ≠ i → Fs[j]? = some f → h.at w' f) → x'.at w' F' → Own w' (H.set i x') (Fs.set i F').flatten
 | [], [], i, x', F', _, _, _ => by simp [Own]
 | [], _ :: _, _, _, _, hl, _, _ => by simp at hl
 | _ :: _, [], _, _, _, hl, _, _ => by simp at hl
 | F :: Fs, h0 :: H, 0, x', F', hl, hall, hx => by
  refine ⟨F', Fs.flatten, by simp, hx, ?_⟩
  have := afw (w' := w') (Fs := Fs) (H := H) (i := H.length) (x' := x') (F' := F') (by simpa using hl) (fun j h f hh _ hf => hall (j + 1) h f (by simpa using hh) (by omega) (by simpa using hf)) hx
  have hl' : Fs.length = H.length := by simpa using hl
  rwa [List.set_eq_of_length_le (Nat.le_refl _), List.set_eq_of_length_le (by omega)] at this
 | F :: Fs, h0 :: H, i + 1, x', F', hl, hall, hx => by
  refine ⟨F, (Fs.set i F').flatten, by simp, hall 0 h0 F (by simp) (by omega) (by simp), ?_⟩
  exact afw (by simpa using hl) (fun j h f hh hn hf => hall (j + 1) h f (by simpa using hh) (by omega) (by simpa using hf)) hx
theorem Hp.swap (h : Hp C H w) {w' : World} {i : Nat} {x x' : HA} (hi : H[i]? = some x) (hos : w'.os = w.os) (htape : w'.tape = w.tape) (hout : w'.output = w.output) (hsz : w.heap.size ≤ w'.heap.size)
  (hoth : ∀ F, x.at w F → ∀ k, k < w.heap.size → k ∉ F → w'.heap[k]? = w.heap[k]?)
  (hst : ∀ F, x.at w F → F.Nodup → ∃ F', x'.at w' F' ∧ F'.Nodup ∧ (∀ k ∈ F', (k ∈ F ∨ w.heap.size ≤ k) ∧ k < w'.heap.size)) : Hp C (H.set i x') w' := by
 obtain ⟨F0, h1, h2, h3⟩ := h.own
 obtain ⟨Fs, hl, rfl, hall⟩ := h1.parts
 have hlt : i < Fs.length := by rw [hl]; exact (List.getElem?_eq_some_iff.1 hi).1
 have hfi : Fs[i]? = some Fs[i] := List.getElem?_eq_getElem hlt
 have hx := hall i _ _ hi hfi
 obtain ⟨F', k1, k2, k3⟩ := hst _ hx (ad8 h2 hfi)
 have hmem : ∀ G ∈ Fs, ∀ k ∈ G, k < w.heap.size ∧ (C.w0.heap.size ≤ k ∨ k ∈ C.M) := fun G hG k hk => h3 k (List.mem_flatten.2 ⟨G, hG, hk⟩)
 refine ⟨hos.trans h.os, htape.trans h.tape, hout.trans h.output, Nat.le_trans h.size hsz, fun k hk hM => ?_, h.ro, (Fs.set i F').flatten, ?_, ?_, fun k hk => ?_⟩
 ·rw [hoth _ hx k (by have := h.size; omega) (fun hm => by
   rcases (hmem _ (List.mem_of_getElem? hfi) k hm).2 with h4 | h4
   ·omega
   ·exact hM h4)]
  exact h.keep k hk hM
 ·refine afw hl (fun j hj f hjj hne hf => ?_) k1
  refine HA.at_keep (hall j hj f hjj hf) fun k hk => hoth _ hx k (hmem f (List.mem_of_getElem? hf) k hk).1 fun hm => ?_
  exact aai h2 hf hfi hne k hk hm
 ·refine afo h2 hfi k2 fun k hk => ?_
  rcases (k3 k hk).1 with h4 | h4
  ·exact .inl h4
  ·exact .inr fun G hG hkG => by have := (hmem G hG k hkG).1; omega
 ·obtain ⟨G, hG, hkG⟩ := List.mem_flatten.1 hk
  rcases List.mem_or_eq_of_mem_set hG with h4 | h4
  ·exact ⟨Nat.lt_of_lt_of_le (hmem G h4 k hkG).1 hsz, (hmem G h4 k hkG).2⟩
  ·subst h4
   refine ⟨(k3 k hkG).2, ?_⟩
   rcases (k3 k hkG).1 with h5 | h5
   ·exact (hmem _ (List.mem_of_getElem? hfi) k h5).2
   ·exact .inl (Nat.le_trans h.size h5)
theorem Hp.row (h : Hp C H w) {i : Nat} {v : Value} {t : TypeId} {sz n : Nat} {xs : List Value} (hi : H[i]? = some (.row v t sz n xs)) : w.ownsRow 0 t sz v n xs := by
 obtain ⟨F, h1, _, _⟩ := h.own
 obtain ⟨Fs, hl, _, hall⟩ := h1.parts
 have hlt : i < Fs.length := by rw [hl]; exact (List.getElem?_eq_some_iff.1 hi).1
 exact (hall i _ _ hi (List.getElem?_eq_getElem hlt)).2
section lists
variable {α : Type} {f : α → List Value} {sz : Nat}
theorem v8 (hf : ∀ x, (f x).length = sz) : ∀ l : List α, (l.flatMap f).length = l.length * sz
 | [] => by simp
 | x :: l => by rw [List.flatMap_cons, List.length_append, hf, v8 hf l, List.length_cons, Nat.add_mul]; omega
theorem acv (hf : ∀ x, (f x).length = sz) : ∀ (l : List α) (i : Nat), (l.flatMap f).drop (i * sz) = (l.drop i).flatMap f
 | l, 0 => by simp
 | [], i + 1 => by simp
 | x :: l, i + 1 => by
  rw [List.flatMap_cons, Nat.add_mul, Nat.one_mul, Nat.add_comm, ← List.drop_drop, List.drop_left' (hf x), acv hf l i]; rfl
theorem al6 [Inhabited α] (hf : ∀ x, (f x).length = sz) {l : List α} {i : Nat} (hi : i < l.length) : ((l.flatMap f).drop (i * sz)).take sz = f (l.getD i default) := by
 rw [acv hf, List.drop_eq_getElem_cons hi, List.flatMap_cons, List.take_left' (hf _), List.getD_eq_getElem?_getD, List.getElem?_eq_getElem hi]; rfl
theorem ahh [Inhabited α] (hf : ∀ x, (f x).length = sz) {l : List α} {i o : Nat} {u : Value} (hi : i < l.length) (hu : (f (l.getD i default))[o]? = some u) : (l.flatMap f)[i * sz + o]? = some u := by
 have ho : o < sz := by rw [← hf (l.getD i default)]; exact (List.getElem?_eq_some_iff.1 hu).1
 rw [← al6 hf hi, List.getElem?_take, if_pos ho, List.getElem?_drop] at hu
 exact hu
end lists
section ov
variable {x y : Operand} {t e' ty T : TypeId} {d : Option Tmp} {p : String} {e : Array Edge} {g : Option (Nat × Bool)} {v : Value} {k : IntKind} {sz n : Nat} {xs : List Value} {α : Type} [Inhabited α] {f : α → List Value} {l : List α}
end ov
section st
variable {x y : Operand} {t ty T : TypeId} {p : String} {e : Array Edge} {g : Option (Nat × Bool)} {v u : Value} {sz n off : Nat} {xs vs xs' : List Value} {α : Type} [Inhabited α] {f : α → List Value} {l : List α}
end st
def agr (P : Program) (e : TypeId) : Option (List Value × Nat × Nat) := match P.info? e with
 | some i => match i.zero with
  | some z => some (z.cells.toList, i.size, i.bytes)
  | none => none
 | none => none
theorem aen {e : TypeId} {zs : List Value} {sz bytes : Nat} (h : agr P e = some (zs, sz, bytes)) : ∃ i z, P.info? e = some i ∧ i.zero = some z ∧ z.cells = zs.toArray ∧ i.size = sz ∧ i.bytes = bytes := by
 unfold agr at h
 cases hq : P.info? e with
 | none => simp [hq] at h
 | some i =>
  cases hz : i.zero with
  | none => simp [hq, hz] at h
  | some z => simp [hq, hz] at h; exact ⟨i, z, rfl, hz, by rw [← h.1], h.2.1, h.2.2⟩
theorem ae8 {w : World} {t ty e : TypeId} {i : TypeInfo} {z : Value} {size bytes : Nat} (ht : P.underlying t = some (.slice e)) (hi : P.info? e = some i) (hz : i.zero = some z)
  (hsize : i.size = size) (hby : i.bytes = bytes) {v : Value} {n : Nat} {xs : List Value} (hown : w.ownsRow 0 e size v n xs)
  {a : Addr} {m c : Nat} {news : List Value} (hl : news.length = m * size) (hnews : ∀ j u, news[j]? = some u → w.cell? (a.add j) = some u) (h1 : ∀ u ∈ news, u.oneCell' = true)
  (h63 : n + m ≤ 9223372036854775807) (hbytes : ((n + m) + (n + m) / 4 + 192) * bytes ≤ 281474976710656) {v' : Value} {w' : World} (hr : (Builtin.append_ #[t, t] ty #[v, .slice (some a) m c]).run P w = .ok v' w') {k : Nat} (hk : v'.ownBlock = some k) : v.ownBlock = some k ∨ w.heap.size ≤ k := by
 subst hsize
 subst hby
 rcases hown.2 with ⟨rfl, rfl⟩ | ⟨g, cap, cur, rfl, _, hg, hnc, _, hcs, _⟩
 ·by_cases hm : m = 0
  ·subst hm
   have hn : news = [] := List.eq_nil_of_length_eq_zero (by simpa using hl)
   subst hn
   have : (Builtin.append_ #[t, t] ty #[.slice none 0 0, .slice (some a) 0 c]).run P w = .ok (.slice none 0 0) w := by
    simp [Builtin.append_, run_underlying ht, sizeOf, typeInfo, hi, Builtin.lenOf, Builtin.firstCells, loadCells, loadCellsFrom]
   rw [this] at hr
   cases hr
   simp [Value.ownBlock] at hk
  ·rw [run_append_nil (P := P) w t ty e i z ht hi hz a m c news hl hnews (by omega) (by omega) (by have hb := hbytes; simp only [Nat.zero_add] at hb; exact Nat.le_trans (Nat.mul_le_mul_right _ (by omega)) hb)] at hr
   cases hr
   simp [Value.ownBlock] at hk
   exact .inr (by omega)
 ·by_cases hroom : n + m ≤ cap
  ·have hfit : n * i.size + news.length ≤ cur.size := by rw [hl, hcs, ← Nat.add_mul]; exact Nat.mul_le_mul_right _ hroom
   rw [run_append_room (P := P) w t ty e i ht hi g n cap cur hg a m c news hl hnews h1 hroom hfit] at hr
   cases hr
   exact .inl hk
  ·have holds : ∀ j u, xs[j]? = some u → w.cell? ((⟨g, 0, none⟩ : Addr).add j) = some u := hown.cells (g := g) rfl
   rw [run_append_grow (P := P) w t ty e i z ht hi hz ⟨g, 0, none⟩ n cap xs hown.1 holds a m c news hl hnews (by omega) (by omega) (growslice_fits_wide (by omega) hbytes)] at hr
   cases hr
   simp [Value.ownBlock] at hk
   exact .inr (by omega)
section ap
variable {s x y z : Operand} {t e' ty T : TypeId} {p : String} {e : Array Edge} {v : Value} {k k' : IntKind} {sz bytes : Nat} {zs cs : List Value} {α : Type} {f : α → List Value} {l ms : List α} {d : Nat}
theorem WL.append (i j : Nat) {b : Nat} {m c : Nat} (hs : ev L s = some v) (hx : ev L x = some (.slice (some ⟨b, 0, none⟩) m c)) (hi : H[i]? = some (.row v e' sz l.length (l.flatMap f))) (hj : H[j]? = some (.blk b (.cells cs.toArray T (0, 0)))) (hc : cs = ms.flatMap f) (hm : ms.length = m)
  (hf' : ∀ x, (f x).length = sz) (h0 : 0 < sz) (h1 : cs.all (·.oneCell') = true) (ht : slB P t e' sz = true) (hinf : agr P e' = some (zs, sz, bytes)) (hzs : zs.length = sz) (hb : ((l.length + m) + (l.length + m) / 4 + 192) * bytes ≤ 281474976710656 ∧ l.length + m ≤ 9223372036854775807)
  (hw : j4 ops L ⟨some d, .call ⟨.builtin .append, #[s, x], #[t, t]⟩, ty, p, e, none⟩ = some true) (hn : Nat.blt d C.n = true)
  (h : ∀ v', WL P ops Q C ((d, v') :: L) (H.set i (.row v' e' sz (l ++ ms).length ((l ++ ms).flatMap f))) rest) : WL P ops Q C L H (⟨some d, .call ⟨.builtin .append, #[s, x], #[t, t]⟩, ty, p, e, none⟩ :: rest) := by
 intro a w hf hp
 obtain ⟨inf, z, q1, q2, q3, q4, q5⟩ := aen hinf
 have hblk := hp.blk hj
 subst hm
 have hlen : cs.length = ms.length * sz := by rw [hc, v8 hf']
 have hnews : ∀ q u, cs[q]? = some u → w.cell? ((⟨b, 0, none⟩ : Addr).add q) = some u := fun q u hq => by
  rw [Addr.add_mid, Nat.zero_add]; simp [World.cell?, hblk, hq]
 have hone : ∀ u ∈ cs, u.oneCell' = true := fun u hu => (List.all_eq_true.1 h1) u hu
 obtain ⟨v', w', hr, r1, r2, _⟩ := run_append_own_wide (P := P) w 0 t ty e' inf z sz bytes (u2 ht).1 q1 q2 q4 q5 (by rw [q3]; simpa using hzs) h0 v l.length (l.flatMap f) (hp.row hi) ⟨b, 0, none⟩ ms.length c cs hlen hnews hone (by simp only [maxLen]; omega) hb.1 (Nat.zero_le _)
 refine j7 (d9 hf hw) ?_
 unfold Oper.wp execOp
 simp only [resolve, invoke, builtin, Sem.run_bind, Sem.run_pure, Result.andThen_ok, List.map_toArray, List.map_cons, List.map_nil, hf.ev hs, hf.ev hx, hr]
 refine h v' _ w' (hf.put hn v') (hp.swap hi r2.os r2.tape r2.output r2.size (fun F hF k hk hkF => r2.block k hk (fun e => hkF (by rw [hF.1, ← e]; simp))) (fun F hF _ => ⟨v'.ownBlock.toList, ⟨rfl, by rw [List.length_append, List.flatMap_append, ← hc]; exact r1⟩, by cases v'.ownBlock <;> simp, fun k hk => ?_⟩))
 have hk' : v'.ownBlock = some k := by simpa using hk
 refine ⟨?_, (r1.lt k hk').2⟩
 rcases ae8 (u2 ht).1 q1 q2 q4 q5 (hp.row hi) hlen hnews hone hb.2 hb.1 hr hk' with h4 | h4
 ·exact .inl (by rw [hF.1, h4]; simp)
 ·exact .inr h4
end ap
end Go.Proofs.YtgocbiiolmmonaaDoor
namespace Go.Proofs.YtgocbiiolmmonaaDoor
open Go Go.RowKit
variable {P : Program} {ops : Array Oper} {Q : Exit → Act → World → Prop} {C : Cx} {L : Sl} {H : List HA} {rest : List Oper} {o : Oper} {w : World}
theorem Hp.nilRow (h : Hp C H w) (T : TypeId) (sz : Nat) {α : Type} (f : α → List Value) : Hp C (.row (.slice none 0 0) T sz ([] : List α).length (([] : List α).flatMap f) :: H) w := by
 obtain ⟨F, h1, h2, h3⟩ := h.own
 exact ⟨h.os, h.tape, h.output, h.size, h.keep, h.ro, F, ⟨[], F, rfl, ⟨rfl, World.ownsRow_nil w 0 T sz⟩, h1⟩, h2, h3⟩
theorem Hp.asRow (h : Hp C H w) {i b m : Nat} {T : TypeId} {cs : List Value} {α : Type} {f : α → List Value} {ms : List α} {sz : Nat} (hi : H[i]? = some (.blk b (.cells cs.toArray T (0, 0)))) (hc : cs = ms.flatMap f) (hm : ms.length = m) (hf' : ∀ x, (f x).length = sz) (hl : m ≤ 9223372036854775807) :
  Hp C (H.set i (.row (.slice (some ⟨b, 0, none⟩) m m) T sz ms.length (ms.flatMap f))) w := by
 subst hm
 refine h.swap hi rfl rfl rfl (Nat.le_refl _) (fun _ _ _ _ _ => rfl) (fun F hF hn => ⟨F, ⟨?_, ?_, ?_⟩, hn, fun k hk => ⟨.inl hk, ?_⟩⟩)
 ·rw [hF.1]; rfl
 ·exact v8 hf' ms
 ·exact .inr ⟨b, ms.length, cs.toArray, rfl, Nat.zero_le _, hF.2, Nat.le_refl _, by simp only [maxLen]; omega, by rw [List.size_toArray, hc, v8 hf'], by rw [← v8 hf' ms, ← hc]; simp⟩
 ·rw [hF.1] at hk; simp at hk; subst hk; exact n8 hF.2
theorem WL.nilRow (T : TypeId) (sz : Nat) {α : Type} (f : α → List Value) (h : WL P ops Q C L (.row (.slice none 0 0) T sz ([] : List α).length (([] : List α).flatMap f) :: H) rest) : WL P ops Q C L H rest := fun a w hf hp => h a w hf (hp.nilRow T sz f)
theorem WC.nilRow {c : Code} (T : TypeId) (sz : Nat) {α : Type} (f : α → List Value) (h : WC P c Q C L (.row (.slice none 0 0) T sz ([] : List α).length (([] : List α).flatMap f) :: H)) : WC P c Q C L H := fun a w hf hp => h a w hf (hp.nilRow T sz f)
theorem QX.nilRow {e : Exit} (T : TypeId) (sz : Nat) {α : Type} (f : α → List Value) (h : QX Q e C L (.row (.slice none 0 0) T sz ([] : List α).length (([] : List α).flatMap f) :: H)) : QX Q e C L H := fun a w hf hp => h a w hf (hp.nilRow T sz f)
theorem WL.asRow {m : Nat} {α : Type} {f : α → List Value} {ms : List α} {sz : Nat} {b : Nat} {T : TypeId} {cs : List Value} (i : Nat) (hi : H[i]? = some (.blk b (.cells cs.toArray T (0, 0)))) (hc : cs = ms.flatMap f) (hm : ms.length = m) (hf' : ∀ x, (f x).length = sz) (hl : Nat.ble m 9223372036854775807 = true)
  (h : WL P ops Q C L (H.set i (.row (.slice (some ⟨b, 0, none⟩) m m) T sz ms.length (ms.flatMap f))) rest) : WL P ops Q C L H rest := fun a w hf hp => h a w hf (hp.asRow hi hc hm hf' (Nat.le_of_ble_eq_true hl))
theorem WC.asRow {c : Code} {m : Nat} {α : Type} {f : α → List Value} {ms : List α} {sz : Nat} {b : Nat} {T : TypeId} {cs : List Value} (i : Nat) (hi : H[i]? = some (.blk b (.cells cs.toArray T (0, 0)))) (hc : cs = ms.flatMap f) (hm : ms.length = m) (hf' : ∀ x, (f x).length = sz) (hl : Nat.ble m 9223372036854775807 = true)
  (h : WC P c Q C L (H.set i (.row (.slice (some ⟨b, 0, none⟩) m m) T sz ms.length (ms.flatMap f)))) : WC P c Q C L H := fun a w hf hp => h a w hf (hp.asRow hi hc hm hf' (Nat.le_of_ble_eq_true hl))
section mk
variable {x y : Operand} {t e' ty : TypeId} {p : String} {e : Array Edge} {g : Option (Nat × Bool)} {k k' : IntKind} {sz bytes : Nat} {zs : List Value} {d : Nat} {α : Type} {f : α → List Value}
end mk
end Go.Proofs.YtgocbiiolmmonaaDoor
namespace Go.Proofs.YtgocbiiolmmonaaDoor
open Go Go.RowKit
variable {P : Program} {C : Cx} {L : Sl} {H : List HA}
def j8 (P : Program) (ft : TypeId) (a b : Value) (r : Bool) : Prop := ∀ d w, (Op.equalIn (d + 1) ft a b).run P w = .ok r w
theorem j8.int {ft : TypeId} {k k' : IntKind} {a b : Int} (h : P.underlying ft = some (.int k')) : j8 P ft (.int k a) (.int k b) (decide (a = b)) := fun d w => by
 rw [run_equalIn_int w d ft k k' a b h]
 congr 1
theorem j8.bool {ft : TypeId} {a b : Bool} (h : P.underlying ft = some .bool) : j8 P ft (.bool a) (.bool b) (a == b) := fun d w => run_equalIn_bool w d ft a b h
theorem j8.str {ft : TypeId} {a b : List UInt8} (h : P.underlying ft = some .string) : j8 P ft (st a) (st b) (decide (a = b)) := fun d w => by
 rw [run_equalIn_string w d ft _ _ h]
 congr 1; rw [ByteArray.toList_eq, ByteArray.toList_eq, Bool.eq_iff_iff]; simp
def ahi (P : Program) (xs ys : List Value) : List Field → List Bool → Prop
 | [], [] => True
 | f :: fs, r :: rs => (f.name == "_") = false ∧ w9 P f.type = true ∧ (∃ a b, xs[f.offset]? = some a ∧ ys[f.offset]? = some b ∧ j8 P f.type a b r) ∧ ahi P xs ys fs rs
 | _, _ => False
def k8 : List Bool → Bool
 | [] => true
 | [r] => r
 | r :: rs => r && k8 rs
theorem ag3 (r : Bool) (rs : List Bool) : k8 (r :: rs) = (r && k8 rs) := by
 cases rs <;> simp [k8]
theorem aea {xs ys : List Value} {d : Nat} {w : World} : ∀ {fs : List Field} {rs : List Bool}, ahi P xs ys fs rs → (Op.eqFields (d + 1) xs.toArray ys.toArray fs).run P w = .ok (k8 rs) w
 | [], [], _ => by simp [Op.eqFields, k8]
 | f :: fs, r :: rs, ⟨hn, hs, ⟨a, b, ha, hb, hr⟩, h⟩ => by
  have ih := aea (d := d) (w := w) h
  have hn' : ¬ f.name = "_" := by simpa using hn
  have p1 : (part f.type xs.toArray f.offset).run P w = .ok a w := by simp [part, x5 hs, ha]
  have p2 : (part f.type ys.toArray f.offset).run P w = .ok b w := by simp [part, x5 hs, hb]
  rw [ag3]
  simp only [Op.eqFields, hn', ne_eq, not_false_eq_true, if_true, Sem.run_bind, p1, p2, Result.andThen_ok, hr d w]
  cases r
  ·simp
  ·simpa using ih
 | [], _ :: _, h => h.elim
 | _ :: _, [], h => h.elim
theorem acn {t : TypeId} {xs ys : List Value} {fs : Array Field} {rs : List Bool} (hu : P.underlying t = some (.struct fs)) (hp : P.stoodInHeld t = false) (hF : ahi P xs ys fs.toList rs) (w : World) : (Op.equalIn 10000 t (.agg xs.toArray) (.agg ys.toArray)).run P w = .ok (k8 rs) w := by
 have hfo : P.fieldsOf t = fs := by simp [Program.fieldsOf, hu]
 rw [run_equalIn_struct w 9999 t _ _ (by rw [hfo]; exact hu) hp, hfo]
 exact aea hF
section ov
variable {x y : Operand} {t t' ty : TypeId} {d : Option Tmp} {p : String} {e : Array Edge} {g : Option (Nat × Bool)} {xs ys : List Value} {fs : Array Field} {rs : List Bool}
theorem OV.eqlF (hx : ev L x = some (.agg xs.toArray)) (hy : ev L y = some (.agg ys.toArray)) (hu : P.underlying t = some (.struct fs)) (hp : P.stoodInHeld t = false) (hm : P.eqGuardType P.depth t = false) (hF : ahi P xs ys fs.toList rs) :
  OV P C L H ⟨d, .binOp .eql t x y t', ty, p, e, g⟩ (.bool (k8 rs)) := fun a w hf _ => by
 simp only [execOp, hf.ev hx, hf.ev hy, Sem.run_bind, run_eqGuard_agg w .eql t x y _ _ hm, Result.andThen_ok, run_eql_struct, acn hu hp hF, Sem.run_pure]
theorem OV.neqF (hx : ev L x = some (.agg xs.toArray)) (hy : ev L y = some (.agg ys.toArray)) (hu : P.underlying t = some (.struct fs)) (hp : P.stoodInHeld t = false) (hm : P.eqGuardType P.depth t = false) (hF : ahi P xs ys fs.toList rs) :
  OV P C L H ⟨d, .binOp .neq t x y t', ty, p, e, g⟩ (.bool (!k8 rs)) := fun a w hf _ => by
 simp only [execOp, hf.ev hx, hf.ev hy, Sem.run_bind, run_eqGuard_agg w .neq t x y _ _ hm, Result.andThen_ok, run_neq_struct, acn hu hp hF, Sem.run_pure]
end ov
end Go.Proofs.YtgocbiiolmmonaaDoor
namespace Go.Proofs.YtgocbiiolmmonaaDoor
open Go Go.RowKit Go.Lib
variable {P : Program} {ops : Array Oper} {Q : Exit → Act → World → Prop} {C : Cx} {L : Sl} {H : List HA} {rest : List Oper}
section ov
variable {x y : Operand} {t t' ty u : TypeId} {d : Option Tmp} {p : String} {e : Array Edge} {g : Option (Nat × Bool)}
theorem aif (h : P.underlying t = some (.pointer u)) : P.underlying t = some (.pointer (P.pointee t)) := by
 have : P.pointee t = u := by simp [Program.pointee, h]
 rw [this]; exact h
theorem OV.eqlPN {q : Option Addr} (hx : ev L x = some (.pointer q)) (hy : ev L y = some (.pointer none)) (h : P.underlying t = some (.pointer u)) : OV P C L H ⟨d, .binOp .eql t x y t', ty, p, e, g⟩ (.bool q.isNone) := fun a w hf _ => by
 simp [execOp, hf.ev hx, hf.ev hy, eqGuard, run_eql_pointer_nil w t q (aif h)]
end ov
variable {T e' : TypeId} {b : Nat} {l : List UInt8} {q v : Value} {w : World} {F : List Nat} {A : List HA}
section does
variable {f : FuncId} {args : List Value} {R : List (Nat × Obj)} {S : Out → Prop} {r : Value} {A' : List HA}
end does
end Go.Proofs.YtgocbiiolmmonaaDoor
namespace Go.Proofs.YtgocbiiolmmonaaDoor
open Go Go.RowKit
variable {P : Program} {ops : Array Oper} {Q : Exit → Act → World → Prop} {C : Cx} {L : Sl} {H : List HA} {rest : List Oper} {w : World}
def ais (v : Value) : Nat := match v with
 | .slice (some a) _ _ => a.off
 | _ => 0
def aaq (v : Value) (R : List (Nat × Obj)) (n : Nat) (xs : List Value) : Prop :=
 (n = 0 ∧ xs = [] ∧ (∃ a c, v = .slice a 0 c) ∧ R = []) ∨
 ∃ b off cap, ∃ cs : List Value, ∃ T fr, v = .slice (some ⟨b, off, none⟩) n cap ∧ R = [(b, .cells cs.toArray T fr)] ∧ (cs.drop off).take xs.length = xs
def LIn (C : Cx) (v : Value) (n : Nat) (xs : List Value) : Prop := ∃ R, aaq v R n xs ∧ ∀ p ∈ R, p ∈ C.R
theorem LIn.mk {v : Value} {R : List (Nat × Obj)} {n : Nat} {xs : List Value} (h : aaq v R n xs) (hR : ∀ p ∈ R, p ∈ C.R) : LIn C v n xs := ⟨R, h, hR⟩
section ov
variable {x y : Operand} {t e' ty : TypeId} {d : Option Tmp} {p : String} {e : Array Edge} {g : Option (Nat × Bool)} {v : Value} {k : IntKind} {sz n : Nat} {xs : List Value} {α : Type} [Inhabited α] {f : α → List Value} {l : List α}
theorem OV.lenIn (h : LIn C v n xs) (hx : ev L x = some v) (ht : slB P t e' sz = true) : OV P C L H ⟨d, .call ⟨.builtin .len, #[x], #[t]⟩, ty, p, e, g⟩ (.int .i64 (n : Int)) := by
 obtain ⟨R, hi, _⟩ := h
 rcases hi with ⟨rfl, _, ⟨a, c, rfl⟩, _⟩ | ⟨b, off, cap, cs, T, fr, rfl, _⟩ <;> exact OV.lenS hx ht
theorem OV.indexIn (h : LIn C v n xs) {j : Int} (hx : ev L x = some v) (hy : ev L y = some (.int k j)) (ht : slB P t e' sz = true) (hb : 0 ≤ j ∧ j < n) : OV P C L H ⟨d, .indexAddr t x y, ty, p, e, g⟩ (.pointer (some ⟨aiz v, ais v + j.toNat * sz, none⟩)) := by
 obtain ⟨R, hi, _⟩ := h
 rcases hi with ⟨rfl, _⟩ | ⟨b, off, cap, cs, T, fr, rfl, _⟩
 ·omega
 ·exact OV.indexSl hx hy ht hb rfl
theorem LIn.at (h : LIn C v n xs) (hne : xs ≠ []) : ∃ b off, ∃ cs : List Value, ∃ T fr, aiz v = b ∧ ais v = off ∧ At C H b (.cells cs.toArray T fr) ∧ (cs.drop off).take xs.length = xs := by
 obtain ⟨R, hi, hR⟩ := h
 rcases hi with ⟨_, h0, _⟩ | ⟨b, off, cap, cs, T, fr, rfl, rfl, hc⟩
 ·exact absurd h0 hne
 ·exact ⟨b, off, cs, T, fr, rfl, rfl, At.old (hR _ (by simp)), hc⟩
theorem OV.loadIn1 (h : LIn C v n xs) {off : Nat} {u : Value} (hx : ev L x = some (.pointer (some ⟨aiz v, ais v + off, none⟩))) (hc : xs[off]? = some u) (ht : w9 P t = true) : OV P C L H ⟨d, .load t x, ty, p, e, g⟩ u := by
 obtain ⟨b, o, cs, T, fr, hb, ho, hA, hcs⟩ := h.at (H := H) (fun h => by subst h; simp at hc)
 rw [hb, ho] at hx
 refine OV.load hx hA ?_ ht
 have hlt : off < xs.length := (List.getElem?_eq_some_iff.1 hc).1
 rw [← hcs, List.getElem?_take, if_pos hlt, List.getElem?_drop] at hc
 exact hc
theorem OV.loadInE1 (h : LIn C v l.length (l.flatMap f)) {j : Nat} {u : Value} (hx : ev L x = some (.pointer (some ⟨aiz v, ais v + j * 1, none⟩))) (hf' : ∀ x, (f x).length = 1) (hj : j < l.length) (hu : (f (l.getD j default))[0]? = some u) (ht : w9 P t = true) : OV P C L H ⟨d, .load t x, ty, p, e, g⟩ u :=
 OV.loadIn1 h hx (by have := ahh hf' hj hu; simpa using this) ht
end ov
def LOk (C : Cx) (Rest : List HA) (v : Value) (n : Nat) (xs : List Value) : Prop := ∀ w F, Own w Rest F → ∃ R, aaq v R n xs ∧ ∀ p ∈ R, (w.heap[p.1]? = some p.2 ∧ p.1 ∈ F) ∨ p ∈ C.R
theorem LOk.inn {Rest : List HA} {v : Value} {n : Nat} {xs : List Value} (h : LIn C v n xs) : LOk C Rest v n xs := fun _ _ _ => by
 obtain ⟨R, h1, h2⟩ := h
 exact ⟨R, h1, fun p hp => .inr (h2 p hp)⟩
theorem Own.mem_row {w : World} : ∀ {H : List HA} {F : List Nat}, Own w H F → ∀ {i : Nat} {v : Value} {T sz n : Nat} {xs : List Value}, H[i]? = some (.row v T sz n xs) → w.ownsRow 0 T sz v n xs ∧ ∀ k, v.ownBlock = some k → k ∈ F
 | [], _, _, i, _, _, _, _, _, h => by simp at h
 | x :: H, F, ⟨F1, F2, hF, h1, h2⟩, i, v, T, sz, n, xs, h => by
  cases i with
  | zero =>
   simp at h
   subst h
   exact ⟨h1.2, fun k hk => by rw [hF, h1.1, hk]; simp⟩
  | succ i =>
   have := h2.mem_row (i := i) (by simpa using h)
   exact ⟨this.1, fun k hk => by rw [hF]; exact List.mem_append.2 (.inr (this.2 k hk))⟩
def an1 (v : Value) (m : Nat) : Value := match v with
 | .slice a _ c => .slice a m c
 | v => v
theorem LOk.pre {Rest : List HA} {v : Value} {T sz n m : Nat} {xs : List Value} (i : Nat) (hi : Rest[i]? = some (.row v T sz n xs)) (hm : m ≤ n) : LOk C Rest (an1 v m) m (xs.take (m * sz)) := fun w F hO => by
 obtain ⟨⟨hl, hr⟩, hmem⟩ := hO.mem_row hi
 rcases hr with ⟨rfl, rfl⟩ | ⟨b, cap, cur, rfl, _, hb, hn, hcm, hcs, htk⟩
 ·have h0 : m = 0 := by omega
  subst h0
  exact ⟨[], .inl ⟨rfl, by simp, ⟨none, 0, rfl⟩, rfl⟩, fun p hp => by cases hp⟩
 ·refine ⟨[(b, .cells cur T (0, 0))], .inr ⟨b, 0, cap, cur.toList, T, (0, 0), rfl, by simp, ?_⟩, fun p hp => ?_⟩
  ·rw [List.drop_zero, ← htk, List.take_take, List.length_take, Array.length_toList]
   have h1 : m * sz ≤ n * sz := Nat.mul_le_mul_right _ hm
   have h2 : n * sz ≤ cur.size := by rw [hcs]; exact Nat.mul_le_mul_right _ hn
   rw [Nat.min_eq_left h1, Nat.min_eq_left (by omega)]
  ·rw [List.mem_singleton.1 hp]
   exact .inl ⟨hb, hmem b rfl⟩
theorem LOk.row {Rest : List HA} {v : Value} {T sz n : Nat} {xs : List Value} (i : Nat) (hi : Rest[i]? = some (.row v T sz n xs)) : LOk C Rest v n xs := fun w F hO => by
 obtain ⟨⟨hl, hr⟩, _⟩ := hO.mem_row hi
 obtain ⟨R, h1, h2⟩ := LOk.pre (C := C) i hi (Nat.le_refl n) w F hO
 have : an1 v n = v := by rcases hr with ⟨rfl, rfl⟩ | ⟨b, cap, cur, rfl, _⟩ <;> rfl
 rw [this, ← hl, List.take_length] at h1
 exact ⟨R, h1, h2⟩
theorem ak0 {f : FuncId} {args : List Value} {R : List (Nat × Obj)} {A Rest : List HA} {S : Out → Prop} {w : World} (hc : i7 P f args R A S) {F1 F2 : List Nat} (hA : Own w A F1) (hB : Own w Rest F2) (h2 : (F1 ++ F2).Nodup)
  (h3 : ∀ k ∈ F1 ++ F2, k < w.heap.size ∧ (C.w0.heap.size ≤ k ∨ k ∈ C.M)) (hp : Hp C (A ++ Rest) w) (hR : ∀ p ∈ R, (w.heap[p.1]? = some p.2 ∧ p.1 ∈ F2) ∨ p ∈ C.R) :
  Calls P f args.toArray w (fun e w' => ∃ H', acq S e H' ∧ Hp C (H' ++ Rest) w') := by
 have hn := List.nodup_append.1 h2
 refine (hc w F1 hA hn.1 (fun k hk => (h3 k (List.mem_append.2 (.inl hk))).1) ?_).mono ?_
 ·intro q hq
  rcases hR q hq with ⟨hi, hm⟩ | hm
  ·exact ⟨hi, fun hk => hn.2.2 q.1 hk q.1 hm rfl⟩
  ·refine ⟨hp.old hm, fun hk => ?_⟩
   have hro := hp.ro q hm
   have hlt := n8 hro.1
   rcases (h3 q.1 (List.mem_append.2 (.inl hk))).2 with h4 | h4
   ·omega
   ·exact hro.2 h4
 ·rintro e w' ⟨H', hS, hh⟩
  exact ⟨H', hS, hp.call hB h2 h3 hh⟩
theorem ROk.mem {Rest : List HA} {w : World} {F : List Nat} (hO : Own w Rest F) (hh : ∀ (i : Nat) (x : HA), Rest[i]? = some x → ∃ f, x.at w f) {R : List (Nat × Obj)} (h : ROk C Rest R) : ∀ p ∈ R, (w.heap[p.1]? = some p.2 ∧ p.1 ∈ F) ∨ p ∈ C.R := fun p hp => by
 rcases h.all p hp with ⟨i, hi⟩ | hm
 ·obtain ⟨f, hf⟩ := hh i _ hi
  exact .inl ⟨hf.2, hO.mem_blk hi⟩
 ·exact .inr hm
theorem Own.each {w : World} : ∀ {H : List HA} {F : List Nat}, Own w H F → ∀ (i : Nat) (x : HA), H[i]? = some x → ∃ f, x.at w f
 | [], _, _, i, x, h => by simp at h
 | y :: H, _, ⟨F1, F2, _, h1, h2⟩, i, x, h => by
  cases i with
  | zero => simp at h; subst h; exact ⟨F1, h1⟩
  | succ i => exact h2.each i x (by simpa using h)
section call
variable {f : FuncId} {xs : List Operand} {ats : Array TypeId} {d : Nat} {ty : TypeId} {p : String} {e : Array Edge} {g : Option (Nat × Bool)} {vs : List Value} {R0 : List (Nat × Obj)} {A Rest : List HA} {S : Out → Prop} {v : Value} {A' : List HA} {v1 v2 : Value} {n1 n2 : Nat} {xs1 xs2 : List Value}
theorem WL.callS1 (he : n9 P f = true) (hx : evs L xs = some vs) (hc : ∀ R1, aaq v1 R1 n1 xs1 → i7 P f vs (R1 ++ R0) A S) (hH : H = A ++ Rest) (hL : LOk C Rest v1 n1 xs1) (hR : ROk C Rest R0) (hw : j4 ops L ⟨some d, .call ⟨.value (.func f), xs.toArray, ats⟩, ty, p, e, g⟩ = some true) (hn : Nat.blt d C.n = true)
  (h : ∀ r H', S (.ret r H') → WL P ops Q C ((d, r) :: L) (H' ++ Rest) rest) (hpan : ∀ c H', S (.pan c H') → QX Q (.panic c) C L (H' ++ Rest)) : WL P ops Q C L H (⟨some d, .call ⟨.value (.func f), xs.toArray, ats⟩, ty, p, e, g⟩ :: rest) := by
 intro a w hf hp
 subst hH
 refine j7 (d9 hf hw) ?_
 unfold Oper.wp
 rw [y5 he hf hx]
 simp only [Oper.upon]
 obtain ⟨F, h1, h2, h3⟩ := hp.own
 obtain ⟨F1, F2, rfl, hA, hB⟩ := h1.split
 obtain ⟨R1, k1, k2⟩ := hL w F2 hB
 refine (ak0 (hc R1 k1) hA hB h2 h3 hp (fun p hp => ?_)).mono ?_
 ·rcases List.mem_append.1 hp with hp | hp
  ·exact k2 p hp
  ·exact hR.mem hB hB.each p hp
 rintro en w' ⟨H', hS, hh⟩
 rcases hS with ⟨r, rfl, hS⟩ | ⟨c, rfl, hS⟩
 ·exact h r H' hS _ _ (hf.put hn r) hh
 ·exact hpan c H' hS _ _ hf hh
theorem WL.call1 (he : n9 P f = true) (hx : evs L xs = some vs) (hc : ∀ R1, aaq v1 R1 n1 xs1 → i7 P f vs (R1 ++ R0) A (Ret v A')) (hH : H = A ++ Rest) (hL : LOk C Rest v1 n1 xs1) (hR : ROk C Rest R0) (hw : j4 ops L ⟨some d, .call ⟨.value (.func f), xs.toArray, ats⟩, ty, p, e, g⟩ = some true) (hn : Nat.blt d C.n = true)
  (h : WL P ops Q C ((d, v) :: L) (A' ++ Rest) rest) : WL P ops Q C L H (⟨some d, .call ⟨.value (.func f), xs.toArray, ats⟩, ty, p, e, g⟩ :: rest) :=
 WL.callS1 he hx hc hH hL hR hw hn (fun r H' hS => by cases hS; exact h) (fun c H' hS => by cases hS)
end call
def aix (v : Value) (sz lo hi : Nat) : Value := match v with
 | .slice a _ c => .slice (if c = lo then a else a.map (·.add (lo * sz))) (hi - lo) (c - lo)
 | v => v
theorem LOk.sub {Rest : List HA} {v : Value} {T sz lo hi : Nat} {α : Type} {f : α → List Value} {l : List α} (i : Nat) (hi' : Rest[i]? = some (.row v T sz l.length (l.flatMap f))) (hf' : ∀ x, (f x).length = sz) (hb : lo ≤ hi ∧ hi ≤ l.length) : LOk C Rest (aix v sz lo hi) ((l.drop lo).take (hi - lo)).length (((l.drop lo).take (hi - lo)).flatMap f) := fun w F hO => by
 obtain ⟨⟨hl, hr⟩, hmem⟩ := hO.mem_row hi'
 have hlen : ((l.drop lo).take (hi - lo)).length = hi - lo := by rw [List.length_take, List.length_drop]; omega
 rw [hlen]
 rcases hr with ⟨rfl, h0⟩ | ⟨b, cap, cur, rfl, _, hb', hn, hcm, hcs, htk⟩
 ·have hlo : hi - lo = 0 := by omega
  have : (l.drop lo).take (hi - lo) = [] := by rw [hlo]; rfl
  rw [this, hlo]
  refine ⟨[], .inl ⟨rfl, rfl, ⟨if 0 = lo then none else none, 0 - lo, ?_⟩, rfl⟩, fun p hp => by cases hp⟩
  dsimp only [aix]; rw [hlo]; rfl
 ·by_cases hz : hi - lo = 0
  ·have : (l.drop lo).take (hi - lo) = [] := by rw [hz]; rfl
   rw [this, hz]
   refine ⟨[], .inl ⟨rfl, rfl, ⟨if cap = lo then some ⟨b, 0, none⟩ else some ((⟨b, 0, none⟩ : Addr).add (lo * sz)), cap - lo, ?_⟩, rfl⟩, fun p hp => by cases hp⟩
   dsimp only [aix]; rw [hz]; rfl
  ·refine ⟨[(b, .cells cur T (0, 0))], .inr ⟨b, lo * sz, cap - lo, cur.toList, T, (0, 0), ?_, by simp, ?_⟩, fun p hp => ?_⟩
   ·dsimp only [aix]
    rw [if_neg (by omega)]
    simp [Addr.add_mid]
   ·rw [v8 hf', hlen]
    have h1 : ((cur.toList.drop (lo * sz)).take ((hi - lo) * sz)) = (((cur.toList.take (l.length * sz)).drop (lo * sz)).take ((hi - lo) * sz)) := by
     rw [List.drop_take, List.take_take, Nat.min_eq_left]
     rw [← Nat.sub_mul]
     exact Nat.mul_le_mul_right _ (by omega)
    rw [h1, htk, acv hf']
    have h2 : ∀ (m : List α) (q : Nat), q ≤ m.length → (m.flatMap f).take (q * sz) = (m.take q).flatMap f := fun m q hq => by
     have h3 : m.flatMap f = (m.take q).flatMap f ++ (m.drop q).flatMap f := by rw [← List.flatMap_append, List.take_append_drop]
     rw [h3, List.take_left' (by rw [v8 hf', List.length_take, Nat.min_eq_left hq])]
    exact h2 _ _ (by rw [List.length_drop]; omega)
   ·rw [List.mem_singleton.1 hp]
    exact .inl ⟨hb', hmem b rfl⟩
end Go.Proofs.YtgocbiiolmmonaaDoor
namespace Go.Proofs.YtgocbiiolmmonaaDoor
open Go Go.RowKit
variable {P : Program} {ops : Array Oper} {Q : Exit → Act → World → Prop} {C : Cx} {L : Sl} {H : List HA} {rest : List Oper} {o : Oper}
section iface
variable {x : Operand} {t t' t2 ty : TypeId} {d : Option Tmp} {p : String} {e : Array Edge} {g : Option (Nat × Bool)} {v z : Value}
def ae9 (P : Program) (t : TypeId) : Option Value := (P.info? t).bind (·.zero)
theorem ae2 (h : ae9 P t = some z) (w : World) : (zeroValue t).run P w = .ok z w := by
 unfold ae9 at h
 cases hq : P.info? t with
 | none => simp [hq] at h
 | some i =>
  simp only [hq, Option.bind_some] at h
  simp [zeroValue, typeInfo, hq, h]
end iface
def EN (P : Program) (C : Cx) (L : Sl) (H : List HA) (o : Oper) (f : FuncId) (vs : List Value) : Prop := ∀ a w, Fr C L a → Hp C H w → (execOp a.eval o).run P w = .ok (.enter f vs.toArray) w
section call
variable {f : FuncId} {xs : List Operand} {ats : Array TypeId} {d : Nat} {ty : TypeId} {p : String} {e : Array Edge} {g : Option (Nat × Bool)} {vs : List Value} {R : List (Nat × Obj)} {A Rest : List HA} {S : Out → Prop} {v : Value} {A' : List HA}
theorem WL.enterS (hE : EN P C L H o f vs) (hd : o.dst = some d) (hc : i7 P f vs R A S) (hH : H = A ++ Rest) (hR : ROk C Rest R) (hw : j4 ops L o = some true) (hn : Nat.blt d C.n = true)
  (h : ∀ r H', S (.ret r H') → WL P ops Q C ((d, r) :: L) (H' ++ Rest) rest) (hpan : ∀ c H', S (.pan c H') → QX Q (.panic c) C L (H' ++ Rest)) : WL P ops Q C L H (o :: rest) := by
 intro a w hf hp
 subst hH
 refine j7 (d9 hf hw) ?_
 unfold Oper.wp
 rw [hE a w hf hp]
 simp only [Oper.upon]
 refine (af2 hc hp hR).mono ?_
 rintro en w' ⟨H', hS, hh⟩
 rcases hS with ⟨r, rfl, hS⟩ | ⟨c, rfl, hS⟩
 ·rw [hd]; exact h r H' hS _ _ (hf.put hn r) hh
 ·exact hpan c H' hS _ _ hf hh
theorem WL.enter (hE : EN P C L H o f vs) (hd : o.dst = some d) (hc : i7 P f vs R A (Ret v A')) (hH : H = A ++ Rest) (hR : ROk C Rest R) (hw : j4 ops L o = some true) (hn : Nat.blt d C.n = true)
  (h : WL P ops Q C ((d, v) :: L) (A' ++ Rest) rest) : WL P ops Q C L H (o :: rest) :=
 WL.enterS hE hd hc hH hR hw hn (fun r H' hS => by cases hS; exact h) (fun c H' hS => by cases hS)
def amm (P : Program) (T : TypeId) (name : String) : Option FuncId := ((P.info? T).bind fun i => i.methods.find? (·.name == name)).bind fun m => if m.path.isEmpty then m.func.bind fun q => if q.2 then none else some q.1 else none
def akt (P : Program) (t : TypeId) : Bool := match P.underlying t with | some (.pointer _) => false | some _ => true | none => false
theorem EN.invoke {x : Operand} {T : TypeId} {name : String} {do_ : Option Tmp} (hx : ev L x = some (.iface T v)) (hm : amm P T name = some f) (hu : akt P T = true) (he : n9 P f = true) (hxs : evs L xs = some vs) :
  EN P C L H ⟨do_, .call ⟨.invoke x name, xs.toArray, ats⟩, ty, p, e, g⟩ f (v :: vs) := fun a w hf _ => by
 unfold amm at hm
 cases hi : P.info? T with
 | none => simp [hi] at hm
 | some i =>
  simp only [hi, Option.bind_some] at hm
  cases hq : i.methods.find? (·.name == name) with
  | none => simp [hq] at hm
  | some m =>
   simp only [hq, Option.bind_some] at hm
   split at hm
   ·rename_i hpath
    cases hfn : m.func with
    | none => simp [hfn] at hm
    | some q =>
     obtain ⟨f', pr⟩ := q
     simp only [hfn, Option.bind_some] at hm
     cases pr with
     | true => simp at hm
     | false =>
      simp only [Bool.false_eq_true, if_false, Option.some.injEq] at hm
      subst hm
      unfold akt at hu
      cases hT : P.underlying T with
      | none => rw [hT] at hu; cases hu
      | some dd =>
       have hrec : ∀ s, (receiverAt T (.val v) false s).run P w = .ok v w := fun s => by
        unfold receiverAt
        rw [Sem.run_bind, n5 hT]
        rw [hT] at hu
        cases dd <;> first | (simp at hu; done) | simp [Place.get]
       have hpl : m.path.toList = [] := by simpa using hpath
       have hmeth : (method ((P.types.size + Made.depth - 1) + 1) T v name).run P w = .ok (f', v) w := by
        unfold method
        simp [typeInfo, hi, hq, hpl, follow, hfn, hrec]
       have hsz : (P.types.size + Made.depth - 1) + 1 = P.types.size + Made.depth := by
        have : 0 < Made.depth := by decide
        omega
       rw [hsz] at hmeth
       have hmap : xs.toArray.map a.eval = vs.toArray := by rw [List.map_toArray, abg hf hxs]
       simp only [execOp, resolve, hf.ev hx, hmap, Sem.run_bind, Sem.run_pure, Result.andThen_ok, Go.invoke]
       have hen := abk he (v :: vs).toArray w
       have h0 : (#[Value.iface T v] ++ vs.toArray)[0]? = some (Value.iface T v) := by simp
       have h1 : #[v] ++ (#[Value.iface T v] ++ vs.toArray).extract 1 (#[Value.iface T v] ++ vs.toArray).size = (v :: vs).toArray := by simp
       simp only [h0, callMethod, Sem.run_bind, run_program, Result.andThen_ok, hmeth, h1]
       exact hen
   ·cases hm
theorem EN.value {x : Operand} {caps : List Value} {do_ : Option Tmp} (hx : ev L x = some (.func (.func f) #[] caps.toArray)) (he : n9 P f = true) (hxs : evs L xs = some vs) :
  EN P C L H ⟨do_, .call ⟨.value x, xs.toArray, ats⟩, ty, p, e, g⟩ f (vs ++ caps) := fun a w hf _ => by
 have hmap : xs.toArray.map a.eval = vs.toArray := by rw [List.map_toArray, abg hf hxs]
 simp only [execOp, resolve, hf.ev hx, hmap, Deferred.ofValue, Sem.run_bind, Sem.run_pure, Result.andThen_ok, Go.invoke]
 simp [abk he]
end call
variable {B : List (Nat × Obj)} {b : Nat} {ob : Obj}
end Go.Proofs.YtgocbiiolmmonaaDoor
namespace Go.Proofs.YtgocbiiolmmonaaDoor
open Go Go.RowKit
variable {P : Program} {ops : Array Oper} {Q : Exit → Act → World → Prop} {C : Cx} {L : Sl} {H : List HA} {rest : List Oper} {o : Oper} {md : Region.Mode} {S : World → Prop} {q : Nat}
theorem FL.enter {T : World → i8 → Act → Prop} {L : FSl} {zl : List (Nat × Obj)} {k : Nat} {f : FuncId} {vs : List Value} {d : Nat} {R : List (Nat × Obj)} {v : Value} (hE : ∀ β, EN P C (L β) H o f vs) (hd : o.dst = some d)
  (hc : i7 P f vs R [] (Ret v [])) (hR : ROk C H R) (hz : n6 zl k = none) (hw : ∀ β, j4 ops (L β) o = some true) (hn : Nat.blt d C.n = true)
  (h : FL P ops T C (fun β => (d, v) :: L β) H zl (k + 1) rest) : FL P ops T C L H zl k (o :: rest) := by
 intro A w0 hf hp
 refine ⟨fun _ => v, .inr ⟨hz, v, rfl, fun β => .inl ⟨d9 (hf β) (hw β), fun w hb => ?_⟩⟩, ?_⟩
 ·have hpw := hp.below hb
  rw [hE β _ w (hf β) hpw]
  refine (hc w [] rfl List.nodup_nil (fun k hk => by cases hk) (fun q hq => ?_)).mono ?_
  ·refine ⟨?_, by simp⟩
   rcases hR.all q hq with ⟨i, hi⟩ | hm
   ·exact hpw.blk hi
   ·exact hpw.old hm
  ·rintro en w' ⟨H', hS, hh⟩
   rcases hS with ⟨r, rfl, hS⟩ | ⟨c, rfl, hS⟩
   ·cases hS; exact ⟨rfl, hh.toBelow⟩
   ·cases hS
 ·rw [hd]; exact h _ w0 (fun β => (hf β).put hn v) hp
def abb (P : Program) (md : Region.Mode) (ops : Array Oper) (Q : Exit → Act → World → Prop) (S : World → Prop) (q : Nat) : Nat → Array Bool → Act → World → Prop
 | 0, listed, a, w => Region.ready md ops listed = [] ∧ Q .normal a w
 | fuel + 1, listed, a, w =>
  (Region.ready md ops listed = [] → Q .normal a w) ∧
  ∀ i ∈ Region.ready md ops listed, wpOp P ops Q i (fun a' w' => (i ≠ q → S w') ∧ abb P md ops Q S q fuel (listed.setIfInBounds i true) a' w') a w
theorem aeo : ∀ (fuel : Nat) (listed : Array Bool) (a : Act) (w : World), abb P md ops Q S q fuel listed a w → wpAny P md ops Q fuel listed a w
 | 0, _, _, _, h => h
 | fuel + 1, _, _, _, h => ⟨h.1, fun i hi => wpOp_mono (fun a' w' h' => aeo fuel _ a' w' h'.2) (h.2 i hi)⟩
theorem af7 {i : Nat} {oi : Oper} {v : Value} (hi : ops[i]? = some oi) (hsel : ∀ (j : Nat) (o : Oper) cs b, ops[j]? = some o → o.op ≠ .select cs b)
  (hQ : ∀ c a w, Q (.panic c) (a.put oi.dst v) w → Q (.panic c) a w) (hlast : ∀ oq, ops[q]? = some oq → ∃ e ∈ oq.after, Region.binds md e = true ∧ e.on = i) :
  ∀ (fuel : Nat) (listed : Array Bool) (a : Act) (w : World),
   (∀ j oj, ops[j]? = some oj → j ≠ i → listed.getD j true = false → (∀ e ∈ oj.after, Region.binds md e = true → e.on ≠ i) → oi.apart ops oj = true) →
   i ∈ Region.ready md ops listed → YieldsIf P ops S oi v a → S w →
   abb P md ops Q S q fuel (listed.setIfInBounds i true) (a.put oi.dst v) w → abb P md ops Q S q (fuel + 1) listed a w := by
 intro fuel
 induction fuel with
 | zero =>
  intro listed a w _ hr hy hS H
  refine ⟨fun h => (by rw [h] at hr; cases hr), fun j hj => ?_⟩
  by_cases hji : j = i
  ·subst hji; exact hy.wpOp hi hS ⟨fun _ => hS, H⟩
  ·have := ready_mono hj hji
   rw [H.1] at this
   cases this
 | succ fuel ih =>
  intro listed a w hfree hr hy hS H
  refine ⟨fun h => (by rw [h] at hr; cases hr), fun j hj => ?_⟩
  by_cases hji : j = i
  ·subst hji; exact hy.wpOp hi hS ⟨fun _ => hS, H⟩
  ·have h1 := H.2 j (ready_mono hj hji)
   obtain ⟨hjun, oj, hoj, hall⟩ := mem_ready.1 hj
   have hnot : ∀ e ∈ oj.after, Region.binds md e = true → e.on ≠ i := fun e he hb heq => by
    have h1 := hall e he hb
    have h0 := (mem_ready.1 hr).1
    rw [heq] at h1
    rcases Nat.lt_or_ge i listed.size with h' | h'
    ·simp [h'] at h0 h1; rw [h0] at h1; cases h1
    ·simp [Array.getElem?_eq_none h'] at h1
   have hjq : j ≠ q := fun e => by
    subst e
    obtain ⟨e, he, hb, hon⟩ := hlast oj hoj
    exact hnot e he hb hon
   have h2 := wpOp_putIf hoj (hfree j oj hoj hji hjun hnot) (fun cs b => hsel i oi cs b hi) (fun cs b => hsel j oj cs b hoj) hQ hy h1
   have hfree' : ∀ k ok, ops[k]? = some ok → k ≠ i → (listed.setIfInBounds j true).getD k true = false →
     (∀ e ∈ ok.after, Region.binds md e = true → e.on ≠ i) → oi.apart ops ok = true := fun k ok hk hki hun hno => by
    refine hfree k ok hk hki ?_ hno
    by_cases hjk : j = k
    ·subst hjk; exact hjun
    ·rw [getD_set_ne true hjk] at hun; exact hun
   refine wpOp_mono (fun a' w' h3 => ⟨h3.2.1, ih (listed.setIfInBounds j true) a' w' hfree' (ready_mono hr (Ne.symm hji)) h3.1 (h3.2.1 hjq) ?_⟩) h2
   rw [Array.setIfInBounds_comm _ _ hji]
   exact h3.2.2
theorem ahf {i : Nat} {oi : Oper} {v : Value} {fuel : Nat} {listed : Array Bool} {a : Act} {w : World} (hi : ops[i]? = some oi)
  (hs : Region.noSelect ops = true) (hf : Region.free md ops listed i = true) (hr : (Region.ready md ops listed).contains i = true)
  (hQ : ∀ c a w, Q (.panic c) (a.put oi.dst v) w → Q (.panic c) a w) (hlast : ∀ oq, ops[q]? = some oq → ∃ e ∈ oq.after, Region.binds md e = true ∧ e.on = i) (hy : YieldsIf P ops S oi v a) (hS : S w)
  (h : abb P md ops Q S q fuel (listed.setIfInBounds i true) (a.put oi.dst v) w) : abb P md ops Q S q (fuel + 1) listed a w :=
 af7 hi (Region.noSelect_spec hs) hQ hlast fuel listed a w (Region.free_spec hi hf) (by simpa using hr) hy hS h
def af4 (P : Program) (ops : Array Oper) (Q : Exit → Act → World → Prop) (S : World → Prop) : List Oper → Act → World → Prop
 | [], a, w => Q .normal a w
 | o :: rest, a, w => Region.wanted o (yielded ops a.tmps) = true ∧ o.wp P a w (fun a' w' => (rest ≠ [] → S w') ∧ af4 P ops Q S rest a' w') Q
def WLX (P : Program) (ops : Array Oper) (Q : Exit → Act → World → Prop) (C : Cx) (HK : List HA) (L : Sl) (H : List HA) (l : List Oper) : Prop := ∀ a w, Fr C L a → Hp C H w → af4 P ops Q (Hp C HK) l a w
def SP (Q : Exit → Act → World → Prop) : Exit → Act → World → Prop
 | .panic c, a, w => ∀ a' : Act, a'.defers = a.defers → a'.tmps.size = a.tmps.size → Q (.panic c) a' w
 | e, a, w => Q e a w
theorem SP.stays : aku (SP Q) := fun c a d v w h a' h1 h2 => h a' (by rw [h1]; cases d <;> rfl) (by rw [h2]; cases d <;> simp [Act.put])
theorem Hp.right {A B : List HA} {w : World} (h : Hp C (A ++ B) w) : Hp C B w := by
 obtain ⟨F, h1, h2, h3⟩ := h.own
 obtain ⟨F1, F2, rfl, _, hB⟩ := h1.split
 exact ⟨h.os, h.tape, h.output, h.size, h.keep, h.ro, F2, hB, (List.nodup_append.1 h2).2.1, fun k hk => h3 k (List.mem_append.2 (.inr hk))⟩
theorem WLX.nil {HK : List HA} (h : QX Q .normal C L H) : WLX P ops (SP Q) C HK L H [] := fun a w hf hp => h a w hf hp
theorem WLX.op {HK H' : List HA} {L' : Sl} (idx : List Nat) (hi : n3 idx = true) (hk : sel H' idx = HK) (hop : OpK P o Q C L H L' H') (hw : j4 ops L o = some true) (h : WLX P ops Q C HK L' H' rest) : WLX P ops Q C HK L H (o :: rest) :=
 fun a w hf hp => ⟨d9 hf hw, hop _ (fun a' w' hf' hp' => ⟨fun _ => hk ▸ hp'.pick idx hi, h a' w' hf' hp'⟩) a w hf hp⟩
theorem WLX.opZ {HK H' : List HA} {L' : Sl} (hop : OpK P o Q C L H L' H') (hw : j4 ops L o = some true) (h : WLX P ops Q C HK L' H' []) : WLX P ops Q C HK L H [o] :=
 fun a w hf hp => ⟨d9 hf hw, hop _ (fun a' w' hf' hp' => ⟨fun e => absurd rfl e, h a' w' hf' hp'⟩) a w hf hp⟩
theorem WLX.pick {HK : List HA} {l : List Oper} (idx : List Nat) (hi : n3 idx = true) {H' : List HA} (he : sel H idx = H') (h : WLX P ops Q C HK L H' l) : WLX P ops Q C HK L H l := fun a w hf hp => h a w hf (he ▸ hp.pick idx hi)
theorem WLX.callS {HK : List HA} {f : FuncId} {vs : List Value} {d : Nat} {R : List (Nat × Obj)} {A Rest : List HA} {S : Out → Prop} (idx : List Nat) (hi : n3 idx = true) (hE : EN P C L H o f vs) (hd : o.dst = some d) (hc : i7 P f vs R A S) (hH : H = A ++ Rest) (hk : sel Rest idx = HK) (hR : ROk C Rest R)
  (hw : j4 ops L o = some true) (hn : Nat.blt d C.n = true)
  (h : ∀ r H', S (.ret r H') → WLX P ops Q C HK ((d, r) :: L) (H' ++ Rest) rest) (hpan : ∀ c H', S (.pan c H') → QX Q (.panic c) C L (H' ++ Rest)) : WLX P ops Q C HK L H (o :: rest) := by
 intro a w hf hp
 subst hH
 refine ⟨d9 hf hw, ?_⟩
 unfold Oper.wp
 rw [hE a w hf hp]
 simp only [Oper.upon]
 refine (af2 hc hp hR).mono ?_
 rintro en w' ⟨H', hS, hh⟩
 rcases hS with ⟨r, rfl, hS⟩ | ⟨c, rfl, hS⟩
 ·rw [hd]
  exact ⟨fun _ => hk ▸ hh.right.pick idx hi, h r H' hS _ _ (hf.put hn r) hh⟩
 ·exact hpan c H' hS _ _ hf hh
end Go.Proofs.YtgocbiiolmmonaaDoor
namespace Go.Proofs.YtgocbiiolmmonaaDoor
open Go Go.RowKit
variable {P : Program} {ops : Array Oper} {Q : Exit → Act → World → Prop} {C : Cx} {L : Sl} {H : List HA} {rest : List Oper} {o : Oper} {B : List (Nat × Obj)} {v u : Value} {vs : List Value} {d : Nat}
def Rd (C : Cx) (H : List HA) (R : List (Nat × Obj)) : Prop := ∀ p ∈ R, ∀ w, Hp C H w → w.heap[p.1]? = some p.2
theorem Rd.nil : Rd C H [] := fun p hp => by cases hp
theorem Rd.old : Rd C H C.R := fun _ hp _ h => h.old hp
def CV (P : Program) (C : Cx) (L : Sl) (H : List HA) (o : Oper) (v : Value) : Prop := ∃ f vs R, EN P C L H o f vs ∧ i7 P f vs R [] (Ret v []) ∧ Rd C H R
def aj3 (P : Program) (B : List (Nat × Obj)) (u : Value) (args : List Value) (v : Value) : Prop := ∃ f caps, u = .func (.func f) #[] (List.toArray caps) ∧ n9 P f = true ∧ i7 P f (args ++ caps) B [] (Ret v [])
section cv
variable {x : Operand} {xs : List Operand} {ats : Array TypeId} {ty : TypeId} {p : String} {e : Array Edge} {g : Option (Nat × Bool)} {name : String} {do_ : Option Tmp}
theorem CV.value (hx : ev L x = some u) (hV : aj3 P B u vs v) (hxs : evs L xs = some vs) (hR : Rd C H B) : CV P C L H ⟨do_, .call ⟨.value x, xs.toArray, ats⟩, ty, p, e, g⟩ v := by
 obtain ⟨f, caps, rfl, he, hc⟩ := hV
 exact ⟨f, vs ++ caps, B, EN.value hx he hxs, hc, hR⟩
end cv
theorem aj3.func {f : FuncId} {caps : List Value} (he : n9 P f = true) (h : i7 P f (vs ++ caps) B [] (Ret v [])) : aj3 P B (.func (.func f) #[] caps.toArray) vs v := ⟨f, caps, rfl, he, h⟩
end Go.Proofs.YtgocbiiolmmonaaDoor
namespace Go.Proofs.YtgocbiiolmmonaaDoor
open Go Go.RowKit
variable {P : Program} {ops : Array Oper} {Q : Exit → Act → World → Prop} {C : Cx} {L : Sl} {H HK : List HA} {rest : List Oper} {o : Oper} {d : Nat}
def an5 (P : Program) (C : Cx) (L : Sl) (H : List HA) (o : Oper) (Φ : Value → List HA → Prop) : Prop := ∀ a w, Fr C L a → Hp C H w → ∃ v w' H', (execOp a.eval o).run P w = .ok (.value v) w' ∧ Φ v H' ∧ Hp C H' w'
theorem WLX.valX {Φ : Value → List HA → Prop} (hv : an5 P C L H o Φ) (idx : List Nat) (hi : n3 idx = true) (hk : ∀ v H', Φ v H' → sel H' idx = HK) (hd : o.dst = some d) (hw : j4 ops L o = some true) (hn : Nat.blt d C.n = true)
  (h : ∀ v H', Φ v H' → WLX P ops Q C HK ((d, v) :: L) H' rest) : WLX P ops Q C HK L H (o :: rest) := by
 intro a w hf hp
 obtain ⟨v, w', H', hr, hΦ, hp'⟩ := hv a w hf hp
 refine ⟨d9 hf hw, ?_⟩
 unfold Oper.wp
 rw [hr]
 simp only [Oper.upon, hd]
 exact ⟨fun _ => hk v H' hΦ ▸ hp'.pick idx hi, h v H' hΦ _ _ (hf.put hn v) hp'⟩
theorem WLX.make {Z : Obj} {f : Nat → Value} (hv : MV P C L H o Z f) (idx : List Nat) (hi : n3 idx = true) (hk : ∀ b, sel (.blk b Z :: H) idx = HK) (hd : o.dst = some d) (hw : j4 ops L o = some true) (hn : Nat.blt d C.n = true)
  (h : ∀ b, WLX P ops Q C HK ((d, f b) :: L) (.blk b Z :: H) rest) : WLX P ops Q C HK L H (o :: rest) :=
 WLX.valX (Φ := fun v H' => ∃ b, v = f b ∧ H' = .blk b Z :: H) (fun a w hf hp => ⟨_, _, _, hv a w hf hp, ⟨_, rfl, rfl⟩, hp.alloc Z⟩) idx hi (fun _ _ ⟨b, _, e⟩ => e ▸ hk b) hd hw hn (fun _ _ ⟨b, e1, e2⟩ => by subst e1; subst e2; exact h b)
section ap
variable {α : Type} {f : α → List Value} {sz : Nat} {v : Value} {l ms : List α} {s x : Operand} {t e' T ty : TypeId} {p : String} {e : Array Edge} {cs zs : List Value} {bytes : Nat}
end ap
theorem w5 {u : Value} (h : u.oneCell' = true) : u.cells = [u].toArray := by cases u <;> first | rfl | (cases h; done)
def afl (place : Nat → Option (Nat × Nat)) (cells : Array Value) : List (Nat × List Value) → Option (Array Value)
 | [] => some cells
 | (i, v) :: rest =>
  match place i with
  | none => none
  | some (off, size) => if v.length ≠ size || off + v.length > cells.size then none else afl place (v.toArray.zipIdx.foldl (fun cs (c, j) => cs.setIfInBounds (off + j) c) cells) rest
def aed : List (Nat × Value) → List (Nat × List Value) → Prop
 | [], [] => True
 | p :: r, q :: s => p.1 = q.1 ∧ p.2.cells = q.2.toArray ∧ aed r s
 | _, _ => False
theorem abu {place : Nat → Option (Nat × Nat)} : ∀ {ps : List (Nat × Value)} {qs : List (Nat × List Value)} (cells : Array Value), aed ps qs → Instr.fill place cells ps = afl place cells qs
 | [], [], _, _ => rfl
 | (i, v) :: ps, (j, l) :: qs, cells, h => by
  obtain ⟨h1, h2, h3⟩ := h
  simp only at h1 h2
  subst h1
  unfold Instr.fill afl
  cases hp : place i with
  | none => rfl
  | some q =>
   obtain ⟨off, size⟩ := q
   simp only [h2, List.size_toArray, abu _ h3]
 | [], _ :: _, _, h => h.elim
 | _ :: _, [], _, h => h.elim
def ak5 (P : Program) (t : TypeId) (parts : List (Nat × List Value)) : Option (Array Value) :=
 match P.info? t, P.underlying t with
 | some it, some (.array _ e) =>
  match it.zero, P.info? e with
  | some z, some ie => afl (fun i => some (i * ie.size, ie.size)) z.cells parts
  | _, _ => none
 | some it, some (.struct fields) =>
  match it.zero, fields.toList.mapM (fun f => (P.info? f.type).map fun i => (f.offset, i.size)) with
  | some z, some places => afl (places.toArray[·]?) z.cells parts
  | _, _ => none
 | _, _ => none
theorem OV.buildC {t ty : TypeId} {d : Option Tmp} {p : String} {e : Array Edge} {g : Option (Nat × Bool)} {ps : List (Nat × Operand)} {vs : List (Nat × Value)} {qs : List (Nat × List Value)} {cs : List Value} (hx : evp L ps = some vs) (hc : aed vs qs) (hb : ak5 P t qs = some cs.toArray) : OV P C L H ⟨d, .build t ps.toArray, ty, p, e, g⟩ (.agg cs.toArray) := by
 refine OV.build hx ?_
 have h1 : ∀ place cells, Instr.fill place cells vs = afl place cells qs := fun _ cells => abu cells hc
 rw [← hb]
 simp only [Program.built, ak5, h1]
 rfl
theorem LIn.one {v : Value} {n : Nat} {xs : List Value} (h : LIn C v n xs) : v.oneCell' = true := by
 obtain ⟨R, h1, _⟩ := h
 rcases h1 with ⟨_, _, ⟨_, _, rfl⟩, _⟩ | ⟨_, _, _, _, _, _, rfl, _⟩ <;> rfl
end Go.Proofs.YtgocbiiolmmonaaDoor
namespace Go.Proofs.YtgocbiiolmmonaaDoor
open Go Go.RowKit
variable {P : Program} {Q : Exit → Act → World → Prop} {C : Cx} {L : Sl} {H : List HA}
section st
variable {x y : Operand} {t ty T : TypeId} {p : String} {e : Array Edge} {g : Option (Nat × Bool)} {v u : Value} {sz : Nat} {α : Type} [Inhabited α] {f : α → List Value} {l : List α}
end st
theorem i7.one {P : Program} {f : FuncId} {args : List Value} {R : List (Nat × Obj)} {α : Type} {e : α → Value} {c : α} (h : i7 P f args R [] (fun o => (∃ v, v = c ∧ o = .ret (e v) []) ∨ False)) : i7 P f args R [] (Ret (e c) []) := h.weak (by
 rintro o (⟨v, rfl, rfl⟩ | h)
 ·rfl
 ·exact h.elim)
end Go.Proofs.YtgocbiiolmmonaaDoor
namespace Go.Proofs.YtgocbiiolmmonaaDoor
open Go Go.RowKit
variable {P : Program} {C : Cx} {H : List HA}
theorem LOk.at {v : Value} {n : Nat} {xs : List Value} (hL : LOk C H v n xs) {w : World} (hp : Hp C H w) : ∃ R, aaq v R n xs ∧ ∀ p ∈ R, w.heap[p.1]? = some p.2 := by
 obtain ⟨F, h1, _⟩ := hp.own
 obtain ⟨R, hR, hh⟩ := hL w F h1
 refine ⟨R, hR, fun p hp' => ?_⟩
 rcases hh p hp' with h | h
 ·exact h.1
 ·exact hp.old h
end Go.Proofs.YtgocbiiolmmonaaDoor
namespace Go.Proofs.YtgocbiiolmmonaaDoor
open Go Go.RowKit
variable {P : Program} {ops : Array Oper} {Q : Exit → Act → World → Prop} {C : Cx} {L : Sl} {H : List HA} {md : Region.Mode} {S : World → Prop} {q : Nat}
def aci (ops : Array Oper) : List Nat → List Oper
 | [] => []
 | i :: r => match ops[i]? with
  | some o => o :: aci ops r
  | none => []
def akq (l : List Oper) : List Nat → List Oper
 | [] => []
 | i :: r => match l[i]? with
  | some o => o :: akq l r
  | none => []
theorem ab4 {i : Nat} {o : Oper} (h : ops[i]? = some o) (r : List Nat) : aci ops (i :: r) = o :: aci ops r := by
 rw [aci, h]
theorem afv (l : List Oper) : ∀ r, akq l r = aci l.toArray r
 | [] => rfl
 | i :: r => by
  unfold akq aci
  rw [List.getElem?_toArray, afv l r]
def ai8 (md : Region.Mode) (ops : Array Oper) : List Nat → Array Bool → Bool
 | [], listed => (Region.ready md ops listed).isEmpty
 | i :: r, listed => decide (Region.ready md ops listed = [i]) && ai8 md ops r (listed.setIfInBounds i true)
def aiq (md : Region.Mode) (ops : Array Oper) (tl : List Nat) : List Nat → Array Bool → Bool
 | [], listed => ai8 md ops tl listed
 | i :: r, listed => (Region.ready md ops listed).contains i && Region.free md ops listed i && aiq md ops tl r (listed.setIfInBounds i true)
theorem aa3 : ∀ (tl : List Nat) (listed : Array Bool) (a : Act) (w : World), (tl ≠ [] → tl.getLast? = some q) →
  ai8 md ops tl listed = true → af4 P ops Q S (aci ops tl) a w → abb P md ops Q S q tl.length listed a w
 | [], _, _, _, _, hB, h => ⟨by simpa [ai8] using hB, h⟩
 | i :: tl, listed, a, w, hq, hB, h => by
  simp only [ai8, Bool.and_eq_true, decide_eq_true_eq] at hB
  obtain ⟨o, ho⟩ : ∃ o, ops[i]? = some o := by
   have hm : i ∈ Region.ready md ops listed := by rw [hB.1]; simp
   obtain ⟨_, o, ho, _⟩ := mem_ready.1 hm
   exact ⟨o, ho⟩
  rw [ab4 ho] at h
  refine ⟨fun h1 => (by rw [hB.1] at h1; cases h1), fun j hj => ?_⟩
  rw [hB.1] at hj
  obtain rfl : j = i := by simpa using hj
  unfold wpOp
  simp only [ho, h.1, if_true]
  have hl := hq (by simp)
  refine .inl (Oper.wp_mono (fun a' w' h' => ⟨fun hne => h'.1 (fun e => hne ?_), ?_⟩) h.2)
  ·refine aa3 tl _ a' w' (fun hne => ?_) hB.2 h'.2
   cases tl with
   | nil => exact absurd rfl hne
   | cons k tl => simpa using hl
  ·cases tl with
   | nil => simpa using hl
   | cons k tl =>
    exfalso
    have hk : ∃ o, ops[k]? = some o := by
     have h2 := hB.2
     simp only [ai8, Bool.and_eq_true, decide_eq_true_eq] at h2
     have hm : k ∈ Region.ready md ops (listed.setIfInBounds j true) := by rw [h2.1]; simp
     obtain ⟨_, o, ho, _⟩ := mem_ready.1 hm
     exact ⟨o, ho⟩
    obtain ⟨o2, ho2⟩ := hk
    rw [ab4 ho2] at e
    cases e
theorem aiw {tl : List Nat} {HK : List HA} (hsel : Region.noSelect ops = true) (hq : aku Q) (hlq : tl ≠ [] → tl.getLast? = some q) : ∀ (hs : List Nat) (listed : Array Bool) (L : Sl) (a : Act) (w : World),
  (∀ i ∈ hs, ∀ oq, ops[q]? = some oq → ∃ e ∈ oq.after, Region.binds .any e = true ∧ e.on = i) →
  aiq .any ops tl hs listed = true → Fr C L a → Hp C H w → Hp C HK w → TW P ops C HK (fun L' => WLX P ops Q C HK L' H (aci ops tl)) L (aci ops hs) → abb P .any ops Q (Hp C HK) q (hs.length + tl.length) listed a w
 | [], listed, L, a, w, _, hB, hf, hp, _, h => by
  rw [show ([] : List Nat).length + tl.length = tl.length by simp]
  exact aa3 tl listed a w hlq hB (h a w hf hp)
 | i :: hs, listed, L, a, w, hlast, hB, hf, hp, hpk, h => by
  simp only [aiq, Bool.and_eq_true] at hB
  obtain ⟨⟨hrd, hfr⟩, hB'⟩ := hB
  obtain ⟨o, h0⟩ : ∃ o, ops[i]? = some o := by
   obtain ⟨_, o, ho, _⟩ := mem_ready.1 (by simpa using hrd)
   exact ⟨o, ho⟩
  rw [ab4 h0] at h
  obtain ⟨v, d, hv, hd, hn, h⟩ := h
  have hy : YieldsIf P ops (Hp C HK) o v a := by
   rcases hv with ⟨hw, hv⟩ | ⟨hw, rfl⟩
   ·exact .inl ⟨d9 hf hw, fun w' hw' => hv a w' hf hw'⟩
   ·exact .inr ⟨d9 hf hw, rfl⟩
  have ih := aiw hsel hq hlq hs (listed.setIfInBounds i true) ((d, v) :: L) (a.put (some d) v) w (fun j hj => hlast j (List.mem_cons_of_mem _ hj)) hB' (hf.put hn v) hp hpk h
  rw [show (i :: hs).length + tl.length = (hs.length + tl.length) + 1 by simp; omega]
  refine ahf h0 hsel hfr hrd (fun c a w h => hq c a _ v w h) (hlast i List.mem_cons_self) hy hpk ?_
  rw [hd]; exact ih
def amr (l : List Oper) (hs : List Nat) : Bool := match l[l.length - 1]? with
 | some o => hs.all fun i => o.after.any fun e => Region.binds .any e && Nat.beq e.on i
 | none => false
theorem adq {id : Nat} {l : List Oper} {L : Sl} (hs tl : List Nat) (idx : List Nat) (HK : List HA) (hi : n3 idx = true) (hk : sel H idx = HK) (hm : P.follows .mixedOrders = true)
  (hB : (Region.noSelect l.toArray && Nat.beq (hs.length + tl.length) l.length && decide (tl.getLast? = some (l.length - 1)) && amr l hs && aiq .any l.toArray tl hs (Array.replicate l.length false)) = true)
  (h : ∀ T : Sl → Prop, (∀ L', WLX P l.toArray (SP Q) C HK L' H (akq l tl) → T L') → TW P l.toArray C HK T L (akq l hs)) : WC P (.region id l.toArray true) Q C L H := by
 intro a w hf hp
 simp only [Bool.and_eq_true, decide_eq_true_eq] at hB
 obtain ⟨⟨⟨⟨hsel, hn⟩, hlq⟩, hla⟩, hlex⟩ := hB
 have hn' := Nat.eq_of_beq_eq_true hn
 refine wp_mono (Q := SP Q) (wp_region_any hm ?_) (fun e a w hq => ?_)
 ·have := aeo _ _ _ _ (aiw (P := P) (ops := l.toArray) (Q := SP Q) (C := C) (H := H) (HK := HK) (tl := tl) (q := l.length - 1) hsel SP.stays (fun _ => hlq) hs (Array.replicate l.length false) L a w.drew
   (fun i hi oq hoq => by
    unfold amr at hla
    have h1 : l[l.length - 1]? = some oq := by simpa using hoq
    rw [h1] at hla
    have h2 := List.all_eq_true.1 hla i hi
    obtain ⟨e, he, hb⟩ := Array.any_eq_true'.1 h2
    simp only [Bool.and_eq_true] at hb
    exact ⟨e, he, hb.1, Nat.eq_of_beq_eq_true hb.2⟩)
   hlex hf hp.drew (hk ▸ hp.drew.pick idx hi) (by rw [← afv, ← afv]; exact h _ fun _ hh => hh))
  rw [hn'] at this
  simpa using this
 ·cases e with
  | panic c => exact hq a rfl rfl
  | _ => exact hq
end Go.Proofs.YtgocbiiolmmonaaDoor
namespace Go.Proofs.YtgocbiiolmmonaaDoor
open Go Go.RowKit
variable {P : Program} {ops : Array Oper} {Q : Exit → Act → World → Prop} {C : Cx} {L : Sl} {H : List HA} {rest : List Oper} {w : World}
theorem Own.mem {K : List HA} {x : HA} : ∀ {F : List Nat}, Own w K F → x ∈ K → ∃ f, x.at w f ∧ ∀ k ∈ f, k ∈ F := by
 induction K with
 | nil => intro F _ h; cases h
 | cons y K ih =>
  rintro F ⟨F1, F2, rfl, h1, h2⟩ h
  rcases List.mem_cons.1 h with rfl | h
  ·exact ⟨F1, h1, fun k hk => List.mem_append.2 (.inl hk)⟩
  ·obtain ⟨f, h3, h4⟩ := ih h2 h
   exact ⟨f, h3, fun k hk => List.mem_append.2 (.inr (h4 k hk))⟩
section ov
variable {x y : Operand} {t e' ty T : TypeId} {d : Option Tmp} {p : String} {e : Array Edge} {g : Option (Nat × Bool)} {v : Value} {k : IntKind} {sz n : Nat} {xs : List Value} {K : List HA} {α : Type} [Inhabited α] {f : α → List Value} {l : List α}
end ov
end Go.Proofs.YtgocbiiolmmonaaDoor
namespace Go.Proofs.YtgocbiiolmmonaaDoor
open Go Go.RowKit
variable {P : Program} {ops : Array Oper} {Q : Exit → Act → World → Prop} {C : Cx} {L : Sl} {H : List HA} {rest : List Oper} {w : World} {kt et mt : TypeId} {b : Nat} {l : List Int}
def ank (P : Program) (kt et : TypeId) (b : Nat) (l : List Int) (w : World) (F : List Nat) : Prop :=
 F = [b] ∧ ∃ (n : Nat) (D : DataW Unit), n ≤ l.length ∧ w.ownsMap P kt (plainElem P et) b n D ∧ Maps.IsMap D ∧ ∀ c : Int, 0 ≤ c → c < 256 → D.atKey (.int .u8 c) (.lit (.int .i64 0)) = .lit (.int .i64 ((l.count c : Nat) : Int))
theorem aig (P : Program) (kt et : TypeId) (b : Nat) (l : List Int) : akc (ank P kt et b l) := by
 rintro w w' F ⟨rfl, n, D, h1, ⟨es, clock, hb, h2⟩, h3⟩ hk
 exact ⟨rfl, n, D, h1, ⟨es, clock, by rw [hk b (by simp)]; exact hb, h2⟩, h3⟩
def cnt (P : Program) (kt et : TypeId) (b : Nat) (l : List Int) : HA := .gen (ank P kt et b l) (aig P kt et b l)
structure CntT (P : Program) (mt kt et : TypeId) : Prop where
 map : P.underlying mt = some (.map kt et)
 key : P.underlying kt = some (.int .u8)
 elem : P.underlying et = some (.int .i64)
 zero : ae9 P et = some (.int .i64 0)
theorem amo {c : Int} (h : 0 ≤ c ∧ c < 256) : (Lit.int .u8 c).wf = true := by
 obtain ⟨n, rfl⟩ : ∃ n : Nat, c = n := ⟨c.toNat, by omega⟩
 have h1 : IntKind.u8.min = 0 := rfl
 have h2 : IntKind.u8.max = 255 := rfl
 simp [Lit.wf]; omega
theorem Hp.cnt (hp : Hp C H w) (i : Nat) (hi : H[i]? = some (Go.Proofs.YtgocbiiolmmonaaDoor.cnt P kt et b l)) : ∃ F, ank P kt et b l w F := by
 obtain ⟨F, h1, _⟩ := hp.own
 exact h1.each i _ hi
theorem OV.lookup {x y : Operand} {ty : TypeId} {d : Option Tmp} {p : String} {e : Array Edge} {g : Option (Nat × Bool)} {c : Int} (i : Nat) (hx : ev L x = some (.map (some b))) (hy : ev L y = some (.int .u8 c)) (hi : H[i]? = some (cnt P kt et b l)) (ht : CntT P mt kt et) (hc : 0 ≤ c ∧ c < 256) :
  OV P C L H ⟨d, .lookup mt x y false, ty, p, e, g⟩ (.int .i64 ((l.count c : Nat) : Int)) := fun a w hf hp => by
 obtain ⟨F, rfl, n, D, _, hown, _, hat⟩ := hp.cnt i hi
 obtain ⟨v, hrun, h2, _⟩ := hown.lookup_int (Maps.int_keyed ht.key) ht.map ht.elem (ae2 ht.zero w) (Maps.keyOf_int_mk ht.key (amo hc))
 rw [hat c hc.1 hc.2] at h2
 simp only [DataW.lit.injEq, Lit.int.injEq, true_and] at h2
 subst h2
 simp [execOp, hf.ev hx, hf.ev hy, hrun]
theorem WL.mapUpdate {x y z : Operand} {ty : TypeId} {p : String} {e : Array Edge} {g : Option (Nat × Bool)} {c : Int} (i : Nat) (hx : ev L x = some (.map (some b))) (hy : ev L y = some (.int .u8 c)) (hz : ev L z = some (.int .i64 (((l.count c : Nat) : Int) + 1))) (hi : H[i]? = some (cnt P kt et b l)) (ht : CntT P mt kt et) (hc : (0 ≤ c ∧ c < 256) ∧ l.length < 140737488355328)
  (hw : j4 ops L ⟨none, .mapUpdate mt x y z, ty, p, e, g⟩ = some true) (h : WL P ops Q C L (H.set i (cnt P kt et b (c :: l))) rest) : WL P ops Q C L H (⟨none, .mapUpdate mt x y z, ty, p, e, g⟩ :: rest) := by
 refine WL.op (fun K hK a w hf hp => ?_) hw h
 obtain ⟨F, hF, n, D, hn, hown, hmap, hat⟩ := hp.cnt i hi
 have hcnt : l.count c ≤ l.length := List.count_le_length
 have hv : plainElem (H := Unit) P et (.int .i64 (((l.count c : Nat) : Int) + 1)) = some (.lit (.int .i64 (((l.count c : Nat) : Int) + 1)), []) := plainElem_int ht.elem (by
  have h1 : IntKind.i64.min = -9223372036854775808 := rfl
  have h2 : IntKind.i64.max = 9223372036854775807 := rfl
  simp [Lit.wf]; omega)
 obtain ⟨w', hrun, h1, h2⟩ := hown.update (Maps.int_keyed ht.key) ht.map (by unfold maxLen; omega) (Maps.keyOf_int_mk ht.key (amo hc.1)) hv
 have hsw := hp.swap (w' := w') (x' := cnt P kt et b (c :: l)) hi h2.os h2.tape h2.output h2.size (fun F' hF' k hk hne => h2.block k hk (fun e => by
   obtain ⟨rfl, _⟩ := hF'
   cases e; exact hne (by simp))) (fun F' hF' _ => by
   obtain ⟨rfl, _⟩ := hF'
   refine ⟨[b], ⟨rfl, n + 1, _, by simp; omega, h1, hmap.put _ _, fun q q0 q1 => ?_⟩, by simp, fun k hk => ?_⟩
   ·by_cases hq : q = c
    ·subst hq
     rw [Maps.atKey_put_same hmap (by trivial)]
     simp
    ·rw [Maps.atKey_put_other (fun e => hq (by cases e; rfl)), hat q q0 q1, List.count_cons_of_ne (fun e => hq e.symm)]
   ·obtain rfl := List.mem_singleton.1 hk
    exact ⟨.inl (by simp), h1.lt⟩)
 unfold Oper.wp
 simp only [execOp, hf.ev hx, hf.ev hy, hf.ev hz, Sem.run_bind, hrun, Result.andThen_ok, Sem.run_pure, Oper.upon]
 exact hK _ _ (hf.put0 _) hsw
theorem WL.makeMap {d : Nat} {ty : TypeId} {p : String} {e : Array Edge} {g : Option (Nat × Bool)} (_ht : CntT P mt kt et) (hw : j4 ops L ⟨some d, .makeMap mt none, ty, p, e, g⟩ = some true) (hn : Nat.blt d C.n = true)
  (h : ∀ b, WL P ops Q C ((d, .map (some b)) :: L) (cnt P kt et b [] :: H) rest) : WL P ops Q C L H (⟨some d, .makeMap mt none, ty, p, e, g⟩ :: rest) := by
 intro a w hf hp
 refine j7 (d9 hf hw) ?_
 unfold Oper.wp
 have hrun : (Instr.makeMap mt none).run P w = .ok (.map (some w.heap.size)) (w.alloc (.map #[] 0)) := rfl
 simp only [execOp, Option.map_none, Sem.run_bind, hrun, Result.andThen_ok, Sem.run_pure, Oper.upon]
 refine h _ _ _ (hf.put hn _) ?_
 have h1 := hp.alloc (.map #[] 0)
 have h2 := h1.swap (w' := w.alloc (.map #[] 0)) (i := 0) (x' := cnt P kt et w.heap.size []) rfl rfl rfl rfl (Nat.le_refl _) (fun _ _ _ _ _ => rfl) (fun F' hF' _ => by
  obtain ⟨rfl, hb⟩ := hF'
  refine ⟨[w.heap.size], ⟨rfl, 0, .map [], by simp, World.ownsMap_made w P kt _, Maps.isMap_empty, fun c _ _ => by simp [DataW.atKey]⟩, by simp, fun k hk => ?_⟩
  obtain rfl := List.mem_singleton.1 hk
  exact ⟨.inl (by simp), n8 hb⟩)
 exact h2
theorem OV.sliceArr {x : Operand} {t e' ty : TypeId} {d : Option Tmp} {p : String} {e : Array Edge} {g : Option (Nat × Bool)} {b n sz : Nat} (hx : ev L x = some (.pointer (some ⟨b, 0, none⟩))) (ht : ahs P t e' n sz = true) (_hn : Nat.blt 0 n = true) :
  OV P C L H ⟨d, .slice t x none none none, ty, p, e, g⟩ (.slice (some ⟨b, 0, none⟩) n n) := fun a w hf _ => by
 obtain ⟨hu, hs⟩ := ae1 ht
 have he : P.elem t = e' := by simp [Program.elem, hu]
 have hl : P.arrayLen t = n := by simp [Program.arrayLen, hu]
 have ha : P.underlying t = some (.array (P.arrayLen t) (P.elem t)) := by rw [he, hl]; exact hu
 have h1 : (sizeOf (P.elem t)).run P w = .ok sz w := by rw [he]; exact aaj hs w
 simp only [execOp, Option.map_none, hf.ev hx, Sem.run_bind, run_sliceAt_array_all (P := P) w t _ ha, h1, Result.andThen_ok, Sem.run_pure, hl]
 simp [slicedAt, Addr.add]
end Go.Proofs.YtgocbiiolmmonaaDoor
namespace Go.Proofs.YtgocbiiolmmonaaDoor.SC
open Go Go.RowKit
section
variable {P : Program} {ops : Array Oper} {md : Region.Mode} {B : Nat} {w0 : World} {Zs : Nat → Option Obj}
def f9 (P : Program) (md : Region.Mode) (ops : Array Oper) (B : Nat) (w0 : World) (Zs : Nat → Option Obj) (i : Nat) (o : Oper) (v : i8 → Value) (A : Fam) : Prop :=
 (∃ Z, ∃ f : Nat → Value, Zs i = some Z ∧ v = (fun β => f (β i)) ∧ ∀ β, Region.wanted o (yielded ops (A β).tmps) = true ∧ ∀ w, Below B w0 w → (execOp (A β).eval o).run P w = .ok (.value (f w.heap.size)) (w.alloc Z)) ∨
 (Zs i = none ∧ ∃ u, v = (fun _ => u) ∧ ∀ β, (Region.wanted o (yielded ops (A β).tmps) = true ∧ ∀ w, Below B w0 w → (∀ e ∈ o.after, Region.binds md e = true → ∀ Z, Zs e.on = some Z → w.heap[β e.on]? = some Z) → aau P u w ((execOp (A β).eval o).run P w)) ∨
  (Region.wanted o (yielded ops (A β).tmps) = false ∧ u = undef))
theorem f9.of_same {i : Nat} {o : Oper} {v : i8 → Value} {A A' : Fam} (hy : f9 P md ops B w0 Zs i o v A) (he : ∀ β, execOp (A' β).eval o = execOp (A β).eval o)
  (hw : ∀ β, Region.wanted o (yielded ops (A' β).tmps) = Region.wanted o (yielded ops (A β).tmps)) : f9 P md ops B w0 Zs i o v A' := by
 unfold f9 at *; simp only [he, hw]; exact hy
def flOpA (P : Program) (md : Region.Mode) (ops : Array Oper) (B : Nat) (w0 : World) (Zs : Nat → Option Obj) (i : Nat) (K : Fam → Prop) (A : Fam) : Prop :=
 match ops[i]? with
 | none => K A
 | some o => ∃ v, f9 P md ops B w0 Zs i o v A ∧ K (A.put o.dst v)
theorem y4 {i : Nat} {A : Fam} {K K' : Fam → Prop} (h : ∀ A, K A → K' A) (hh : flOpA P md ops B w0 Zs i K A) : flOpA P md ops B w0 Zs i K' A := by
 unfold flOpA at *
 split
 ·exact h _ (by simpa [*] using hh)
 ·rename_i o ho
  simp only [ho] at hh
  obtain ⟨v, hy, hk⟩ := hh
  exact ⟨v, hy, h _ hk⟩
theorem f9.toOp {i : Nat} {o : Oper} {v : i8 → Value} {A : Fam} (hi : ops[i]? = some o) (hy : f9 P md ops B w0 Zs i o v A) {K : Fam → Prop} (h : K (A.put o.dst v)) : flOpA P md ops B w0 Zs i K A := by
 unfold YtgocbiiolmmonaaDoor.SC.flOpA; simp only [hi]; exact ⟨v, hy, h⟩
theorem aal {i j : Nat} {oi oj : Oper} {v : i8 → Value} (hj : ops[j]? = some oj) (hap : oi.apart ops oj = true)
  (hsi : ∀ cs b, oi.op ≠ .select cs b) (hsj : ∀ cs b, oj.op ≠ .select cs b) {K : Fam → Prop} {A : Fam}
  (hy : f9 P md ops B w0 Zs i oi v A) (h : flOpA P md ops B w0 Zs j K (A.put oi.dst v)) :
  flOpA P md ops B w0 Zs j (fun A' => f9 P md ops B w0 Zs i oi v A' ∧ K (A'.put oi.dst v)) A := by
 obtain ⟨h1, h2, h3⟩ := Oper.apart_spec hap
 unfold flOpA at *
 simp only [hj] at *
 obtain ⟨u, hu, hk⟩ := h
 refine ⟨u, hu.of_same (fun β => (execOp_put oj hsj (A β) oi.dst (v β) h1).symm) (fun β => (wanted_put oj (A β) oi.dst (v β) h1).symm), ?_, ?_⟩
 ·exact hy.of_same (fun β => execOp_put oi hsi (A β) oj.dst (u β) h3) (fun β => wanted_put oi (A β) oj.dst (u β) h3)
 ·have e : (A.put oj.dst u).put oi.dst v = (A.put oi.dst v).put oj.dst u := by funext β; exact (Act.put_comm (A β) (v β) (u β) h2).symm
  rw [e]; exact hk
def o0 (P : Program) (md : Region.Mode) (ops : Array Oper) (B : Nat) (w0 : World) (Zs : Nat → Option Obj) (n : Nat) (L : Array Bool → Fam → Prop) : Nat → Array Bool → Fam → Prop
 | 0, listed, A => L listed A
 | f + 1, listed, A =>
  Region.ready md ops listed ≠ [] ∧ ∀ i ∈ Region.ready md ops listed, i < n ∧ flOpA P md ops B w0 Zs i (o0 P md ops B w0 Zs n L f (listed.setIfInBounds i true)) A
theorem e8 {n g : Nat} {L : Array Bool → Fam → Prop} {Q' : Exit → Act → World → Prop} (hB : B ≤ w0.heap.size)
  (hL : ∀ listed A γ w, Facts B w0 Zs listed γ w → L listed A → wpAny P md ops Q' g listed (A γ) w) :
  ∀ (f : Nat) (listed : Array Bool) (A : Fam) (γ : i8) (w : World), listed.size = ops.size → w6 listed A → Facts B w0 Zs listed γ w → o0 P md ops B w0 Zs n L f listed A → wpAny P md ops Q' (f + g) listed (A γ) w
 | 0, listed, A, γ, w, _, _, hF, h => by rw [Nat.zero_add]; exact hL _ _ _ _ hF h
 | f + 1, listed, A, γ, w, hsz, hA, hF, h => by
  rw [show f + 1 + g = (f + g) + 1 by omega]
  refine ⟨fun h0 => absurd h0 h.1, fun i hi => ?_⟩
  have hh := (h.2 i hi).2
  obtain ⟨hun, o, ho, hall⟩ := mem_ready.1 hi
  have hin : i < ops.size := (Array.getElem?_eq_some_iff.1 ho).1
  have hnow : ∀ j, listed.getD j false = true → (listed.setIfInBounds i true).getD j false = true := fun j hj => by
   by_cases e : i = j
   ·subst e; simp [Array.getD, hsz, hin]
   ·rw [getD_set_ne false e]; exact hj
  have hset : (listed.setIfInBounds i true).getD i false = true := by simp [Array.getD, hsz, hin]
  have hsz' : (listed.setIfInBounds i true).size = ops.size := by simpa using hsz
  unfold flOpA at hh
  unfold wpOp
  simp only [ho] at hh ⊢
  obtain ⟨v, hv, hk⟩ := hh
  rcases hv with ⟨Z, fv, hz, rfl, hg⟩ | ⟨hz, u, rfl, hg⟩
  ·obtain ⟨hw, hx⟩ := hg γ
   simp only [hw, if_true]
   refine .inl ?_
   unfold Oper.wp
   rw [hx w hF.below]
   simp only [Oper.upon]
   have hF' := hF.made hB hz (getD_both hun)
   have hA' : w6 (listed.setIfInBounds i true) (A.put o.dst (fun β => fv (β i))) := fun β β' hb => by
    show (A β).put o.dst (fv (β i)) = (A β').put o.dst (fv (β' i))
    rw [hA β β' (fun j hj => hb j (hnow j hj)), hb i hset]
   have := e8 hB hL f _ _ _ _ hsz' hA' hF' hk
   have e : (A.put o.dst (fun β => fv (β i))) (fun j => if j = i then w.heap.size else γ j) = (A γ).put o.dst (fv w.heap.size) := by
    show (A _).put o.dst _ = _
    rw [hA _ γ (fun j hj => by
     by_cases e : j = i
     ·subst e; rw [getD_both hun] at hj; cases hj
     ·simp [e])]
    simp
   rw [e] at this
   exact this
  ·have hA' : w6 (listed.setIfInBounds i true) (A.put o.dst (fun _ => u)) := fun β β' hb => by
    show (A β).put o.dst u = (A β').put o.dst u
    rw [hA β β' (fun j hj => hb j (hnow j hj))]
   rcases hg γ with ⟨hw, hx⟩ | ⟨hw, rfl⟩
   ·simp only [hw, if_true]
    refine .inl ?_
    unfold Oper.wp
    have hg' := hx w hF.below (fun e he hb Z hZ => (hF.blk e.on Z hZ (hall e he hb)).1)
    generalize (execOp (A γ).eval o).run P w = r at hg' ⊢
    cases r with
    | ok m w' =>
     cases m <;> simp only [aau] at hg' <;> simp only [Oper.upon]
     case enter f' args => exact hg'.mono fun e w'' ⟨he, hs⟩ => by subst he; exact e8 hB hL f _ _ _ _ hsz' hA' (hF.plain hB hz hs) hk
     all_goals (obtain ⟨rfl, hs⟩ := hg'; exact e8 hB hL f _ _ _ _ hsz' hA' (hF.plain hB hz hs) hk)
    | halt x w' => simp only [aau] at hg'
   ·simp only [hw, Bool.false_eq_true, if_false]
    exact e8 hB hL f _ _ _ _ hsz' hA' (hF.plain hB hz (Below.refl _ _)) hk
theorem u5 {n i : Nat} {oi : Oper} {v : i8 → Value} {L : Array Bool → Fam → Prop} {Inv : Array Bool → Prop} (hi : ops[i]? = some oi) (hsel : ∀ (j : Nat) (o : Oper) cs b, ops[j]? = some o → o.op ≠ .select cs b)
  (hr : HeadRule md ops n Inv) (hin : i < n) (hdone : ∀ listed A, L listed A → ∀ j ∈ Region.ready md ops listed, n ≤ j) :
  ∀ (f : Nat) (listed : Array Bool) (A : Fam), Inv listed →
   (∀ j oj, ops[j]? = some oj → j ≠ i → listed.getD j true = false → (∀ e ∈ oj.after, Region.binds md e = true → e.on ≠ i) → oi.apart ops oj = true) →
   i ∈ Region.ready md ops listed → f9 P md ops B w0 Zs i oi v A →
   o0 P md ops B w0 Zs n L f (listed.setIfInBounds i true) (A.put oi.dst v) → o0 P md ops B w0 Zs n L (f + 1) listed A := by
 intro f
 induction f with
 | zero =>
  intro listed A inv _ hri hy H
  refine ⟨fun h => (by rw [h] at hri; cases hri), fun j hj => ?_⟩
  have hjn := hr.first listed i inv hin (mem_ready.1 hri).1 j hj
  refine ⟨hjn, ?_⟩
  by_cases hji : j = i
  ·subst hji; exact hy.toOp hi H
  ·have := hdone _ _ H j (ready_mono hj hji)
   omega
 | succ f ih =>
  intro listed A inv hfree hri hy H
  refine ⟨fun h => (by rw [h] at hri; cases hri), fun j hj => ?_⟩
  have hjn := hr.first listed i inv hin (mem_ready.1 hri).1 j hj
  refine ⟨hjn, ?_⟩
  by_cases hji : j = i
  ·subst hji; exact hy.toOp hi H
  ·have h1 := (H.2 j (ready_mono hj hji)).2
   obtain ⟨hjun, oj, hoj, hall⟩ := mem_ready.1 hj
   have hnot : ∀ e ∈ oj.after, Region.binds md e = true → e.on ≠ i := fun e he hb heq => by
    have h1 := hall e he hb
    rw [heq, getD_both (mem_ready.1 hri).1] at h1
    cases h1
   have h2 := aal hoj (hfree j oj hoj hji hjun hnot) (fun cs b => hsel i oi cs b hi) (fun cs b => hsel j oj cs b hoj) hy h1
   refine y4 (fun A' h3 => ih (listed.setIfInBounds j true) A' (hr.step _ _ inv hj hjn) ?_ (ready_mono hri (Ne.symm hji)) h3.1 ?_) h2
   ·intro k ok hk hki hun hno
    refine hfree k ok hk hki ?_ hno
    by_cases hjk : j = k
    ·subst hjk; exact hjun
    ·rw [getD_set_ne true hjk] at hun; exact hun
   ·rw [Array.setIfInBounds_comm _ _ hji]
    exact h3.2
def wpFlowA (P : Program) (md : Region.Mode) (ops : Array Oper) (B : Nat) (w0 : World) (Zs : Nat → Option Obj) (Q : Fam → Prop) : List Oper → Nat → Fam → Prop
 | [], _, A => Q A
 | o :: rest, k, A => ∃ v, f9 P md ops B w0 Zs k o v A ∧ wpFlowA P md ops B w0 Zs Q rest (k + 1) (A.put o.dst v)
theorem o7 {n g : Nat} {L : Array Bool → Fam → Prop} {Lq : Fam → Prop} {Inv : Array Bool → Prop} (hsel : Region.noSelect ops = true) (hr : HeadRule md ops n Inv)
  (hdone : ∀ listed A, L listed A → ∀ j ∈ Region.ready md ops listed, n ≤ j)
  (hend : ∀ listed A, Region.seqB md ops g n listed = true → (∀ j, j < n → listed.getD j false = true) → Lq A → L listed A) :
  ∀ (l : List Oper) (k : Nat) (listed : Array Bool) (A : Fam), (∀ j, j < l.length → l[j]? = ops[k + j]?) → k + l.length = n → Inv listed → listed.size = ops.size → (∀ j, j < k → listed.getD j false = true) →
  Region.lexHead md ops g l.length k listed = true → wpFlowA P md ops B w0 Zs Lq l k A → o0 P md ops B w0 Zs n L l.length listed A
 | [], k, listed, A, _, hk, _, _, hls, hB, h => by
  have : k = n := by simpa using hk
  subst this
  exact hend _ _ (by simpa [Region.lexHead] using hB) hls h
 | o :: l, k, listed, A, hl, hk, inv, hsz, hls, hB, h => by
  have h0 : ops[k]? = some o := by simpa using (hl 0 (by simp)).symm
  have hin : k < ops.size := (Array.getElem?_eq_some_iff.1 h0).1
  simp only [List.length_cons, Region.lexHead, Bool.and_eq_true] at hB
  obtain ⟨⟨hrd, hf⟩, hB'⟩ := hB
  have hkn : k < n := by simp only [List.length_cons] at hk; omega
  have hr' : k ∈ Region.ready md ops listed := by simpa using hrd
  obtain ⟨v, hy, hK⟩ := h
  refine u5 h0 (Region.noSelect_spec hsel) hr hkn hdone l.length listed A inv (Region.free_spec h0 hf) hr' hy
   (o7 hsel hr hdone hend l (k + 1) _ _ (fun j hj => by have := hl (j + 1) (by simp; omega); simpa [Nat.add_assoc, Nat.add_comm 1 j] using this) (by simp only [List.length_cons] at hk; omega) (hr.step _ _ inv hr' hkn) (by simpa using hsz) (fun j hj => ?_) hB' hK)
  by_cases e : k = j
  ·subst e; simp [Array.getD, hsz, hin]
  ·rw [getD_set_ne false e]; exact hls j (by omega)
theorem wp_region_flowA_all {id : Nat} {Q : Exit → Act → World → Prop} {a : Act} {w : World} {l : List Oper} (Zs : Nat → Option Obj) (hm : P.follows .mixedOrders = true) (hB : aep l.toArray = true)
  (h : wpFlowA P .any l.toArray w.drew.heap.size w.drew Zs (fun A => ∀ γ w', Made w.drew.heap.size w.drew Zs l.length γ w' → Q .normal (A γ) w') l 0 (fun _ => a)) : (Code.region id l.toArray true).wp P Q a w := by
 simp only [aep, Bool.and_eq_true] at hB
 refine wp_region_any hm ?_
 have H := o7 (md := .any) (n := l.toArray.size) (g := 0)
  (L := fun listed a' => Region.ready .any l.toArray listed = [] ∧ (∀ j, j < l.length → listed.getD j false = true) ∧ ∀ γ w', Made w.drew.heap.size w.drew Zs l.length γ w' → Q .normal (a' γ) w') (Inv := fun _ => True) hB.1
  ⟨fun _ _ _ _ _ => trivial, fun listed i _ _ _ j hj => by obtain ⟨_, o, ho, _⟩ := mem_ready.1 hj; exact (Array.getElem?_eq_some_iff.1 ho).1⟩
  (fun listed a' hL j hj => by rw [hL.1] at hj; cases hj)
  (fun listed a' hs hls hq => ⟨by simpa [Region.seqB] using hs, fun j hj => hls j (by simpa using hj), hq⟩)
  l 0 (Array.replicate l.toArray.size false) (fun _ => a) (fun j hj => by simp) (by simp) trivial (by simp) (fun j hj => by omega) (by simpa using hB.2) h
 have := e8 (Q' := Q) (g := 0) (Nat.le_refl _) (fun listed' A' γ w' hF hL => by
  have hM : Made w.drew.heap.size w.drew Zs l.length γ w' := ⟨hF.below, fun i Z hi hz => hF.blk i Z hz (hL.2.1 i hi), fun i j Z Z' hi hj hz hz' => hF.inj i j Z Z' hz hz' (hL.2.1 i hi) (hL.2.1 j hj)⟩
  exact ⟨hL.1, hL.2.2 γ w' hM⟩) _ _ _ (fun _ => 0) _ (by simp) (fun _ _ _ => rfl)
  ⟨Below.refl _ _, fun i Z _ hl => (by rw [getD_replicate_false] at hl; cases hl), fun i j Z Z' _ _ hl => (by rw [getD_replicate_false] at hl; cases hl)⟩ H
 simpa using this
end
end Go.Proofs.YtgocbiiolmmonaaDoor.SC
namespace Go.Proofs.YtgocbiiolmmonaaDoor
open Go Go.RowKit
variable {P : Program} {ops : Array Oper} {Q : Exit → Act → World → Prop} {C : Cx} {H : List HA} {rest : List Oper} {o : Oper}
def FZ (P : Program) (ops : Array Oper) (T : World → i8 → Act → Prop) (C : Cx) (L : FSl) (H : List HA) (zl : List (Nat × Obj)) (k : Nat) (l : List Oper) : Prop :=
 ∀ (A : Fam) (w0 : World), (∀ β, Fr C (L β) (A β)) → Hp C H w0 → SC.wpFlowA P .any ops w0.heap.size w0 (n6 zl) (fun A => ∀ γ, T w0 γ (A γ)) l k A
variable {T : World → i8 → Act → Prop} {L : FSl} {zl : List (Nat × Obj)} {k : Nat}
theorem FZ.val {v : Value} {d : Nat} (hv : ∀ β, OV P C (L β) H o v) (hz : n6 zl k = none) (hw : ∀ β, j4 ops (L β) o = some true) (hd : o.dst = some d) (hn : Nat.blt d C.n = true) (h : FZ P ops T C (fun β => (d, v) :: L β) H zl (k + 1) rest) : FZ P ops T C L H zl k (o :: rest) := by
 intro A w0 hf hp
 refine ⟨fun _ => v, .inr ⟨hz, v, rfl, fun β => .inl ⟨d9 (hf β) (hw β), fun w hb _ => ?_⟩⟩, ?_⟩
 ·rw [hv β _ w (hf β) (hp.below hb)]
  exact ⟨rfl, Below.refl _ _⟩
 ·rw [hd]; exact h _ w0 (fun β => (hf β).put hn v) hp
theorem FZ.make {Z : Obj} {f : Nat → Value} {d : Nat} (hv : ∀ β, MV P C (L β) H o Z f) (hz : n6 zl k = some Z) (hw : ∀ β, j4 ops (L β) o = some true) (hd : o.dst = some d) (hn : Nat.blt d C.n = true) (h : FZ P ops T C (fun β => (d, f (β k)) :: L β) H zl (k + 1) rest) : FZ P ops T C L H zl k (o :: rest) := by
 intro A w0 hf hp
 refine ⟨fun β => f (β k), .inl ⟨Z, f, hz, rfl, fun β => ⟨d9 (hf β) (hw β), fun w hb => hv β _ w (hf β) (hp.below hb)⟩⟩, ?_⟩
 rw [hd]; exact h _ w0 (fun β => (hf β).put hn _) hp
theorem FZ.call {f : FuncId} {xs : List Operand} {ats : Array TypeId} {d : Nat} {ty : TypeId} {p : String} {e : Array Edge} {g : Option (Nat × Bool)} {vs : List Value} {R : List (Nat × Obj)} {v : Value} (he : n9 P f = true) (hx : ∀ β, evs (L β) xs = some vs)
  (hc : i7 P f vs R [] (Ret v [])) (hR : ROk C H R) (hz : n6 zl k = none) (hw : ∀ β, j4 ops (L β) ⟨some d, .call ⟨.value (.func f), xs.toArray, ats⟩, ty, p, e, g⟩ = some true) (hn : Nat.blt d C.n = true)
  (h : FZ P ops T C (fun β => (d, v) :: L β) H zl (k + 1) rest) : FZ P ops T C L H zl k (⟨some d, .call ⟨.value (.func f), xs.toArray, ats⟩, ty, p, e, g⟩ :: rest) := by
 intro A w0 hf hp
 refine ⟨fun _ => v, .inr ⟨hz, v, rfl, fun β => .inl ⟨d9 (hf β) (hw β), fun w hb _ => ?_⟩⟩, ?_⟩
 ·rw [y5 he (hf β) (hx β)]
  have hpw := hp.below hb
  refine (hc w [] rfl List.nodup_nil (fun k hk => by cases hk) (fun q hq => ?_)).mono ?_
  ·refine ⟨?_, by simp⟩
   rcases hR.all q hq with ⟨i, hi⟩ | hm
   ·exact hpw.blk hi
   ·exact hpw.old hm
  ·rintro en w' ⟨H', hS, hh⟩
   rcases hS with ⟨r, rfl, hS⟩ | ⟨c, rfl, hS⟩
   ·cases hS; exact ⟨rfl, hh.toBelow⟩
   ·cases hS
 ·exact h _ w0 (fun β => (hf β).put hn v) hp
theorem FZ.weak {l : List Oper} {L' : FSl} (hs : ∀ β, Sub (L β) (L' β)) (h : FZ P ops T C L' H zl k l) : FZ P ops T C L H zl k l := fun A w0 hf hp => h A w0 (fun β => (hf β).sub (hs β)) hp
theorem FZ.nil (h : ∀ (A : Fam) (w0 : World), (∀ β, Fr C (L β) (A β)) → Hp C H w0 → ∀ γ, T w0 γ (A γ)) : FZ P ops T C L H zl k [] := fun A w0 hf hp => h A w0 hf hp
end Go.Proofs.YtgocbiiolmmonaaDoor
namespace Go.Proofs.YtgocbiiolmmonaaDoor
open Go Go.RowKit
variable {P : Program} {ops : Array Oper} {Q : Exit → Act → World → Prop} {C : Cx} {L : Sl} {H : List HA} {rest : List Oper} {o : Oper}
def aco (P : Program) (f : FuncId) (args : List Value) (u u' : FrameMode) (R : List (Nat × Obj)) (A : List HA) (S : Out → Prop) : Prop :=
 ∀ w M, Own w A M → M.Nodup → (∀ k ∈ M, k < w.heap.size) → (∀ p ∈ R, w.heap[p.1]? = some p.2 ∧ p.1 ∉ M) → CallsD P f args.toArray u w (fun e u'' w' => u'' = u' ∧ ∃ H', acq S e H' ∧ Hp ⟨0, [], w, M, R⟩ H' w')
def aju (u : FrameMode) (v : Value) (u' : FrameMode) : Prop :=
 (u = .returning ∧ v = .nilIface ∧ u' = .returning) ∨ (∃ x, u = .panicking [{ v := x, recovered := false }] ∧ v = x ∧ u' = .panicking [{ v := x, recovered := true }])
theorem afi {f : FuncId} {fn : Func} {y : Code} {args : List Value} {R : List (Nat × Obj)} {A : List HA} {S : Out → Prop} {L0 : Sl} {n id d d2 : Nat} {ats : Array TypeId} {t1 t2 : TypeId} {p1 p2 : String} {e1 e2 : Array Edge} {u u' : FrameMode} {v : Value}
  (hf : P.funcs[f]? = some fn) (hb : fn.body = some (.seq (.region id [⟨some d, .call ⟨.builtin .recover, #[], ats⟩, t1, p1, e1, none⟩, ⟨some d2, .assign (.tmp d), t2, p2, e2, none⟩].toArray false) y)) (hnt : fn.ntmps = n) (hl : Nat.ble args.length n = true)
  (hL : (List.range args.length).zip args = L0) (hd : Nat.blt d n = true) (hd2 : Nat.blt d2 n = true) (hu : aju u v u')
  (h : ∀ w0 M Q, Ends P fn ⟨n, [], w0, M, R⟩ S Q → WC P y Q ⟨n, [], w0, M, R⟩ ((d2, v) :: (d, v) :: L0) A) : aco P f args u u' R A S := by
 intro w M hO hn hlt hR
 subst hnt
 have hle : args.length ≤ fn.ntmps := Nat.le_of_ble_eq_true hl
 refine callsD_of_wpS hf hb fun c₀ cs hc => ?_
 refine wpS_seq (wpS_region ?_)
 have hd' : d < fn.ntmps := Nat.blt_eq ▸ hd
 have hfr : Fr ⟨fn.ntmps, [], w, M, R⟩ L0 ⟨args.toArray ++ Array.replicate (fn.ntmps - args.toArray.size) undef, []⟩ := by
  refine ⟨rfl, by simp; omega, ?_⟩
  intro i x hg
  subst hL
  have hm := Sl.get_mem hg
  obtain ⟨j, hj⟩ := List.mem_iff_getElem?.1 hm
  rw [List.getElem?_zip_eq_some] at hj
  obtain ⟨h1, h2⟩ := hj
  have hij : j = i := by
   have h3 := (List.getElem?_eq_some_iff.1 h1)
   obtain ⟨h4, h5⟩ := h3
   simp at h5; exact h5
  subst hij
  have hjl : j < args.length := (List.getElem?_eq_some_iff.1 h2).1
  simp only [List.size_toArray]
  rw [Array.getElem?_append_left (by simpa using hjl)]
  simpa using h2
 generalize (⟨args.toArray ++ Array.replicate (fn.ntmps - args.toArray.size) undef, []⟩ : Act) = a0 at hfr ⊢
 have hfr2 := (hfr.put hd v).put hd2 v
 have hp := Hp.start fn.ntmps [] w hO hn hlt hR
 have hrun : (execOp a0.eval ⟨some d, .call ⟨.builtin .recover, #[], ats⟩, t1, p1, e1, none⟩).run P w = .ok .recover w := by
  simp [execOp, resolve, invoke, builtin]
 have hev : (a0.put (some d) v).eval (.tmp d) = v := (hfr.put hd v).ev (x := .tmp d) (by simp [ev, Sl.get])
 have hrun2 : (execOp (a0.put (some d) v).eval ⟨some d2, .assign (.tmp d), t2, p2, e2, none⟩).run P w = .ok (.value v) w := by
  simp only [execOp, hev, Sem.run_pure]
 have key : ∀ cs', (match recoverD (c₀ :: cs) with | some (x, c') => x = v ∧ c' = cs' | none => .nilIface = v ∧ (c₀ :: cs) = cs') → cs' = { c₀ with mode := u' } :: cs →
   wpOpsS P [⟨some d, .call ⟨.builtin .recover, #[], ats⟩, t1, p1, e1, none⟩, ⟨some d2, .assign (.tmp d), t2, p2, e2, none⟩].toArray (Exit.thenS (y.wpS P (bodyPostS P fn c₀ cs fun e u'' w' => u'' = u' ∧ ∃ H', acq S e H' ∧ Hp ⟨0, [], w, M, R⟩ H' w')) (bodyPostS P fn c₀ cs fun e u'' w' => u'' = u' ∧ ∃ H', acq S e H' ∧ Hp ⟨0, [], w, M, R⟩ H' w')) [0, 1] a0 (c₀ :: cs) w := by
  intro cs' hrec hcs'
  have hy : y.wpS P (bodyPostS P fn c₀ cs fun e u'' w' => u'' = u' ∧ ∃ H', acq S e H' ∧ Hp ⟨0, [], w, M, R⟩ H' w') ((a0.put (some d) v).put (some d2) v) cs' w := by
   subst hcs'
   refine wpS_of_wp ?_
   refine h w M _ ?_ _ _ hfr2 hp
   refine ⟨fun idx hi he hS hr a w' hfr hp => ?_, fun idx hi he hS hr a w' hfr hp => ?_, fun idx hi he hS a w' hfr hp => ?_⟩
   ·exact ⟨hfr.defers, u', rfl, _, hr a w' hfr hp, rfl, _, .inl ⟨_, rfl, hS⟩, he ▸ (hp.pick idx hi).ctx⟩
   ·exact ⟨hfr.defers, u', rfl, _, hr a w' hfr hp, rfl, _, .inl ⟨_, rfl, hS⟩, he ▸ (hp.pick idx hi).ctx⟩
   ·exact ⟨hfr.defers, u', rfl, rfl, _, .inr ⟨_, rfl, hS⟩, he ▸ (hp.pick idx hi).ctx⟩
  have hy2 : wpOpsS P [⟨some d, .call ⟨.builtin .recover, #[], ats⟩, t1, p1, e1, none⟩, ⟨some d2, .assign (.tmp d), t2, p2, e2, none⟩].toArray (Exit.thenS (y.wpS P (bodyPostS P fn c₀ cs fun e u'' w' => u'' = u' ∧ ∃ H', acq S e H' ∧ Hp ⟨0, [], w, M, R⟩ H' w')) (bodyPostS P fn c₀ cs fun e u'' w' => u'' = u' ∧ ∃ H', acq S e H' ∧ Hp ⟨0, [], w, M, R⟩ H' w')) [1] (a0.put (some d) v) cs' w := by
   simp only [wpOpsS, List.getElem?_toArray, List.getElem?_cons_succ, List.getElem?_cons_zero, Region.wanted, if_true, hrun2, Oper.upon]
   exact hy
  unfold wpOpsS
  simp only [List.getElem?_toArray, List.getElem?_cons_zero, Region.wanted, if_true, hrun]
  cases hr : recoverD (c₀ :: cs) with
  | none => rw [hr] at hrec; obtain ⟨rfl, rfl⟩ := hrec; exact hy2
  | some q => rw [hr] at hrec; obtain ⟨x, c'⟩ := q; obtain ⟨rfl, rfl⟩ := hrec; exact hy2
 have hrange : List.range ([⟨some d, .call ⟨.builtin .recover, #[], ats⟩, t1, p1, e1, none⟩, ⟨some d2, .assign (.tmp d), t2, p2, e2, none⟩] : List Oper).toArray.size = [0, 1] := rfl
 rw [hrange]
 rcases hu with ⟨rfl, rfl, rfl⟩ | ⟨x, rfl, rfl, rfl⟩
 ·refine key _ ?_ rfl
  have : recoverD (c₀ :: cs) = none := by simp [recoverD, hc]
  rw [this]
  exact ⟨rfl, by cases c₀; simp_all⟩
 ·refine key _ ?_ rfl
  have : recoverD (c₀ :: cs) = some (v, { c₀ with mode := .panicking [{ v, recovered := true }] } :: cs) := by simp [recoverD, hc]
  rw [this]
  exact ⟨rfl, rfl⟩
theorem al9 {x y : Code} (h : ∀ K : Act → World → Prop, (∀ C L H, WC P y Q C L H → KX K C L H) → WC P x (Exit.then K Q) C L H) : WC P (.seq x y) Q C L H :=
 fun a w hf hp => wp_seq (h _ (fun _ _ _ hy => hy) a w hf hp)
theorem OV.makeFunc {f : FuncId} {xs : List Operand} {vs : List Value} {ty : TypeId} {d : Option Tmp} {p : String} {e : Array Edge} {g : Option (Nat × Bool)} (hx : evs L xs = some vs) : OV P C L H ⟨d, .makeFunc (.func f) #[] xs.toArray, ty, p, e, g⟩ (.func (.func f) #[] vs.toArray) := fun a w hf _ => by
 simp [execOp, Instr.makeFunc, abg hf hx]
theorem WL.defer {x : Operand} {ats : Array TypeId} {ty : TypeId} {p : String} {e : Array Edge} {d : Option Tmp} {f : FuncId} {vs : List Value} (hx : ev L x = some (.func (.func f) #[] vs.toArray)) (hd : d = none)
  (h : WL P ops Q { C with D := ⟨.fn (.func f) vs.toArray, #[]⟩ :: C.D } L H rest) : WL P ops Q C L H (⟨d, .defer ⟨.value x, #[], ats⟩, ty, p, e, none⟩ :: rest) := by
 intro a w hf hp
 subst hd
 refine j7 (by simp [Region.wanted]) ?_
 unfold Oper.wp
 have : (execOp a.eval ⟨none, .defer ⟨.value x, #[], ats⟩, ty, p, e, none⟩).run P w = .ok (.defer ⟨.fn (.func f) vs.toArray, #[]⟩) w := by
  simp [execOp, resolve, hf.ev hx, Deferred.ofValue]
 rw [this]
 simp only [Oper.upon, Act.put]
 exact h _ _ ⟨by simp [hf.defers], hf.size, hf.get⟩ hp.ctx
structure EndsD (P : Program) (fn : Func) (n : Nat) (w0 : World) (M : List Nat) (R : List (Nat × Obj)) (S : Out → Prop) (Q : Exit → Act → World → Prop) : Prop where
 ret : ∀ {D : List Deferred} {L : Sl} {H : List HA}, (∀ a w, Fr ⟨n, D, w0, M, R⟩ L a → Hp ⟨n, D, w0, M, R⟩ H w → Leaves P fn a.tmps (fun e w' => ∃ H', acq S e H' ∧ Hp ⟨0, [], w0, M, R⟩ H' w') D .returning w) → QX Q .ret ⟨n, D, w0, M, R⟩ L H
 norm : ∀ {D : List Deferred} {L : Sl} {H : List HA}, (∀ a w, Fr ⟨n, D, w0, M, R⟩ L a → Hp ⟨n, D, w0, M, R⟩ H w → Leaves P fn a.tmps (fun e w' => ∃ H', acq S e H' ∧ Hp ⟨0, [], w0, M, R⟩ H' w') D .returning w) → QX Q .normal ⟨n, D, w0, M, R⟩ L H
 pan : ∀ {D : List Deferred} {L : Sl} {H : List HA} {c : List PanicEntry}, (∀ a w, Fr ⟨n, D, w0, M, R⟩ L a → Hp ⟨n, D, w0, M, R⟩ H w → Leaves P fn a.tmps (fun e w' => ∃ H', acq S e H' ∧ Hp ⟨0, [], w0, M, R⟩ H' w') D (.panicking c) w) → QX Q (.panic c) ⟨n, D, w0, M, R⟩ L H
theorem ag2 {f : FuncId} {fn : Func} {c : Code} {args : List Value} {R : List (Nat × Obj)} {A : List HA} {S : Out → Prop} {L0 : Sl} {n : Nat} (hf : P.funcs[f]? = some fn) (hb : fn.body = some c) (hnt : fn.ntmps = n) (hl : Nat.ble args.length n = true)
  (hL : (List.range args.length).zip args = L0)
  (h : ∀ w0 M Q, EndsD P fn n w0 M R S Q → WC P c Q ⟨n, [], w0, M, R⟩ L0 A) : i7 P f args R A S := by
 intro w M hO hn hlt hR
 subst hnt
 have hle : args.length ≤ fn.ntmps := Nat.le_of_ble_eq_true hl
 refine calls_of_wp_defers hf hb ?_
 refine h w M _ ?_ _ _ ⟨rfl, ?_, ?_⟩ (Hp.start _ _ w hO hn hlt hR)
 ·refine ⟨fun hh a w' hfr hp => ?_, fun hh a w' hfr hp => ?_, fun hh a w' hfr hp => ?_⟩
  all_goals
   have := hh a w' hfr hp
   have hd := hfr.defers
   simp only at hd
   rw [← hd] at this
   exact this
 ·simp; omega
 ·intro i v hg
  subst hL
  have hm := Sl.get_mem hg
  obtain ⟨j, hj⟩ := List.mem_iff_getElem?.1 hm
  rw [List.getElem?_zip_eq_some] at hj
  obtain ⟨h1, h2⟩ := hj
  have hij : j = i := by
   have h3 := (List.getElem?_eq_some_iff.1 h1)
   obtain ⟨h4, h5⟩ := h3
   simp at h5; exact h5
  subst hij
  have hjl : j < args.length := (List.getElem?_eq_some_iff.1 h2).1
  simp only [List.size_toArray]
  rw [Array.getElem?_append_left (by simpa using hjl)]
  simpa using h2
theorem aiv {fn : Func} {n : Nat} {w0 : World} {M : List Nat} {R R' : List (Nat × Obj)} {S : Out → Prop} {H' A A' Rest : List HA} {v vc : Value} {f : FuncId} {vs : List Value} {u u' : FrameMode} {H : List HA} (idx0 : List Nat) (hi0 : n3 idx0 = true) (hH : sel H idx0 = A ++ Rest)
  (hent : n9 P f = true) (hc : aco P f vs u u' R' A (Ret vc A')) (hrun : u ≠ .run) (hset : settle u' = .returning) (hR : ROk ⟨n, [⟨.fn (.func f) vs.toArray, #[]⟩], w0, M, R⟩ Rest R')
  (idx : List Nat) (hi : n3 idx = true) (he : sel (A' ++ Rest) idx = H') (hS : S (.ret v H')) (hr : j6 P fn ⟨n, [⟨.fn (.func f) vs.toArray, #[]⟩], w0, M, R⟩ L (A' ++ Rest) v) :
  ∀ a w, Fr ⟨n, [⟨.fn (.func f) vs.toArray, #[]⟩], w0, M, R⟩ L a → Hp ⟨n, [⟨.fn (.func f) vs.toArray, #[]⟩], w0, M, R⟩ H w → Leaves P fn a.tmps (fun e w' => ∃ H', acq S e H' ∧ Hp ⟨0, [], w0, M, R⟩ H' w') [⟨.fn (.func f) vs.toArray, #[]⟩] u w := by
 intro a w hf hp
 have hp := hH ▸ hp.pick idx0 hi0
 refine ⟨hrun, .func f, vs.toArray, f, vs.toArray, rfl, by simp [invoke, abk hent], ?_⟩
 obtain ⟨F, h1, h2, h3⟩ := hp.own
 obtain ⟨F1, F2, rfl, hA, hB⟩ := h1.split
 have hnd := List.nodup_append.1 h2
 refine (hc w F1 hA hnd.1 (fun k hk => (h3 k (List.mem_append.2 (.inl hk))).1) ?_).mono ?_
 ·intro q hq
  rcases hR.all q hq with ⟨i, hi⟩ | hm
  ·refine ⟨hp.blk (i := A.length + i) (by rw [List.getElem?_append_right (by omega)]; simpa using hi), fun hm => ?_⟩
   exact hnd.2.2 q.1 hm q.1 (hB.mem_blk hi) rfl
  ·refine ⟨hp.old hm, fun hk => ?_⟩
   have hro := hp.ro q hm
   have hlt := n8 hro.1
   rcases (h3 q.1 (List.mem_append.2 (.inl hk))).2 with h4 | h4
   ·omega
   ·exact hro.2 h4
 ·rintro en u'' w' ⟨rfl, H'', hS', hh⟩
  rcases hS' with ⟨r, rfl, hS'⟩ | ⟨c, rfl, hS'⟩
  ·cases hS'
   have hp' := hp.call hB h2 h3 hh
   show Leaves P fn a.tmps _ [] (settle u'') w'
   rw [hset]
   exact ⟨v, hr a w' hf hp', _, .inl ⟨_, rfl, hS⟩, he ▸ (hp'.pick idx hi).ctx⟩
  ·cases hS'
theorem OV.assertIs {x : Operand} {t t' ty : TypeId} {d : Option Tmp} {p : String} {e : Array Edge} {g : Option (Nat × Bool)} {v : Value} {dd : TypeDesc} (hx : ev L x = some (.iface t' v)) (hu : P.underlying t' = some dd) (hn : (match dd with | .interface _ => false | _ => true) = true) : OV P C L H ⟨d, .typeAssert x t t' false, ty, p, e, g⟩ v := fun a w hf _ => by
 have : (Instr.typeAssert (.iface t' v) t t' false).run P w = .ok v w := by
  unfold Instr.typeAssert
  rw [Sem.run_bind, n5 hu]
  cases dd <;> simp_all
 simp [execOp, hf.ev hx, this]
theorem OV.neqNil {x y : Operand} {t t' ty tv : TypeId} {d : Option Tmp} {p : String} {e : Array Edge} {g : Option (Nat × Bool)} {v : Value} {ms : Array (String × TypeId)} (hx : ev L x = some (.iface tv v)) (hy : ev L y = some .nilIface) (hu : P.underlying t = some (.interface ms)) : OV P C L H ⟨d, .binOp .neq t x y t', ty, p, e, g⟩ (.bool true) := fun a w hf _ => by
 have h : binOp .neq t (.iface tv v) .nilIface = (do pure (.bool (!(← Op.equal t (.iface tv v) .nilIface)))) := rfl
 have h2 : (Op.equal t (.iface tv v) .nilIface).run P w = .ok false w := by
  unfold Op.equal Op.maxDepth Op.equalIn
  rw [Sem.run_bind, n5 hu]; rfl
 simp only [execOp, hf.ev hx, hf.ev hy, eqGuard_at_iface, h, Sem.run_bind, Sem.run_pure, Result.andThen_ok, h2]
 rfl
theorem OV.neqNil0 {x : Operand} {t t' ty : TypeId} {d : Option Tmp} {p : String} {e : Array Edge} {g : Option (Nat × Bool)} {ms : Array (String × TypeId)} (hx : ev L x = some .nilIface) (hu : P.underlying t = some (.interface ms)) : OV P C L H ⟨d, .binOp .neq t x (.const .nilIface) t', ty, p, e, g⟩ (.bool false) := fun a w hf _ => by
 have h : binOp .neq t .nilIface .nilIface = (do pure (.bool (!(← Op.equal t .nilIface .nilIface)))) := rfl
 have h2 : (Op.equal t .nilIface .nilIface).run P w = .ok true w := by
  unfold Op.equal Op.maxDepth Op.equalIn
  rw [Sem.run_bind, n5 hu]; rfl
 have hc : a.eval (.const .nilIface) = .nilIface := rfl
 simp only [execOp, hf.ev hx, hc, eqGuard_nil_constR, h, Sem.run_bind, Sem.run_pure, Result.andThen_ok, h2]
 rfl
theorem aco.weak {f : FuncId} {args : List Value} {u u' : FrameMode} {R : List (Nat × Obj)} {A : List HA} {S S' : Out → Prop} (h : aco P f args u u' R A S) (hs : ∀ o, S o → S' o) : aco P f args u u' R A S' := fun w M hO hn hl hr => (h w M hO hn hl hr).mono fun en u'' w' ⟨hu, H', hS, hh⟩ => ⟨hu, H', by
  rcases hS with ⟨r, e1, hS⟩ | ⟨c, e1, hS⟩
  ·exact .inl ⟨r, e1, hs _ hS⟩
  ·exact .inr ⟨c, e1, hs _ hS⟩, hh⟩
end Go.Proofs.YtgocbiiolmmonaaDoor
namespace Go.Proofs
open Go.Shelf
def Tryd.lays137_ren : Go.Shelf.Ren := ⟨fun | 137 => 25 | 217 => 30 | 266 => 40 | n => n, fun | 9 => 9 | 5 => 5 | 3 => 3 | n => n, fun | n => n⟩
theorem Tryd.lays137 : Go.Proofs.Lays.n137 Tryd.prog Tryd.lays137_ren := {
 mixed := by kernel_rfl
 f137 := Tryd.func25.trans (congrArg some (by kernel_rfl))
 f217 := Tryd.func30.trans (congrArg some (by kernel_rfl))
 f266 := Tryd.func40.trans (congrArg some (by kernel_rfl))
 t3 := Tryd.underlying3
 a3 := Tryd.isAgg3
 z3 := Tryd.sizeOf3
 v3 := Tryd.zeroValue3
 t5 := Tryd.underlying5
 a5 := Tryd.isAgg5
 z5 := Tryd.sizeOf5
 v5 := Tryd.zeroValue5
 t9 := Tryd.underlying9
 a9 := Tryd.isAgg9
 z9 := Tryd.sizeOf9
 v9 := Tryd.zeroValue9 }
open Go.RowKit in
theorem Tryd.strings_IndexByte (s : ByteArray) (c : Int) (w : World) :
  Calls Tryd.prog 25 #[.string s, .int .u8 c] w fun e w' => e = .returned (.int .i64 (Lib.indexByte s.data.toList c.toNat.toUInt8)) ∧ w' = w := Any.strings_IndexByte Tryd.lays137 s c w
def Tryd.lays172_ren : Go.Shelf.Ren := ⟨fun | 172 => 32 | 244 => 48 | 245 => 49 | 247 => 60 | 279 => 61 | 280 => 62 | 281 => 63 | 282 => 64 | 287 => 70 | 316 => 71 | 171 => 12 | 205 => 72 | 321 => 74 | 322 => 75 | 243 => 21 | 246 => 28 | 283 => 33 | 284 => 34 | 285 => 35 | 286 => 36 | 129 => 51 | 317 => 50 | 318 => 52 | 319 => 53 | 320 => 54 | 337 => 65 | 338 => 66 | n => n, fun | 9 => 9 | 3 => 3 | 75 => 40 | 76 => 84 | 4 => 4 | 5 => 5 | 167 => 115 | 37 => 90 | 0 => 0 | 85 => 116 | 2 => 2 | 168 => 118 | 53 => 87 | 175 => 123 | 46 => 94 | 210 => 127 | 127 => 137 | 145 => 140 | 143 => 138 | 21 => 21 | 171 => 86 | 173 => 91 | 212 => 104 | 51 => 105 | 20 => 20 | 213 => 106 | 232 => 129 | 233 => 130 | 80 => 141 | n => n, fun | 15 => 7 | 16 => 8 | 17 => 6 | 18 => 9 | 19 => 10 | n => n⟩
theorem Tryd.lays172 : Go.Proofs.Lays.n172 Tryd.prog Tryd.lays172_ren := {
 mixed := by kernel_rfl
 f129 := Tryd.func51.trans (congrArg some (by kernel_rfl))
 f171 := Tryd.func12.trans (congrArg some (by kernel_rfl))
 f172 := Tryd.func32.trans (congrArg some (by kernel_rfl))
 f205 := Tryd.func72.trans (congrArg some (by kernel_rfl))
 f243 := Tryd.func21.trans (congrArg some (by kernel_rfl))
 f244 := Tryd.func48.trans (congrArg some (by kernel_rfl))
 f245 := Tryd.func49.trans (congrArg some (by kernel_rfl))
 f246 := Tryd.func28.trans (congrArg some (by kernel_rfl))
 f247 := Tryd.func60.trans (congrArg some (by kernel_rfl))
 f279 := Tryd.func61.trans (congrArg some (by kernel_rfl))
 f280 := Tryd.func62.trans (congrArg some (by kernel_rfl))
 f281 := Tryd.func63.trans (congrArg some (by kernel_rfl))
 f282 := Tryd.func64.trans (congrArg some (by kernel_rfl))
 f283 := Tryd.func33.trans (congrArg some (by kernel_rfl))
 f284 := Tryd.func34.trans (congrArg some (by kernel_rfl))
 f285 := Tryd.func35.trans (congrArg some (by kernel_rfl))
 f286 := Tryd.func36.trans (congrArg some (by kernel_rfl))
 f287 := Tryd.func70.trans (congrArg some (by kernel_rfl))
 f316 := Tryd.func71.trans (congrArg some (by kernel_rfl))
 f317 := Tryd.func50.trans (congrArg some (by kernel_rfl))
 f318 := Tryd.func52.trans (congrArg some (by kernel_rfl))
 f319 := Tryd.func53.trans (congrArg some (by kernel_rfl))
 f320 := Tryd.func54.trans (congrArg some (by kernel_rfl))
 f321 := Tryd.func74.trans (congrArg some (by kernel_rfl))
 f322 := Tryd.func75.trans (congrArg some (by kernel_rfl))
 f337 := Tryd.func65.trans (congrArg some (by kernel_rfl))
 f338 := Tryd.func66.trans (congrArg some (by kernel_rfl))
 t0 := Tryd.underlying0
 a0 := Tryd.isAgg0
 z0 := Tryd.sizeOf0
 v0 := Tryd.zeroValue0
 t2 := Tryd.underlying2
 a2 := Tryd.isAgg2
 z2 := Tryd.sizeOf2
 v2 := Tryd.zeroValue2
 t3 := Tryd.underlying3
 a3 := Tryd.isAgg3
 z3 := Tryd.sizeOf3
 v3 := Tryd.zeroValue3
 t4 := Tryd.underlying4
 a4 := Tryd.isAgg4
 z4 := Tryd.sizeOf4
 v4 := Tryd.zeroValue4
 t5 := Tryd.underlying5
 a5 := Tryd.isAgg5
 z5 := Tryd.sizeOf5
 v5 := Tryd.zeroValue5
 t9 := Tryd.underlying9
 a9 := Tryd.isAgg9
 z9 := Tryd.sizeOf9
 v9 := Tryd.zeroValue9
 t20 := Tryd.underlying20
 a20 := Tryd.isAgg20
 z20 := Tryd.sizeOf20
 v20 := Tryd.zeroValue20
 t21 := Tryd.underlying21
 a21 := Tryd.isAgg21
 z21 := Tryd.sizeOf21
 v21 := Tryd.zeroValue21
 t37 := Tryd.underlying90
 a37 := Tryd.isAgg90
 z37 := Tryd.sizeOf90
 v37 := Tryd.zeroValue90
 t46 := Tryd.underlying94
 a46 := Tryd.isAgg94
 z46 := Tryd.sizeOf94
 v46 := Tryd.zeroValue94
 t51 := Tryd.underlying105
 a51 := Tryd.isAgg105
 z51 := Tryd.sizeOf105
 v51 := Tryd.zeroValue105
 t53 := Tryd.underlying87
 a53 := Tryd.isAgg87
 z53 := Tryd.sizeOf87
 v53 := Tryd.zeroValue87
 t75 := Tryd.underlying40
 a75 := Tryd.isAgg40
 z75 := Tryd.sizeOf40
 v75 := Tryd.zeroValue40
 t76 := Tryd.underlying84
 a76 := Tryd.isAgg84
 z76 := Tryd.sizeOf84
 v76 := Tryd.zeroValue84
 t85 := Tryd.underlying116
 a85 := Tryd.isAgg116
 z85 := Tryd.sizeOf116
 v85 := Tryd.zeroValue116
 t127 := Tryd.underlying137
 a127 := Tryd.isAgg137
 z127 := Tryd.sizeOf137
 v127 := Tryd.zeroValue137
 t143 := Tryd.underlying138
 a143 := Tryd.isAgg138
 z143 := Tryd.sizeOf138
 v143 := Tryd.zeroValue138
 t145 := Tryd.underlying140
 a145 := Tryd.isAgg140
 z145 := Tryd.sizeOf140
 v145 := Tryd.zeroValue140
 t167 := Tryd.underlying115
 a167 := Tryd.isAgg115
 z167 := Tryd.sizeOf115
 v167 := Tryd.zeroValue115
 t168 := Tryd.underlying118
 a168 := Tryd.isAgg118
 z168 := Tryd.sizeOf118
 v168 := Tryd.zeroValue118
 t171 := Tryd.underlying86
 a171 := Tryd.isAgg86
 z171 := Tryd.sizeOf86
 v171 := Tryd.zeroValue86
 t173 := Tryd.underlying91
 a173 := Tryd.isAgg91
 z173 := Tryd.sizeOf91
 v173 := Tryd.zeroValue91
 t175 := Tryd.underlying123
 a175 := Tryd.isAgg123
 z175 := Tryd.sizeOf123
 v175 := Tryd.zeroValue123
 t210 := Tryd.underlying127
 a210 := Tryd.isAgg127
 z210 := Tryd.sizeOf127
 v210 := Tryd.zeroValue127
 t212 := Tryd.underlying104
 a212 := Tryd.isAgg104
 z212 := Tryd.sizeOf104
 v212 := Tryd.zeroValue104
 t213 := Tryd.underlying106
 a213 := Tryd.isAgg106
 z213 := Tryd.sizeOf106
 t232 := Tryd.underlying129
 a232 := Tryd.isAgg129
 z232 := Tryd.sizeOf129
 v232 := Tryd.zeroValue129
 t233 := Tryd.underlying130
 a233 := Tryd.isAgg130
 z233 := Tryd.sizeOf130
 v233 := Tryd.zeroValue130
 g15 := by kernel_rfl
 g16 := by kernel_rfl
 g17 := by kernel_rfl
 g18 := by kernel_rfl
 g19 := by kernel_rfl }
open Go.RowKit in
theorem Tryd.strconv_Atoi (s : ByteArray) (n : Int) (hl : s.size ≤ 18) (h : Lib.atoi s.data.toList = some n) (w : World) :
  Calls Tryd.prog 32 #[.string s] w fun e w' => e = .returned (.tuple #[.int .i64 n, .nilIface]) ∧ ∃ t, w' = Lib.bytesWorld w 5 t := Any.strconv_Atoi Tryd.lays172 s n hl h w
def Tryd.laysM171_ren : Go.Shelf.Ren := ⟨fun | 171 => 12 | 243 => 21 | 246 => 28 | 283 => 33 | 284 => 34 | 285 => 35 | 286 => 36 | 129 => 51 | 317 => 50 | 318 => 52 | 319 => 53 | 320 => 54 | 337 => 65 | 338 => 66 | n => n, fun | 3 => 3 | 9 => 9 | 2 => 2 | 4 => 4 | 171 => 86 | 0 => 0 | 53 => 87 | 37 => 90 | 5 => 5 | 173 => 91 | 212 => 104 | 51 => 105 | 20 => 20 | 213 => 106 | 46 => 94 | 232 => 129 | 233 => 130 | n => n, fun | 17 => 6 | 18 => 9 | 19 => 10 | n => n⟩
theorem Tryd.laysM171 : Go.Proofs.LaysM.n171 Tryd.prog Tryd.laysM171_ren := {
 mixed := by kernel_rfl
 f129 := Tryd.func51.trans (congrArg some (by kernel_rfl))
 f171 := Tryd.func12.trans (congrArg some (by kernel_rfl))
 f243 := Tryd.func21.trans (congrArg some (by kernel_rfl))
 f246 := Tryd.func28.trans (congrArg some (by kernel_rfl))
 f283 := Tryd.func33.trans (congrArg some (by kernel_rfl))
 f284 := Tryd.func34.trans (congrArg some (by kernel_rfl))
 f285 := Tryd.func35.trans (congrArg some (by kernel_rfl))
 f286 := Tryd.func36.trans (congrArg some (by kernel_rfl))
 f317 := Tryd.func50.trans (congrArg some (by kernel_rfl))
 f318 := Tryd.func52.trans (congrArg some (by kernel_rfl))
 f319 := Tryd.func53.trans (congrArg some (by kernel_rfl))
 f320 := Tryd.func54.trans (congrArg some (by kernel_rfl))
 f337 := Tryd.func65.trans (congrArg some (by kernel_rfl))
 f338 := Tryd.func66.trans (congrArg some (by kernel_rfl))
 t0 := Tryd.underlying0
 a0 := Tryd.isAgg0
 z0 := Tryd.sizeOf0
 v0 := Tryd.zeroValue0
 t2 := Tryd.underlying2
 a2 := Tryd.isAgg2
 z2 := Tryd.sizeOf2
 v2 := Tryd.zeroValue2
 t3 := Tryd.underlying3
 a3 := Tryd.isAgg3
 z3 := Tryd.sizeOf3
 v3 := Tryd.zeroValue3
 t4 := Tryd.underlying4
 a4 := Tryd.isAgg4
 z4 := Tryd.sizeOf4
 v4 := Tryd.zeroValue4
 t5 := Tryd.underlying5
 a5 := Tryd.isAgg5
 z5 := Tryd.sizeOf5
 v5 := Tryd.zeroValue5
 t9 := Tryd.underlying9
 a9 := Tryd.isAgg9
 z9 := Tryd.sizeOf9
 v9 := Tryd.zeroValue9
 t20 := Tryd.underlying20
 a20 := Tryd.isAgg20
 z20 := Tryd.sizeOf20
 v20 := Tryd.zeroValue20
 t37 := Tryd.underlying90
 a37 := Tryd.isAgg90
 z37 := Tryd.sizeOf90
 v37 := Tryd.zeroValue90
 t46 := Tryd.underlying94
 a46 := Tryd.isAgg94
 z46 := Tryd.sizeOf94
 v46 := Tryd.zeroValue94
 t51 := Tryd.underlying105
 a51 := Tryd.isAgg105
 z51 := Tryd.sizeOf105
 v51 := Tryd.zeroValue105
 t53 := Tryd.underlying87
 a53 := Tryd.isAgg87
 z53 := Tryd.sizeOf87
 v53 := Tryd.zeroValue87
 t171 := Tryd.underlying86
 a171 := Tryd.isAgg86
 z171 := Tryd.sizeOf86
 v171 := Tryd.zeroValue86
 t173 := Tryd.underlying91
 a173 := Tryd.isAgg91
 z173 := Tryd.sizeOf91
 v173 := Tryd.zeroValue91
 t212 := Tryd.underlying104
 a212 := Tryd.isAgg104
 z212 := Tryd.sizeOf104
 v212 := Tryd.zeroValue104
 t213 := Tryd.underlying106
 a213 := Tryd.isAgg106
 z213 := Tryd.sizeOf106
 t232 := Tryd.underlying129
 a232 := Tryd.isAgg129
 z232 := Tryd.sizeOf129
 v232 := Tryd.zeroValue129
 t233 := Tryd.underlying130
 a233 := Tryd.isAgg130
 z233 := Tryd.sizeOf130
 v233 := Tryd.zeroValue130
 g17 := by kernel_rfl
 g18 := by kernel_rfl
 g19 := by kernel_rfl
 i0 := by kernel_rfl
 i2 := by kernel_rfl
 i3 := by kernel_rfl
 i4 := by kernel_rfl
 i5 := by kernel_rfl
 i9 := by kernel_rfl
 i20 := by kernel_rfl
 i37 := by kernel_rfl
 i46 := by kernel_rfl
 i51 := by kernel_rfl
 i53 := by kernel_rfl
 i171 := by kernel_rfl
 i173 := by kernel_rfl
 i212 := by kernel_rfl
 i232 := by kernel_rfl
 i233 := by kernel_rfl
 m17 := by kernel_rfl
 m18 := by kernel_rfl
 m19 := by kernel_rfl }
open Go.RowKit Go.Sort Go.Lib in
theorem Tryd.strconv_Itoa (n : Int) (h0 : -9223372036854775808 ≤ n) (h1 : n ≤ 9223372036854775807) (w : World) (htab : Lib.TabIs Tryd.prog w "internal/strconv.uint64pow10" .u64 Lib.pow10Tab) :
  Calls Tryd.prog 12 #[.int .i64 n] w fun e w' => e = .returned (.string ⟨(Lib.itoa n).toArray⟩) ∧ ∃ k os, w' = grow (w.drewN k) os := Any.strconv_Itoa Tryd.laysM171 n h0 h1 w htab
def Tryd.lays144_ren : Go.Shelf.Ren := ⟨fun | 144 => 14 | 143 => 24 | 219 => 29 | 217 => 30 | 225 => 37 | 224 => 38 | 267 => 39 | 266 => 40 | 314 => 55 | n => n, fun | 9 => 9 | 4 => 4 | 3 => 3 | 5 => 5 | 46 => 94 | 146 => 109 | 51 => 105 | n => n, fun | 1 => 5 | n => n⟩
theorem Tryd.lays144 : Go.Proofs.Lays.n144 Tryd.prog Tryd.lays144_ren := {
 mixed := by kernel_rfl
 f143 := Tryd.func24.trans (congrArg some (by kernel_rfl))
 f144 := Tryd.func14.trans (congrArg some (by kernel_rfl))
 f217 := Tryd.func30.trans (congrArg some (by kernel_rfl))
 f219 := Tryd.func29.trans (congrArg some (by kernel_rfl))
 f224 := Tryd.func38.trans (congrArg some (by kernel_rfl))
 f225 := Tryd.func37.trans (congrArg some (by kernel_rfl))
 f266 := Tryd.func40.trans (congrArg some (by kernel_rfl))
 f267 := Tryd.func39.trans (congrArg some (by kernel_rfl))
 f314 := Tryd.func55.trans (congrArg some (by kernel_rfl))
 t3 := Tryd.underlying3
 a3 := Tryd.isAgg3
 z3 := Tryd.sizeOf3
 v3 := Tryd.zeroValue3
 t4 := Tryd.underlying4
 a4 := Tryd.isAgg4
 z4 := Tryd.sizeOf4
 v4 := Tryd.zeroValue4
 t5 := Tryd.underlying5
 a5 := Tryd.isAgg5
 z5 := Tryd.sizeOf5
 v5 := Tryd.zeroValue5
 t9 := Tryd.underlying9
 a9 := Tryd.isAgg9
 z9 := Tryd.sizeOf9
 v9 := Tryd.zeroValue9
 t46 := Tryd.underlying94
 a46 := Tryd.isAgg94
 z46 := Tryd.sizeOf94
 v46 := Tryd.zeroValue94
 t51 := Tryd.underlying105
 a51 := Tryd.isAgg105
 z51 := Tryd.sizeOf105
 v51 := Tryd.zeroValue105
 t146 := Tryd.underlying109
 a146 := Tryd.isAgg109
 z146 := Tryd.sizeOf109
 v146 := Tryd.zeroValue109
 g1 := by kernel_rfl }
open Go.RowKit Go.Lib in
theorem Tryd.strings_Contains_one (s : ByteArray) (c : UInt8) (w : World) :
  Calls Tryd.prog 14 #[.string s, .string ⟨#[c]⟩] w fun e w' => e = .returned (.bool (decide (0 ≤ Lib.indexByte s.data.toList c))) ∧ w' = w := Any.strings_Contains_one Tryd.lays144 s c w
end Go.Proofs
namespace Go.Proofs.YtgocbiiolmmonaaDoor
open Go Go.RowKit
def m9 (s : List UInt8) : List Value := [st s]
theorem l9 (s : List UInt8) : (m9 s).length = 1 := rfl
abbrev Bs := List UInt8
def shapes : List (Bs × Bs × Bs) := [([99, 104, 101, 99, 107], [108], [98]), ([99, 111, 100, 101], [108], [98]), ([119, 111, 114, 100, 115], [108], [98, 110]), ([103, 101, 116], [108, 115], [98, 111]), ([99, 97, 110, 111, 110], [108, 115], [98, 111]), ([119, 104, 101, 114, 101], [108, 115], [98]), ([115, 116, 114, 101, 97, 109], [108, 115], [98, 99]), ([99, 114, 101, 97, 116, 101], [108, 118], [98, 111]), ([112, 117, 116], [108, 118, 115], [98, 111]), ([101, 100, 105, 116], [108, 115, 97, 100, 116], [98, 111])]
def b6 (nm : Bs) : Bs × Bs × Bs := (shapes.find? fun s => decide (s.1 = nm)).getD ([], [], [])
def u6 (nm : Bs) : Bool := (shapes.find? fun s => decide (s.1 = nm)).isSome
abbrev adn (te : TypeId) (fre : Nat × Nat) : List (Nat × Obj) := [(4, .cells [st ([99, 104, 101, 99, 107] : List UInt8), st ([108] : List UInt8), st ([98] : List UInt8), st ([99, 111, 100, 101] : List UInt8), st ([108] : List UInt8), st ([98] : List UInt8), st ([119, 111, 114, 100, 115] : List UInt8), st ([108] : List UInt8), st ([98, 110] : List UInt8), st ([103, 101, 116] : List UInt8), st ([108, 115] : List UInt8), st ([98, 111] : List UInt8), st ([99, 97, 110, 111, 110] : List UInt8), st ([108, 115] : List UInt8), st ([98, 111] : List UInt8), st ([119, 104, 101, 114, 101] : List UInt8), st ([108, 115] : List UInt8), st ([98] : List UInt8), st ([115, 116, 114, 101, 97, 109] : List UInt8), st ([108, 115] : List UInt8), st ([98, 99] : List UInt8), st ([99, 114, 101, 97, 116, 101] : List UInt8), st ([108, 118] : List UInt8), st ([98, 111] : List UInt8), st ([112, 117, 116] : List UInt8), st ([108, 118, 115] : List UInt8), st ([98, 111] : List UInt8), st ([101, 100, 105, 116] : List UInt8), st ([108, 115, 97, 100, 116] : List UInt8), st ([98, 111] : List UInt8)].toArray te fre)]
end Go.Proofs.YtgocbiiolmmonaaDoor
namespace Go.Proofs.YtgocbiiolmmonaaDoor
open Go Go.ChangeShapes Go.WideShapes Go.ChangeAt Go.RowKit
set_option maxRecDepth 100000
theorem f8 {P : Program} {x : String × DataW Unit} {r : List (String × DataW Unit)} {W : World} (h : laidMet P (x :: r) W) : laidMet P r W := by
 obtain ⟨ps, ⟨g, t, cs, fuel, p, q, _, _, _, _, hr, rfl⟩, hn, hc⟩ := h
 exact ⟨q, hr, (List.nodup_append.1 hn).2.1, fun b off hm => hc b off (List.mem_append.2 (.inr hm))⟩
abbrev agv : List (String × DataW Unit) := [("math/bits.deBruijn32tab", Rows.laid_math_bits_deBruijn32tab), ("math/bits.deBruijn64tab", Rows.laid_math_bits_deBruijn64tab), ("internal/strconv.uint64pow10", Rows.laid_internal_strconv_uint64pow10), ("unicode/utf8.acceptRanges", Rows.laid_unicode_utf8_acceptRanges), ("strconv.ErrRange", Rows.laid_strconv_ErrRange), ("strconv.ErrSyntax", Rows.laid_strconv_ErrSyntax), ("loupe/args.shapes", Rows.laid_loupe_args_shapes), ("loupe/files.ErrMissing", Rows.laid_loupe_files_ErrMissing), ("loupe/files.ErrBroken", Rows.laid_loupe_files_ErrBroken), ("loupe/files.ErrFull", Rows.laid_loupe_files_ErrFull), ("loupe/files.ErrBadName", Rows.laid_loupe_files_ErrBadName), ("unicode/utf8.first", Rows.laid_unicode_utf8_first)]
theorem aa2 (W : World) : laidMetH Tryd.prog agv W = laidMet Tryd.prog agv W := by kernel_rfl
theorem alf : ∀ (rows : List (List Value)) (cs : List Value), cs.length = 3 * rows.length → (∀ i r, rows[i]? = some r → (cs.drop (i * 3)).take 3 = r) → cs = rows.flatten
 | [], cs, h, _ => List.length_eq_zero_iff.1 h
 | r :: rs, cs, h, hr => by
  have h0 : cs.take 3 = r := hr 0 r rfl
  have ih := alf rs (cs.drop 3) (by rw [List.length_drop, h, List.length_cons]; omega) (fun i r' hi => by
   rw [List.drop_drop, show 3 + i * 3 = (i + 1) * 3 by omega]; exact hr (i + 1) r' hi)
  rw [List.flatten_cons, ← ih, ← h0, List.take_append_drop]
abbrev sh3 : List (Bs × Bs × Bs) := [([99, 104, 101, 99, 107], [108], [98]), ([99, 111, 100, 101], [108], [98]), ([119, 111, 114, 100, 115], [108], [98, 110]), ([103, 101, 116], [108, 115], [98, 111]), ([99, 97, 110, 111, 110], [108, 115], [98, 111]), ([119, 104, 101, 114, 101], [108, 115], [98]), ([115, 116, 114, 101, 97, 109], [108, 115], [98, 99]), ([99, 114, 101, 97, 116, 101], [108, 118], [98, 111]), ([112, 117, 116], [108, 118, 115], [98, 111]), ([101, 100, 105, 116], [108, 115, 97, 100, 116], [98, 111])]
section
variable {H : Type} {enc : TypeId × Value → H} {W : World} {base : Nat} {sp : Nat → Bool} {hd : Bool} {fuel : Nat}
set_option maxRecDepth 100000 in
theorem aev {l : List Value} {y : DataW H × List MemPlace} (h : DataW.trod enc Tryd.prog W base sp hd fuel 49 l = some y) {a b c : Bs} (hy : y.1 = .agg [.lit (.string a), .lit (.string b), .lit (.string c)]) : l = [st a, st b, st c] := by
 have hc2 : Tryd.prog.cellsOf 9 = 1 := by kernel_rfl
 obtain ⟨xs, m, _, hx, hn, hl, hfs⟩ := DataW.trod_struct Tryd.underlying49 h
 have hl3 : l.length = 3 := hn.trans (by kernel_rfl)
 match xs, hl, l, hl3 with
 | [y0, y1, y2], _, [c0, c1, c2], _ =>
  have t0 : DataW.trod enc Tryd.prog W base sp hd m 9 [c0] = some y0 := by
   have h : DataW.trod enc Tryd.prog W base sp hd m 9 (List.take (Tryd.prog.cellsOf 9) (List.drop 0 [c0, c1, c2])) = some y0 := hfs 0 _ rfl
   rw [hc2] at h; exact h
  have t1 : DataW.trod enc Tryd.prog W base sp hd m 9 [c1] = some y1 := by
   have h : DataW.trod enc Tryd.prog W base sp hd m 9 (List.take (Tryd.prog.cellsOf 9) (List.drop 1 [c0, c1, c2])) = some y1 := hfs 1 _ rfl
   rw [hc2] at h; exact h
  have t2 : DataW.trod enc Tryd.prog W base sp hd m 9 [c2] = some y2 := by
   have h : DataW.trod enc Tryd.prog W base sp hd m 9 (List.take (Tryd.prog.cellsOf 9) (List.drop 2 [c0, c1, c2])) = some y2 := hfs 2 _ rfl
   rw [hc2] at h; exact h
  obtain ⟨s0, q0, rfl, _⟩ := DataW.trod_string Tryd.underlying9 t0
  obtain ⟨s1, q1, rfl, _⟩ := DataW.trod_string Tryd.underlying9 t1
  obtain ⟨s2, q2, rfl, _⟩ := DataW.trod_string Tryd.underlying9 t2
  rw [hx] at hy
  simp only [List.map_cons, List.map_nil, DataW.agg.injEq, List.cons.injEq, DataW.lit.injEq, Lit.string.injEq, and_true] at hy
  obtain ⟨rfl, rfl, rfl⟩ := hy
  simp only [List.cons.injEq, and_true] at q0 q1 q2
  subst q0 q1 q2
  rfl
set_option maxRecDepth 100000 in
theorem adu {cs : List Value} {p : List MemPlace} (h : DataW.trod enc Tryd.prog W base sp hd fuel 73 cs = some (Rows.laid_loupe_args_shapes, p)) : cs = (sh3.map fun x => [st x.1, st x.2.1, st x.2.2]).flatten := by
 obtain ⟨xs, m, _, hx, hn, hl, hi⟩ := DataW.trod_array Tryd.underlying73 h
 have hxs : sh3.map (fun x => (DataW.agg [.lit (.string x.1), .lit (.string x.2.1), .lit (.string x.2.2)] : DataW H)) = xs.map (·.1) := DataW.agg.inj (congrArg Prod.fst hx)
 refine alf _ cs (hn.trans (by kernel_rfl)) (fun i r hr => ?_)
 rw [List.getElem?_map] at hr
 obtain ⟨x, hxi, rfl⟩ := Option.map_eq_some_iff.1 hr
 have hi10 : i < 10 := (List.getElem?_eq_some_iff.1 hxi).1
 have h2 : (xs.map (·.1))[i]? = some (DataW.agg [.lit (.string x.1), .lit (.string x.2.1), .lit (.string x.2.2)]) := by rw [← hxs, List.getElem?_map, hxi]; rfl
 rw [List.getElem?_map] at h2
 obtain ⟨y, hy1, hy2⟩ := Option.map_eq_some_iff.1 h2
 have h3 := hi i hi10
 rw [show Tryd.prog.cellsOf 49 = 3 by kernel_rfl, hy1] at h3
 exact aev h3 hy2
end
theorem afj : Tryd.prog.globalNamed "loupe/args.shapes" = some 4 := by kernel_rfl
theorem ama : (Tryd.prog.globals[4]?).map (·.type) = some 73 := by kernel_rfl
set_option maxRecDepth 100000 in
theorem am8 {W : World} {r : List (String × DataW Unit)} (h : laidMet Tryd.prog (("loupe/args.shapes", Rows.laid_loupe_args_shapes) :: r) W) : W.var? Tryd.prog "loupe/args.shapes" = some (sh3.map fun x => [st x.1, st x.2.1, st x.2.2]).flatten.toArray := by
 obtain ⟨ps, ⟨g, t, cs, fuel, p, q, hg, ht, hvar, hd, _, _⟩, _⟩ := h
 obtain rfl := Option.some.inj (afj.symm.trans hg)
 obtain rfl := Option.some.inj (ama.symm.trans ht)
 rw [hvar]
 obtain ⟨l⟩ := cs
 have := adu hd
 rw [← this]
set_option maxRecDepth 100000 in
theorem ahu {W : World} (h : laidMetH Tryd.prog agv W) : ∃ te fre, W.heap[4]? = some (.cells (sh3.map fun x => [st x.1, st x.2.1, st x.2.2]).flatten.toArray te fre) := by
 rw [aa2] at h
 have h2 := am8 (f8 (f8 (f8 (f8 (f8 (f8 h))))))
 unfold World.var? at h2
 rw [afj] at h2
 simp only [Option.bind_some] at h2
 split at h2
 ·rename_i cs t fr hg
  obtain rfl := Option.some.inj h2
  exact ⟨t, fr, hg⟩
 ·cases h2
noncomputable def ad9 (g : Nat) (c : Array Value) (w : World) : World := { w with heap := w.heap.modify g fun
   | .cells _ t frozen => .cells c t frozen
   | o => o }
noncomputable def abq (g : Nat) (s : Bs) (w : World) : World := ad9 g #[.iface 138 (.pointer (some ⟨w.heap.size, 0, none⟩))] { w with heap := w.heap.push (.cells #[st s] 140 (0, 0)) }
set_option maxRecDepth 100000 in
noncomputable def ac0 (os : Os) : World :=
 ad9 9 #[.int .u8 0, .int .u8 1, .int .u8 28, .int .u8 2, .int .u8 29, .int .u8 14, .int .u8 24, .int .u8 3, .int .u8 30, .int .u8 22, .int .u8 20, .int .u8 15, .int .u8 25, .int .u8 17, .int .u8 4, .int .u8 8, .int .u8 31, .int .u8 27, .int .u8 13, .int .u8 23, .int .u8 21, .int .u8 19, .int .u8 16, .int .u8 7, .int .u8 26, .int .u8 12, .int .u8 18, .int .u8 6, .int .u8 11, .int .u8 5, .int .u8 10, .int .u8 9] (ad9 10 #[.int .u8 0, .int .u8 1, .int .u8 56, .int .u8 2, .int .u8 57, .int .u8 49, .int .u8 28, .int .u8 3, .int .u8 61, .int .u8 58, .int .u8 42, .int .u8 50, .int .u8 38, .int .u8 29, .int .u8 17, .int .u8 4, .int .u8 62, .int .u8 47, .int .u8 59, .int .u8 36, .int .u8 45, .int .u8 43, .int .u8 51, .int .u8 22, .int .u8 53, .int .u8 39, .int .u8 33, .int .u8 30, .int .u8 24, .int .u8 18, .int .u8 12, .int .u8 5, .int .u8 63, .int .u8 55, .int .u8 48, .int .u8 27, .int .u8 60, .int .u8 41, .int .u8 37, .int .u8 16, .int .u8 46, .int .u8 35, .int .u8 44, .int .u8 21, .int .u8 52, .int .u8 32, .int .u8 23, .int .u8 11, .int .u8 54, .int .u8 26, .int .u8 40, .int .u8 15, .int .u8 34, .int .u8 20, .int .u8 31, .int .u8 10, .int .u8 25, .int .u8 14, .int .u8 19, .int .u8 9, .int .u8 13, .int .u8 8, .int .u8 7, .int .u8 6] (ad9 6 #[.int .u64 1, .int .u64 10, .int .u64 100, .int .u64 1000, .int .u64 10000, .int .u64 100000, .int .u64 1000000, .int .u64 10000000, .int .u64 100000000, .int .u64 1000000000, .int .u64 10000000000, .int .u64 100000000000, .int .u64 1000000000000, .int .u64 10000000000000, .int .u64 100000000000000, .int .u64 1000000000000000, .int .u64 10000000000000000, .int .u64 100000000000000000, .int .u64 1000000000000000000, .int .u64 10000000000000000000] (ad9 12 #[.int .u8 128, .int .u8 191, .int .u8 160, .int .u8 191, .int .u8 128, .int .u8 159, .int .u8 144, .int .u8 191, .int .u8 128, .int .u8 143, .int .u8 0, .int .u8 0, .int .u8 0, .int .u8 0, .int .u8 0, .int .u8 0, .int .u8 0, .int .u8 0, .int .u8 0, .int .u8 0, .int .u8 0, .int .u8 0, .int .u8 0, .int .u8 0, .int .u8 0, .int .u8 0, .int .u8 0, .int .u8 0, .int .u8 0, .int .u8 0, .int .u8 0, .int .u8 0] (abq 8 [118, 97, 108, 117, 101, 32, 111, 117, 116, 32, 111, 102, 32, 114, 97, 110, 103, 101] (abq 7 [105, 110, 118, 97, 108, 105, 100, 32, 115, 121, 110, 116, 97, 120] (ad9 4 (sh3.map fun x => [st x.1, st x.2.1, st x.2.2]).flatten.toArray (abq 3 [109, 105, 115, 115, 105, 110, 103] (abq 2 [98, 114, 111, 107, 101, 110] (abq 0 [102, 117, 108, 108] (abq 1 [98, 97, 100, 32, 110, 97, 109, 101] (ad9 11 (Pinned.utf8FirstZ.map fun (z : Nat) => Value.int .u8 (z : Int)).toArray (World.holding Tryd.prog os ⟨#[], #[], []⟩))))))))))))
end Go.Proofs.YtgocbiiolmmonaaDoor
namespace Go.Proofs.YtgocbiiolmmonaaDoor
open Go Go.RowKit
section
variable {P : Program} {ops : Array Oper} {Q : Exit → Act → World → Prop} {C : Cx} {L : Sl} {H : List HA} {rest : List Oper} {w : World} {kt et mt : TypeId} {b : Nat}
def mkD : List (Lit × Value) → DataW Value
 | [] => .map []
 | x :: r => (mkD r).put x.1 (.held x.2)
def amn (v : Value) : Option (DataW Value × List MemPlace) := some (.held v, [])
def am3 (P : Program) (kt : TypeId) (b : Nat) (l : List (Lit × Value)) (w : World) (F : List Nat) : Prop :=
 F = [b] ∧ ∃ n : Nat, n ≤ l.length ∧ w.ownsMap P kt amn b n (mkD l) ∧ ∀ x ∈ l, WideAt.IsKeyLit x.1
theorem ahv (P : Program) (kt : TypeId) (b : Nat) (l : List (Lit × Value)) : akc (am3 P kt b l) := by
 rintro w w' F ⟨rfl, n, hn, ⟨es, clock, hb, h2⟩, h3⟩ hk
 exact ⟨rfl, n, hn, ⟨es, clock, by rw [hk b (by simp)]; exact hb, h2⟩, h3⟩
def mapE (P : Program) (kt : TypeId) (b : Nat) (l : List (Lit × Value)) : HA := .gen (am3 P kt b l) (ahv P kt b l)
theorem acj : ∀ l : List (Lit × Value), (∀ x ∈ l, WideAt.IsKeyLit x.1) → Maps.Tidy (mkD l)
 | [], _ => Maps.tidy_empty
 | x :: r, h => (acj r fun y hy => h y (List.mem_cons_of_mem _ hy)).put (h x (List.mem_cons_self ..)) _
theorem Hp.mapE (hp : Hp C H w) {l : List (Lit × Value)} (i : Nat) (hi : H[i]? = some (Go.Proofs.YtgocbiiolmmonaaDoor.mapE P kt b l)) : ∃ F, am3 P kt b l w F := by
 obtain ⟨F, h1, _⟩ := hp.own
 exact h1.each i _ hi
def lk {κ β : Type} [DecidableEq κ] : List (κ × β) → κ → Option β
 | [], _ => none
 | x :: r, k => if x.1 = k then some x.2 else lk r k
def szM {κ β : Type} [DecidableEq κ] : List (κ × β) → Nat
 | [] => 0
 | x :: r => if (lk r x.1).isSome then szM r else szM r + 1
section
variable {κ β : Type} [DecidableEq κ] {kl : κ → Lit} {vl : β → Value}
abbrev prL (kl : κ → Lit) (vl : β → Value) (m : List (κ × β)) : List (Lit × Value) := m.map fun x => (kl x.1, vl x.2)
omit [DecidableEq κ] in
theorem aei (hk : ∀ k, WideAt.IsKeyLit (kl k)) (m : List (κ × β)) : ∀ x ∈ prL kl vl m, WideAt.IsKeyLit x.1 := by
 intro x hx
 obtain ⟨y, _, rfl⟩ := List.mem_map.1 hx
 exact hk _
theorem alm (hk : ∀ k, WideAt.IsKeyLit (kl k)) (hi : ∀ a b, kl a = kl b → a = b) (k : κ) (z : DataW Value) : ∀ m : List (κ × β), (mkD (prL kl vl m)).atKey (kl k) z = match lk m k with | some v => .held (vl v) | none => z
 | [] => by simp [mkD, lk, prL, DataW.atKey]
 | x :: r => by
  have ih := alm hk hi k z r
  have hm : Maps.IsMap (mkD (prL kl vl r)) := (acj _ (aei hk r)).isMap
  show ((mkD (prL kl vl r)).put (kl x.1) (.held (vl x.2))).atKey (kl k) z = _
  unfold lk
  by_cases h : x.1 = k
  ·rw [if_pos h, h, Maps.atKey_put_same hm (hk k)]
  ·rw [if_neg h, Maps.atKey_put_other (fun e => h (hi _ _ e).symm), ih]
theorem afx (hk : ∀ k, WideAt.IsKeyLit (kl k)) (hi : ∀ a b, kl a = kl b → a = b) (k : κ) : ∀ m : List (κ × β), Maps.has (mkD (prL kl vl m)) (kl k) = (lk m k).isSome
 | [] => by simp [mkD, lk, prL, Maps.has_eq]
 | x :: r => by
  have ih := afx hk hi k r
  have hm : Maps.IsMap (mkD (prL kl vl r)) := (acj _ (aei hk r)).isMap
  show Maps.has ((mkD (prL kl vl r)).put (kl x.1) (.held (vl x.2))) (kl k) = _
  unfold lk
  by_cases h : x.1 = k
  ·rw [if_pos h, h, Maps.has_put_same hm (hk k)]; rfl
  ·rw [if_neg h, Maps.has_put_other (fun e => h (hi _ _ e).symm), ih]
theorem ahe (hk : ∀ k, WideAt.IsKeyLit (kl k)) (hi : ∀ a b, kl a = kl b → a = b) : ∀ m : List (κ × β), Maps.size (mkD (prL kl vl m)) = (szM m : Nat)
 | [] => by simp [mkD, szM, prL, Maps.size_eq]
 | x :: r => by
  have ih := ahe hk hi r
  have ht := acj _ (aei (vl := vl) hk r)
  show Maps.size ((mkD (prL kl vl r)).put (kl x.1) (.held (vl x.2))) = _
  rw [Maps.size_put ht, afx hk hi]
  unfold szM
  split <;> omega
structure MapT (P : Program) (mt kt et : TypeId) (kl : κ → Lit) : Prop where
 map : P.underlying mt = some (.map kt et)
 key : Maps.Keyed P kt
 lit : ∀ k, WideAt.IsKeyLit (kl k)
 inj : ∀ a b, kl a = kl b → a = b
theorem OV.lookOk {x y : Operand} {ty : TypeId} {d : Option Tmp} {p : String} {e : Array Edge} {g : Option (Nat × Bool)} {m : List (κ × β)} {k : κ} {kv : Value} {z0 : β} (i : Nat) (hx : ev L x = some (.map (some b))) (hy : ev L y = some kv) (hi : H[i]? = some (mapE P kt b (prL kl vl m)))
  (ht : MapT P mt kt et kl) (hkv : keyOf P kt kv = some (kl k)) (hz : ae9 P et = some (vl z0)) :
  OV P C L H ⟨d, .lookup mt x y true, ty, p, e, g⟩ (.tuple #[vl ((lk m k).getD z0), .bool (lk m k).isSome]) := fun a w hf hp => by
 obtain ⟨F, rfl, n, _, hown, _⟩ := hp.mapE i hi
 obtain ⟨v, ps, hrun, h2⟩ := hown.look_ok ht.key ht.map (ae2 hz w) (zd := .held (vl z0)) (zp := []) rfl hkv
 rw [alm ht.lit ht.inj k (.held (vl z0)) m] at h2
 rw [afx ht.lit ht.inj k m] at hrun
 have hv : v = vl ((lk m k).getD z0) := by
  unfold amn at h2
  cases hq : lk m k with
  | none => rw [hq] at h2; simp at h2; exact h2.1
  | some u => rw [hq] at h2; simp at h2; exact h2.1
 subst hv
 simp [execOp, hf.ev hx, hf.ev hy, hrun]
theorem OV.lenMap {x : Operand} {ty : TypeId} {d : Option Tmp} {p : String} {e : Array Edge} {g : Option (Nat × Bool)} {m : List (κ × β)} (i : Nat) (hx : ev L x = some (.map (some b))) (hi : H[i]? = some (mapE P kt b (prL kl vl m))) (ht : MapT P mt kt et kl) :
  OV P C L H ⟨d, .call ⟨.builtin .len, #[x], #[mt]⟩, ty, p, e, g⟩ (.int .i64 ((szM m : Nat) : Int)) := fun a w hf hp => by
 obtain ⟨F, rfl, n, _, hown, _⟩ := hp.mapE i hi
 have := hown.len ht.map ty
 rw [ahe ht.lit ht.inj m] at this
 simp only [execOp, resolve, invoke, builtin, Sem.run_bind, Sem.run_pure, Result.andThen_ok, List.map_toArray, List.map_cons, List.map_nil, hf.ev hx, this]
omit [DecidableEq κ] in
theorem WL.mapPut {x y z : Operand} {ty : TypeId} {p : String} {e : Array Edge} {g : Option (Nat × Bool)} {m : List (κ × β)} {k : κ} {u : β} {kv : Value} (i : Nat) (hx : ev L x = some (.map (some b))) (hy : ev L y = some kv) (hz : ev L z = some (vl u)) (hi : H[i]? = some (mapE P kt b (prL kl vl m)))
  (ht : MapT P mt kt et kl) (hkv : keyOf P kt kv = some (kl k)) (hl : m.length < 140737488355328)
  (hw : j4 ops L ⟨none, .mapUpdate mt x y z, ty, p, e, g⟩ = some true) (h : WL P ops Q C L (H.set i (mapE P kt b (prL kl vl ((k, u) :: m)))) rest) : WL P ops Q C L H (⟨none, .mapUpdate mt x y z, ty, p, e, g⟩ :: rest) := by
 refine WL.op (fun K hK a w hf hp => ?_) hw h
 obtain ⟨F, hF, n, hn, hown, hkeys⟩ := hp.mapE i hi
 have hlen : (prL kl vl m).length = m.length := List.length_map ..
 obtain ⟨w', hrun, h1, h2⟩ := hown.update ht.key ht.map (by unfold maxLen; omega) hkv (val := vl u) (d := .held (vl u)) (ps := []) rfl
 have hsw := hp.swap (w' := w') (x' := mapE P kt b (prL kl vl ((k, u) :: m))) hi h2.os h2.tape h2.output h2.size (fun F' hF' q hq hne => h2.block q hq (fun e => by
   obtain ⟨rfl, _⟩ := hF'
   cases e; exact hne (by simp))) (fun F' hF' _ => by
   obtain ⟨rfl, _⟩ := hF'
   refine ⟨[b], ⟨rfl, n + 1, by simp only [prL, List.map_cons, List.length_cons] at hn ⊢; omega, h1, fun q hq => ?_⟩, by simp, fun q hq => ?_⟩
   ·rcases List.mem_cons.1 hq with rfl | hq
    ·exact ht.lit k
    ·exact hkeys q hq
   ·obtain rfl := List.mem_singleton.1 hq
    exact ⟨.inl (by simp), h1.lt⟩)
 unfold Oper.wp
 simp only [execOp, hf.ev hx, hf.ev hy, hf.ev hz, Sem.run_bind, hrun, Result.andThen_ok, Sem.run_pure, Oper.upon]
 exact hK _ _ (hf.put0 _) hsw
omit [DecidableEq κ] in
theorem WL.newMap {d : Nat} {ty : TypeId} {p : String} {e : Array Edge} {g : Option (Nat × Bool)} (_ht : MapT P mt kt et kl) (vl : β → Value) (hw : j4 ops L ⟨some d, .makeMap mt none, ty, p, e, g⟩ = some true) (hn : Nat.blt d C.n = true)
  (h : ∀ b, WL P ops Q C ((d, .map (some b)) :: L) (mapE P kt b (prL kl vl ([] : List (κ × β))) :: H) rest) : WL P ops Q C L H (⟨some d, .makeMap mt none, ty, p, e, g⟩ :: rest) := by
 intro a w hf hp
 refine j7 (d9 hf hw) ?_
 unfold Oper.wp
 have hrun : (Instr.makeMap mt none).run P w = .ok (.map (some w.heap.size)) (w.alloc (.map #[] 0)) := rfl
 simp only [execOp, Option.map_none, Sem.run_bind, hrun, Result.andThen_ok, Sem.run_pure, Oper.upon]
 refine h _ _ _ (hf.put hn _) ?_
 have h1 := hp.alloc (.map #[] 0)
 exact h1.swap (w' := w.alloc (.map #[] 0)) (i := 0) (x' := mapE P kt w.heap.size (prL kl vl ([] : List (κ × β)))) rfl rfl rfl rfl (Nat.le_refl _) (fun _ _ _ _ _ => rfl) (fun F' hF' _ => by
  obtain ⟨rfl, hb⟩ := hF'
  refine ⟨[w.heap.size], ⟨rfl, 0, Nat.le_refl _, World.ownsMap_made w P kt _, fun x hx => by cases hx⟩, by simp, fun q hq => ?_⟩
  obtain rfl := List.mem_singleton.1 hq
  exact ⟨.inl (by simp), n8 hb⟩)
end
def klS (s : List UInt8) : Lit := .string s
theorem al8 : ∀ a b, klS a = klS b → a = b := fun _ _ h => by cases h; rfl
theorem abn {s : List UInt8} (hk : agf P kt = true) (hl : s.length ≤ 140737488355328) : keyOf P kt (st s) = some (klS s) := by
 have := Go.WideMaps.keyOf_string_mk (P := P) (x7 hk) (s := ⟨s.toArray⟩) (by unfold maxLen ByteArray.size; simp; omega)
 show keyOf P kt (Value.string ⟨s.toArray⟩) = some (Lit.string s)
 simpa using this
def klI (n : Int) : Lit := .int .i64 n
theorem amc : ∀ a b, klI a = klI b → a = b := fun _ _ h => by cases h; rfl
theorem adg {n : Int} (hk : P.underlying kt = some (.int .i64)) (hl : I64 n) : keyOf P kt (.int .i64 n) = some (klI n) :=
 Maps.keyOf_int_mk hk (by
  have h1 : IntKind.i64.min = -9223372036854775808 := rfl
  have h2 : IntKind.i64.max = 9223372036854775807 := rfl
  unfold I64 at hl
  simp [Lit.wf]; omega)
end
end Go.Proofs.YtgocbiiolmmonaaDoor
