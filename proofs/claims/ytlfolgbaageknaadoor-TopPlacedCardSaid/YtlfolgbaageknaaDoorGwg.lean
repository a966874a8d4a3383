/-
  The calculus of walks: drawn regions that store into the blocks that they make.
-/
import Derived.Test.YtlfolgbaageknaaDoorGwx
import Derived.Test.YtlfolgbaageknaaDoorFlowB
namespace Go.Proofs.YtlfolgbaageknaaDoor
open Go Go.RowKit

variable {P : Program} {ops : Array Oper} {Q : Exit → Act → World → Prop} {C : Cx} {H : List HA} {rest : List Oper} {o : Oper}

/-- What is stored where: the operation's number, the number of the operation that made the block, the block's content behind it. -/
def wget : List (Nat × Nat × Obj) → Nat → Option (Nat × Obj)
  | [], _ => none
  | p :: r, i => bif Nat.beq p.1 i then some p.2 else wget r i
/-- The walk through the head of a drawn region, in the text's order; zl: what is made there, by the operation's number. -/
def FS (P : Program) (ops : Array Oper) (T : World → Blocks → Act → Prop) (C : Cx) (L : FSl) (H : List HA) (zl : List (Nat × Obj)) (wl : List (Nat × Nat × Obj)) (k : Nat) (l : List Oper) : Prop :=
  ∀ (A : Fam) (w0 : World), (∀ β, Fr C (L β) (A β)) → Hp C H w0 → SB.wpFlowA P ops w0.heap.size w0 (zget zl) (wget wl) (fun A => ∀ γ, T w0 γ (A γ)) l k A

variable {T : World → Blocks → Act → Prop} {L : FSl} {zl : List (Nat × Obj)} {wl : List (Nat × Nat × Obj)} {k : Nat}
theorem FS.val {v : Value} {d : Nat} (hv : ∀ β, OV P C (L β) H o v) (hz : zget zl k = none) (hz2 : wget wl k = none) (hw : ∀ β, wantB ops (L β) o = some true) (hd : o.dst = some d) (hn : Nat.blt d C.n = true) (h : FS P ops T C (fun β => (d, v) :: L β) H zl wl (k + 1) rest) : FS P ops T C L H zl wl k (o :: rest) := by
  intro A w0 hf hp
  refine ⟨fun _ => v, .inr (.inr ⟨hz, hz2, v, rfl, fun β => .inl ⟨wanted_of (hf β) (hw β), fun w hb => ?_⟩⟩), ?_⟩
  · rw [hv β _ w (hf β) (hp.below hb)]
    exact ⟨rfl, Below.refl _ _⟩
  · rw [hd]; exact h _ w0 (fun β => (hf β).put hn v) hp
theorem FS.skip {d : Nat} (hz : zget zl k = none) (hz2 : wget wl k = none) (hw : ∀ β, wantB ops (L β) o = some false) (hd : o.dst = some d) (hn : Nat.blt d C.n = true) (h : FS P ops T C (fun β => (d, undef) :: L β) H zl wl (k + 1) rest) : FS P ops T C L H zl wl k (o :: rest) := by
  intro A w0 hf hp
  refine ⟨fun _ => undef, .inr (.inr ⟨hz, hz2, undef, rfl, fun β => .inr ⟨wanted_of (hf β) (hw β), rfl⟩⟩), ?_⟩
  rw [hd]; exact h _ w0 (fun β => (hf β).put hn undef) hp
theorem FS.make {Z : Obj} {f : Nat → Value} {d : Nat} (hv : ∀ β, MV P C (L β) H o Z f) (hz : zget zl k = some Z) (hz2 : wget wl k = none) (hw : ∀ β, wantB ops (L β) o = some true) (hd : o.dst = some d) (hn : Nat.blt d C.n = true) (h : FS P ops T C (fun β => (d, f (β k)) :: L β) H zl wl (k + 1) rest) : FS P ops T C L H zl wl k (o :: rest) := by
  intro A w0 hf hp
  refine ⟨fun β => f (β k), .inl ⟨Z, f, hz, hz2, rfl, fun β => ⟨wanted_of (hf β) (hw β), fun w hb => hv β _ w (hf β) (hp.below hb)⟩⟩, ?_⟩
  rw [hd]; exact h _ w0 (fun β => (hf β).put hn _) hp
theorem FS.call {f : FuncId} {xs : List Operand} {ats : Array TypeId} {d : Nat} {ty : TypeId} {p : String} {e : Array Edge} {g : Option (Nat × Bool)} {vs : List Value} {R : List (Nat × Obj)} {v : Value} (he : entB P f = true) (hx : ∀ β, evs (L β) xs = some vs)
    (hc : Does P f vs R [] (Ret v [])) (hR : ROk C H R) (hz : zget zl k = none) (hz2 : wget wl k = none) (hw : ∀ β, wantB ops (L β) ⟨some d, .call ⟨.value (.func f), xs.toArray, ats⟩, ty, p, e, g⟩ = some true) (hn : Nat.blt d C.n = true)
    (h : FS P ops T C (fun β => (d, v) :: L β) H zl wl (k + 1) rest) : FS P ops T C L H zl wl k (⟨some d, .call ⟨.value (.func f), xs.toArray, ats⟩, ty, p, e, g⟩ :: rest) := by
  intro A w0 hf hp
  refine ⟨fun _ => v, .inr (.inr ⟨hz, hz2, v, rfl, fun β => .inl ⟨wanted_of (hf β) (hw β), fun w hb => ?_⟩⟩), ?_⟩
  · rw [exec_callV he (hf β) (hx β)]
    have hpw := hp.below hb
    refine (hc w [] rfl List.nodup_nil (fun k hk => by cases hk) (fun q hq => ?_)).mono ?_
    · refine ⟨?_, by simp⟩
      rcases hR.all q hq with ⟨i, hi⟩ | hm
      · exact hpw.blk hi
      · exact hpw.old hm
    · rintro en w' ⟨H', hS, hh⟩
      rcases hS with ⟨r, rfl, hS⟩ | ⟨c, rfl, hS⟩
      · cases hS; exact ⟨rfl, hh.toBelow⟩
      · cases hS
  · exact h _ w0 (fun β => (hf β).put hn v) hp
theorem FS.set {l : List Oper} (i : Nat) {v u : Value} (hL : ∀ β, (L β).get i = some v) (hv : v = u) (h : FS P ops T C (fun β => (i, u) :: L β) H zl wl k l) : FS P ops T C L H zl wl k l := fun A w0 hf hp => h A w0 (fun β => ⟨(hf β).defers, (hf β).size, fun j x hj => by
  unfold Sl.get at hj
  cases hb : Nat.beq i j with
  | true =>
    obtain rfl : i = j := Nat.eq_of_beq_eq_true hb
    simp only [hb, cond_true, Option.some.injEq] at hj
    rw [← hj, ← hv]; exact (hf β).get _ _ (hL β)
  | false => simp only [hb, cond_false] at hj; exact (hf β).get _ _ hj⟩) hp
theorem FS.weak {l : List Oper} {L' : FSl} (hs : ∀ β, Sub (L β) (L' β)) (h : FS P ops T C L' H zl wl k l) : FS P ops T C L H zl wl k l := fun A w0 hf hp => h A w0 (fun β => (hf β).sub (hs β)) hp
theorem FS.split {l : List Oper} (b : Bool) (ht : b = true → FS P ops T C L H zl wl k l) (hf : b = false → FS P ops T C L H zl wl k l) : FS P ops T C L H zl wl k l := by
  cases b
  · exact hf rfl
  · exact ht rfl
theorem FS.nil (h : ∀ (A : Fam) (w0 : World), (∀ β, Fr C (L β) (A β)) → Hp C H w0 → ∀ γ, T w0 γ (A γ)) : FS P ops T C L H zl wl k [] := fun A w0 hf hp => h A w0 hf hp
theorem wpFlowB_cut {B : Nat} {w0 : World} {Zs : Nat → Option Obj} {Ws : Nat → Option (Nat × Obj)} {Qf : Fam → Prop} : ∀ {l1 l2 : List Oper} {k : Nat} {A : Fam}, SB.wpFlowA P ops B w0 Zs Ws (fun A => SB.wpFlowA P ops B w0 Zs Ws Qf l2 (k + l1.length) A) l1 k A → SB.wpFlowA P ops B w0 Zs Ws Qf (l1 ++ l2) k A
  | [], _, _, _, h => h
  | o :: l1, l2, k, A, ⟨v, hv, h⟩ => ⟨v, hv, wpFlowB_cut (by rw [show k + 1 + l1.length = k + (o :: l1).length by simp; omega]; exact h)⟩
/-- Some operations first; behind them a state of one form, whatever way was taken. -/
theorem FS.cut {l : List Oper} (n : Nat) (hl : Nat.ble n l.length = true) (Lj : FSl) (hj : FS P ops T C Lj H zl wl (k + n) (l.drop n)) (h : ∀ T' : World → Blocks → Act → Prop, (∀ (A : Fam) (w0 : World), (∀ β, Fr C (Lj β) (A β)) → Hp C H w0 → ∀ γ, T' w0 γ (A γ)) → FS P ops T' C L H zl wl k (l.take n)) : FS P ops T C L H zl wl k l := by
  have hn : n ≤ l.length := Nat.le_of_ble_eq_true hl
  intro A w0 hf hp
  have hjoin : ∀ (l1 : List Oper) (k0 : Nat) (A : Fam), SB.wpFlowA P ops w0.heap.size w0 (zget zl) (wget wl) (fun A => ∀ β, Fr C (Lj β) (A β)) l1 k0 A → SB.wpFlowA P ops w0.heap.size w0 (zget zl) (wget wl) (fun A => SB.wpFlowA P ops w0.heap.size w0 (zget zl) (wget wl) (fun A => ∀ γ, T w0 γ (A γ)) (l.drop n) (k + n) A) l1 k0 A := by
    intro l1
    induction l1 with
    | nil => intro k0 A h; exact hj A w0 h hp
    | cons o l1 ih => intro k0 A ⟨v, hv, h⟩; exact ⟨v, hv, ih _ _ h⟩
  have h0 : SB.wpFlowA P ops w0.heap.size w0 (zget zl) (wget wl) (fun A => ∀ β, Fr C (Lj β) (A β)) (l.take n) k A := by
    have := h (fun w0' γ a => w0' = w0 → Fr C (Lj γ) a) (fun A w0' hf' _ γ _ => hf' γ) A w0 hf hp
    have hm : ∀ (l1 : List Oper) (k0 : Nat) (A : Fam), SB.wpFlowA P ops w0.heap.size w0 (zget zl) (wget wl) (fun A => ∀ γ, w0 = w0 → Fr C (Lj γ) (A γ)) l1 k0 A → SB.wpFlowA P ops w0.heap.size w0 (zget zl) (wget wl) (fun A => ∀ β, Fr C (Lj β) (A β)) l1 k0 A := by
      intro l1
      induction l1 with
      | nil => intro k0 A h γ; exact h γ rfl
      | cons o l1 ih => intro k0 A ⟨v, hv, h⟩; exact ⟨v, hv, ih _ _ h⟩
    exact hm _ _ _ this
  have := wpFlowB_cut (l1 := l.take n) (l2 := l.drop n) (k := k) (A := A) (P := P) (ops := ops) (B := w0.heap.size) (w0 := w0) (Zs := zget zl) (Ws := wget wl) (Qf := fun A => ∀ γ, T w0 γ (A γ)) (by
    have hlen : (l.take n).length = n := by simp; omega
    rw [hlen]; exact hjoin _ _ _ h0)
  rwa [List.take_append_drop] at this

theorem FS.store {x y : Operand} {t ty Tt : TypeId} {p : String} {e : Array Edge} {g : Option (Nat × Bool)} {off j : Nat} {v : Value} {cs vs cs' : List Value}
    (hx : ∀ β, ev (L β) x = some (.pointer (some ⟨β j, off, none⟩))) (hy : ∀ β, ev (L β) y = some v) (hz : zget zl k = none) (hj : zget zl j = some (.cells cs.toArray Tt (0, 0))) (hz2 : wget wl k = some (j, .cells cs'.toArray Tt (0, 0)))
    (haf : (e.toList.any fun e => Region.binds .any e && Nat.beq e.on j) = true) (hv : v.cells = vs.toArray) (hs : sizeB P t vs.length = true) (hfit : off + vs.length ≤ cs.length) (h1 : vs.all (·.oneCell') = true) (he : cs.take off ++ vs ++ cs.drop (off + vs.length) = cs')
    (hw : ∀ β, wantB ops (L β) ⟨none, .store t x y, ty, p, e, g⟩ = some true) (h : FS P ops T C L H zl wl (k + 1) rest) : FS P ops T C L H zl wl k (⟨none, .store t x y, ty, p, e, g⟩ :: rest) := by
  intro A w0 hf hp
  refine ⟨fun _ => undef, .inr (.inl ⟨j, _, _, hz, hz2, hj, rfl, haf, fun β => ⟨wanted_of (hf β) (hw β), fun w hb hZ => ?_⟩⟩), ?_⟩
  · have hrun := run_storeCells_at (P := P) (β j) off Tt vs 0 cs.toArray w hZ (by simpa using hfit) (by simpa using h1)
    simp only [Nat.add_zero] at hrun
    rw [he] at hrun
    have hst : (storeVar t ⟨β j, off, none⟩ v).run P w = .ok () (w.setRow (β j) cs'.toArray) := by
      simp only [storeVar, Sem.run_bind, run_size hs, Result.andThen_ok, hv, List.size_toArray, ne_eq, not_true_eq_false, if_false, hrun]
    simp only [execOp, (hf β).ev (hx β), (hf β).ev (hy β), Instr.storeAt, Instr.sureAddr, Sem.run_bind, Sem.run_pure, Result.andThen_ok, hst]
    exact ⟨rfl, rfl, rfl, by simp [World.setRow], fun k hk => setRow_other w (β j) k _ hk, heap_setRow_same hZ⟩
  · exact h _ w0 (fun β => (hf β).put0 _) hp
theorem FS.storeW {x y : Operand} {t ty Tt : TypeId} {p : String} {e : Array Edge} {g : Option (Nat × Bool)} {j : Nat} {v : Value} {cs vs : List Value} {n : Nat}
    (hx : ∀ β, ev (L β) x = some (.pointer (some ⟨β j, 0, none⟩))) (hy : ∀ β, ev (L β) y = some v) (hz : zget zl k = none) (hj : zget zl j = some (.cells cs.toArray Tt (0, 0))) (hz2 : wget wl k = some (j, .cells vs.toArray Tt (0, 0)))
    (haf : (e.toList.any fun e => Region.binds .any e && Nat.beq e.on j) = true) (hv : v.cells = vs.toArray) (hl : vs.length = n) (hs : sizeB P t n = true) (hl2 : cs.length = vs.length) (h1 : vs.all (·.oneCell') = true)
    (hw : ∀ β, wantB ops (L β) ⟨none, .store t x y, ty, p, e, g⟩ = some true) (h : FS P ops T C L H zl wl (k + 1) rest) : FS P ops T C L H zl wl k (⟨none, .store t x y, ty, p, e, g⟩ :: rest) :=
  FS.store (cs := cs) (vs := vs) (cs' := vs) hx hy hz hj hz2 haf hv (hl ▸ hs) (by omega) h1 (by
    rw [Nat.zero_add, ← hl2, List.drop_length]; simp) hw h

/-! ### the blocks that the region made -/
def fin (wl : List (Nat × Nat × Obj)) (i : Nat) (Z : Obj) : Obj := match wl with
  | [] => Z
  | p :: r => bif Nat.beq p.2.1 i then p.2.2 else fin r i Z
def zblkS (zl : List (Nat × Obj)) (wl : List (Nat × Nat × Obj)) (γ : Blocks) (H : List HA) : List HA := match zl with
  | [] => H
  | p :: r => .blk (γ p.1) (fin wl p.1 p.2) :: zblkS r wl γ H
def wkeys (n : Nat) (wl : List (Nat × Nat × Obj)) : Bool := nodupB (wl.map (·.1)) && nodupB (wl.map (·.2.1)) && wl.all (fun p => Nat.blt p.1 n)
theorem wget_mem {wl : List (Nat × Nat × Obj)} {s : Nat} {x : Nat × Obj} (h : wget wl s = some x) : (s, x) ∈ wl := by
  induction wl with
  | nil => cases h
  | cons q r ih =>
    unfold wget at h
    cases hb : Nat.beq q.1 s with
    | true =>
      rw [hb] at h
      have e1 : q.1 = s := Nat.eq_of_beq_eq_true hb
      have e2 : q.2 = x := by simpa using h
      rw [← e1, ← e2]; exact List.mem_cons_self ..
    | false => rw [hb] at h; exact List.mem_cons_of_mem _ (ih h)
theorem wget_of {wl : List (Nat × Nat × Obj)} (hn : (wl.map (·.1)).Nodup) {p : Nat × Nat × Obj} (hp : p ∈ wl) : wget wl p.1 = some p.2 := by
  induction wl with
  | nil => cases hp
  | cons q r ih =>
    unfold wget
    rw [List.map_cons, List.nodup_cons] at hn
    rcases List.mem_cons.1 hp with rfl | hp
    · simp
    · have hne : ¬ q.1 = p.1 := fun e => hn.1 (e ▸ List.mem_map_of_mem hp)
      have : Nat.beq q.1 p.1 = false := by
        cases hb : Nat.beq q.1 p.1 with
        | false => rfl
        | true => exact absurd (Nat.eq_of_beq_eq_true hb) hne
      rw [this]; exact ih hn.2 hp
theorem map_inj {α β : Type} {f : α → β} : ∀ {l : List α}, (l.map f).Nodup → ∀ {x y : α}, x ∈ l → y ∈ l → f x = f y → x = y
  | [], _, _, _, hx, _, _ => by cases hx
  | a :: l, hn, x, y, hx, hy, he => by
    rw [List.map_cons, List.nodup_cons] at hn
    rcases List.mem_cons.1 hx with e1 | hx2
    · rcases List.mem_cons.1 hy with e2 | hy2
      · rw [e1, e2]
      · rw [e1] at he; exact absurd (he ▸ List.mem_map_of_mem hy2) hn.1
    · rcases List.mem_cons.1 hy with e2 | hy2
      · rw [e2] at he; exact absurd (he ▸ List.mem_map_of_mem hx2) hn.1
      · exact map_inj hn.2 hx2 hy2 he
theorem wkeys_uniq {n : Nat} (hw : wkeys n wl = true) : ∀ s t x y z, wget wl s = some (x, y) → wget wl t = some (x, z) → s = t := fun s t x y z h1 h2 => by
  simp only [wkeys, Bool.and_eq_true] at hw
  have := map_inj (nodupB_spec hw.1.2) (wget_mem h1) (wget_mem h2) rfl
  exact (Prod.mk.inj this).1
theorem fin_none {i : Nat} {Z : Obj} (h : ∀ p ∈ wl, p.2.1 ≠ i) : fin wl i Z = Z := by
  induction wl with
  | nil => rfl
  | cons q r ih =>
    unfold fin
    have : Nat.beq q.2.1 i = false := by
      cases hb : Nat.beq q.2.1 i with
      | false => rfl
      | true => exact absurd (Nat.eq_of_beq_eq_true hb) (h q (List.mem_cons_self ..))
    rw [this]; exact ih fun p hp => h p (List.mem_cons_of_mem _ hp)
theorem fin_some {i : Nat} {Z : Obj} (hn : (wl.map (·.2.1)).Nodup) {p : Nat × Nat × Obj} (hp : p ∈ wl) (hi : p.2.1 = i) : fin wl i Z = p.2.2 := by
  induction wl with
  | nil => cases hp
  | cons q r ih =>
    unfold fin
    rw [List.map_cons, List.nodup_cons] at hn
    rcases List.mem_cons.1 hp with rfl | hp
    · simp [hi]
    · have : Nat.beq q.2.1 i = false := by
        cases hb : Nat.beq q.2.1 i with
        | false => rfl
        | true => exact absurd ((Nat.eq_of_beq_eq_true hb).trans hi.symm ▸ List.mem_map_of_mem (f := (·.2.1)) hp) hn.1
      rw [this]; exact ih hn.2 hp
theorem hp_madeS {n : Nat} {w0 w : World} {γ : Blocks} (hp : Hp C H w0) (hz : zkeys n zl = true) (hw : wkeys n wl = true) (hm : SB.Made w0.heap.size w0 (zget zl) (wget wl) n γ w) : Hp C (zblkS zl wl γ H) w := by
  simp only [zkeys, Bool.and_eq_true, List.all_eq_true] at hz
  simp only [wkeys, Bool.and_eq_true, List.all_eq_true] at hw
  have hnd := nodupB_spec hz.1
  have hwd := nodupB_spec hw.1.1
  have hwd2 := nodupB_spec hw.1.2
  have hb := hp.below hm.below
  obtain ⟨F, h1, h2, h3⟩ := hp.own
  have hF : ∀ k ∈ F, k < w0.heap.size := fun k hk => (h3 k hk).1
  have hq : ∀ q ∈ zl, w.heap[γ q.1]? = some (fin wl q.1 q.2) ∧ w0.heap.size ≤ γ q.1 := fun q hqm => by
    obtain ⟨g1, _, g3, g4⟩ := hm.blk q.1 q.2 (Nat.blt_eq ▸ hz.2 q hqm) (zget_of hnd hqm)
    refine ⟨?_, g1⟩
    by_cases hex : ∃ p ∈ wl, p.2.1 = q.1
    · obtain ⟨p, hpm, he⟩ := hex
      rw [fin_some hwd2 hpm he]
      exact g4 p.1 p.2.2 (Nat.blt_eq ▸ hw.2 p hpm) (by rw [wget_of hwd hpm, ← he])
    · rw [fin_none fun p hpm he => hex ⟨p, hpm, he⟩]
      exact g3 fun s Z' hs => hex ⟨_, wget_mem hs, rfl⟩
  have key : ∀ zl' : List (Nat × Obj), (zl'.map (·.1)).Nodup → (∀ p ∈ zl', p ∈ zl) → Own w (zblkS zl' wl γ H) (zl'.map (fun p => γ p.1) ++ F) ∧ (zl'.map (fun p => γ p.1) ++ F).Nodup := by
    intro zl'
    induction zl' with
    | nil => intro _ _; exact ⟨by simpa [zblkS] using h1.keep fun k hk => hm.below.block k (hF k hk), by simpa using h2⟩
    | cons q r ih =>
      intro hn hsub
      rw [List.map_cons, List.nodup_cons] at hn
      obtain ⟨i1, i2⟩ := ih hn.2 fun p hp => hsub p (List.mem_cons_of_mem _ hp)
      have hqm := hsub q (List.mem_cons_self ..)
      have hq1 := hq q hqm
      refine ⟨⟨[γ q.1], r.map (fun p => γ p.1) ++ F, rfl, ⟨rfl, hq1.1⟩, i1⟩, ?_⟩
      show (γ q.1 :: (r.map (fun p => γ p.1) ++ F)).Nodup
      refine List.nodup_cons.2 ⟨fun hmem => ?_, i2⟩
      rcases List.mem_append.1 hmem with hmem | hmem
      · obtain ⟨p, hp', he⟩ := List.mem_map.1 hmem
        have hpm := hsub p (List.mem_cons_of_mem _ hp')
        have := hm.inj q.1 p.1 q.2 p.2 (Nat.blt_eq ▸ hz.2 q hqm) (Nat.blt_eq ▸ hz.2 p hpm) (zget_of hnd hqm) (zget_of hnd hpm) he.symm
        exact hn.1 (this ▸ List.mem_map_of_mem hp')
      · have := hF _ hmem; omega
  obtain ⟨k1, k2⟩ := key zl hnd fun _ h => h
  refine ⟨hb.os, hb.tape, hb.output, hb.size, hb.keep, hb.ro, _, k1, k2, fun k hk => ?_⟩
  rcases List.mem_append.1 hk with hk | hk
  · obtain ⟨p, hp', rfl⟩ := List.mem_map.1 hk
    have hq1 := hq p hp'
    exact ⟨lt_of_blk hq1.1, .inl (Nat.le_trans hp.size hq1.2)⟩
  · exact ⟨Nat.lt_of_lt_of_le (h3 k hk).1 hm.below.size, (h3 k hk).2⟩
/-- A region that stores into the blocks that it makes, and nowhere else. -/
theorem wc_draw_st {id : Nat} {l : List Oper} {L : Sl} (zl : List (Nat × Obj)) (wl : List (Nat × Nat × Obj)) (hm : P.follows .mixedOrders = true) (hB : flowB l.toArray = true) (hz : zkeys l.length zl = true) (hw : wkeys l.length wl = true)
    (h : ∀ T : World → Blocks → Act → Prop, (∀ (L' : FSl), (∀ γ, QX Q .normal C (L' γ) (zblkS zl wl γ H)) → ∀ (A : Fam) (w0 : World), (∀ β, Fr C (L' β) (A β)) → Hp C H w0 → ∀ γ, T w0 γ (A γ)) → FS P l.toArray T C (fun _ => L) H zl wl 0 l) : WC P (.region id l.toArray true) Q C L H := by
  intro a w hf hp
  refine SB.wp_region_flowA_all (zget zl) (wget wl) hm hB (wkeys_uniq hw) ?_
  have h1 := h (fun w0 γ a' => ∀ w', SB.Made w0.heap.size w0 (zget zl) (wget wl) l.length γ w' → Q .normal a' w')
    (fun L' hL A w0 hA hw0 γ w' hmade => hL γ (A γ) w' (hA γ) (hp_madeS hw0 hz hw hmade)) (fun _ => a) w.drew (fun _ => hf) hp.drew
  have hm : ∀ (l1 : List Oper) (k0 : Nat) (A : Fam), SB.wpFlowA P l.toArray w.drew.heap.size w.drew (zget zl) (wget wl) (fun A => ∀ γ w', SB.Made w.drew.heap.size w.drew (zget zl) (wget wl) l.length γ w' → Q .normal (A γ) w') l1 k0 A → SB.wpFlowA P l.toArray w.drew.heap.size w.drew (zget zl) (wget wl) (fun A => ∀ γ w', SB.Made w.drew.heap.size w.drew (zget zl) (wget wl) l.length γ w' → Q .normal (A γ) w') l1 k0 A := fun _ _ _ h => h
  exact hm _ _ _ h1
end Go.Proofs.YtlfolgbaageknaaDoor
