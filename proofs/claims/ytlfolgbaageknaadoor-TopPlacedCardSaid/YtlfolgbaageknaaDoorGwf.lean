/-
  The calculus of walks: regions whose order is drawn.
-/
import Derived.Test.YtlfolgbaageknaaDoorGww
import Derived.OrdersHeld
namespace Go.Proofs.YtlfolgbaageknaaDoor
open Go Go.RowKit

variable {P : Program} {ops : Array Oper} {Q : Exit → Act → World → Prop} {C : Cx} {H : List HA} {rest : List Oper} {o : Oper}

def zget : List (Nat × Obj) → Nat → Option Obj
  | [], _ => none
  | p :: r, i => bif Nat.beq p.1 i then some p.2 else zget r i
abbrev FSl := Blocks → Sl
/-- The walk through the head of a drawn region, in the text's order; zl: what is made there, by the operation's number. -/
def FL (P : Program) (ops : Array Oper) (T : World → Blocks → Act → Prop) (C : Cx) (L : FSl) (H : List HA) (zl : List (Nat × Obj)) (k : Nat) (l : List Oper) : Prop :=
  ∀ (A : Fam) (w0 : World), (∀ β, Fr C (L β) (A β)) → Hp C H w0 → wpFlowA P ops w0.heap.size w0 (zget zl) (fun A => ∀ γ, T w0 γ (A γ)) l k A

variable {T : World → Blocks → Act → Prop} {L : FSl} {zl : List (Nat × Obj)} {k : Nat}
theorem FL.val {v : Value} {d : Nat} (hv : ∀ β, OV P C (L β) H o v) (hz : zget zl k = none) (hw : ∀ β, wantB ops (L β) o = some true) (hd : o.dst = some d) (hn : Nat.blt d C.n = true) (h : FL P ops T C (fun β => (d, v) :: L β) H zl (k + 1) rest) : FL P ops T C L H zl k (o :: rest) := by
  intro A w0 hf hp
  refine ⟨fun _ => v, .inr ⟨hz, v, rfl, fun β => .inl ⟨wanted_of (hf β) (hw β), fun w hb => ?_⟩⟩, ?_⟩
  · rw [hv β _ w (hf β) (hp.below hb)]
    exact ⟨rfl, Below.refl _ _⟩
  · rw [hd]; exact h _ w0 (fun β => (hf β).put hn v) hp
theorem FL.skip {d : Nat} (hz : zget zl k = none) (hw : ∀ β, wantB ops (L β) o = some false) (hd : o.dst = some d) (hn : Nat.blt d C.n = true) (h : FL P ops T C (fun β => (d, undef) :: L β) H zl (k + 1) rest) : FL P ops T C L H zl k (o :: rest) := by
  intro A w0 hf hp
  refine ⟨fun _ => undef, .inr ⟨hz, undef, rfl, fun β => .inr ⟨wanted_of (hf β) (hw β), rfl⟩⟩, ?_⟩
  rw [hd]; exact h _ w0 (fun β => (hf β).put hn undef) hp
theorem FL.make {Z : Obj} {f : Nat → Value} {d : Nat} (hv : ∀ β, MV P C (L β) H o Z f) (hz : zget zl k = some Z) (hw : ∀ β, wantB ops (L β) o = some true) (hd : o.dst = some d) (hn : Nat.blt d C.n = true) (h : FL P ops T C (fun β => (d, f (β k)) :: L β) H zl (k + 1) rest) : FL P ops T C L H zl k (o :: rest) := by
  intro A w0 hf hp
  refine ⟨fun β => f (β k), .inl ⟨Z, f, hz, rfl, fun β => ⟨wanted_of (hf β) (hw β), fun w hb => hv β _ w (hf β) (hp.below hb)⟩⟩, ?_⟩
  rw [hd]; exact h _ w0 (fun β => (hf β).put hn _) hp
theorem FL.call {f : FuncId} {xs : List Operand} {ats : Array TypeId} {d : Nat} {ty : TypeId} {p : String} {e : Array Edge} {g : Option (Nat × Bool)} {vs : List Value} {R : List (Nat × Obj)} {v : Value} (he : entB P f = true) (hx : ∀ β, evs (L β) xs = some vs)
    (hc : Does P f vs R [] (Ret v [])) (hR : ROk C H R) (hz : zget zl k = none) (hw : ∀ β, wantB ops (L β) ⟨some d, .call ⟨.value (.func f), xs.toArray, ats⟩, ty, p, e, g⟩ = some true) (hn : Nat.blt d C.n = true)
    (h : FL P ops T C (fun β => (d, v) :: L β) H zl (k + 1) rest) : FL P ops T C L H zl k (⟨some d, .call ⟨.value (.func f), xs.toArray, ats⟩, ty, p, e, g⟩ :: rest) := by
  intro A w0 hf hp
  refine ⟨fun _ => v, .inr ⟨hz, v, rfl, fun β => .inl ⟨wanted_of (hf β) (hw β), fun w hb => ?_⟩⟩, ?_⟩
  · rw [exec_callV he (hf β) (hx β)]
    have hpw := hp.below hb
    refine (hc w [] rfl List.nodup_nil (fun k hk => by cases hk) (fun q hq => ?_)).mono ?_
    · refine ⟨?_, by simp⟩
      rcases hR.all q hq with ⟨i, hi⟩ | hm
      · exact hpw.blk hi
      · exact hpw.old hm
    · rintro en w' ⟨H', hS, hh⟩
      rcases hS with ⟨r, rfl, hS⟩ | ⟨c, rfl, hS⟩
      · cases hS; exact ⟨rfl, hh.toBelow⟩
      · cases hS
  · exact h _ w0 (fun β => (hf β).put hn v) hp
theorem FL.set {l : List Oper} (i : Nat) {v u : Value} (hL : ∀ β, (L β).get i = some v) (hv : v = u) (h : FL P ops T C (fun β => (i, u) :: L β) H zl k l) : FL P ops T C L H zl k l := fun A w0 hf hp => h A w0 (fun β => ⟨(hf β).defers, (hf β).size, fun j x hj => by
  unfold Sl.get at hj
  cases hb : Nat.beq i j with
  | true =>
    obtain rfl : i = j := Nat.eq_of_beq_eq_true hb
    simp only [hb, cond_true, Option.some.injEq] at hj
    rw [← hj, ← hv]; exact (hf β).get _ _ (hL β)
  | false => simp only [hb, cond_false] at hj; exact (hf β).get _ _ hj⟩) hp
theorem FL.weak {l : List Oper} {L' : FSl} (hs : ∀ β, Sub (L β) (L' β)) (h : FL P ops T C L' H zl k l) : FL P ops T C L H zl k l := fun A w0 hf hp => h A w0 (fun β => (hf β).sub (hs β)) hp
theorem FL.split {l : List Oper} (b : Bool) (ht : b = true → FL P ops T C L H zl k l) (hf : b = false → FL P ops T C L H zl k l) : FL P ops T C L H zl k l := by
  cases b
  · exact hf rfl
  · exact ht rfl
theorem FL.nil (h : ∀ (A : Fam) (w0 : World), (∀ β, Fr C (L β) (A β)) → Hp C H w0 → ∀ γ, T w0 γ (A γ)) : FL P ops T C L H zl k [] := fun A w0 hf hp => h A w0 hf hp
theorem wpFlowA_cut {B : Nat} {w0 : World} {Zs : Nat → Option Obj} {Qf : Fam → Prop} : ∀ {l1 l2 : List Oper} {k : Nat} {A : Fam}, wpFlowA P ops B w0 Zs (fun A => wpFlowA P ops B w0 Zs Qf l2 (k + l1.length) A) l1 k A → wpFlowA P ops B w0 Zs Qf (l1 ++ l2) k A
  | [], _, _, _, h => h
  | o :: l1, l2, k, A, ⟨v, hv, h⟩ => ⟨v, hv, wpFlowA_cut (by rw [show k + 1 + l1.length = k + (o :: l1).length by simp; omega]; exact h)⟩
/-- Some operations first; behind them a state of one form, whatever way was taken. -/
theorem FL.cut {l : List Oper} (n : Nat) (hl : Nat.ble n l.length = true) (Lj : FSl) (hj : FL P ops T C Lj H zl (k + n) (l.drop n)) (h : ∀ T' : World → Blocks → Act → Prop, (∀ (A : Fam) (w0 : World), (∀ β, Fr C (Lj β) (A β)) → Hp C H w0 → ∀ γ, T' w0 γ (A γ)) → FL P ops T' C L H zl k (l.take n)) : FL P ops T C L H zl k l := by
  have hn : n ≤ l.length := Nat.le_of_ble_eq_true hl
  intro A w0 hf hp
  have hjoin : ∀ (l1 : List Oper) (k0 : Nat) (A : Fam), wpFlowA P ops w0.heap.size w0 (zget zl) (fun A => ∀ β, Fr C (Lj β) (A β)) l1 k0 A → wpFlowA P ops w0.heap.size w0 (zget zl) (fun A => wpFlowA P ops w0.heap.size w0 (zget zl) (fun A => ∀ γ, T w0 γ (A γ)) (l.drop n) (k + n) A) l1 k0 A := by
    intro l1
    induction l1 with
    | nil => intro k0 A h; exact hj A w0 h hp
    | cons o l1 ih => intro k0 A ⟨v, hv, h⟩; exact ⟨v, hv, ih _ _ h⟩
  have h0 : wpFlowA P ops w0.heap.size w0 (zget zl) (fun A => ∀ β, Fr C (Lj β) (A β)) (l.take n) k A := by
    have := h (fun w0' γ a => w0' = w0 → Fr C (Lj γ) a) (fun A w0' hf' _ γ _ => hf' γ) A w0 hf hp
    have hm : ∀ (l1 : List Oper) (k0 : Nat) (A : Fam), wpFlowA P ops w0.heap.size w0 (zget zl) (fun A => ∀ γ, w0 = w0 → Fr C (Lj γ) (A γ)) l1 k0 A → wpFlowA P ops w0.heap.size w0 (zget zl) (fun A => ∀ β, Fr C (Lj β) (A β)) l1 k0 A := by
      intro l1
      induction l1 with
      | nil => intro k0 A h γ; exact h γ rfl
      | cons o l1 ih => intro k0 A ⟨v, hv, h⟩; exact ⟨v, hv, ih _ _ h⟩
    exact hm _ _ _ this
  have := wpFlowA_cut (l1 := l.take n) (l2 := l.drop n) (k := k) (A := A) (P := P) (ops := ops) (B := w0.heap.size) (w0 := w0) (Zs := zget zl) (Qf := fun A => ∀ γ, T w0 γ (A γ)) (by
    have hlen : (l.take n).length = n := by simp; omega
    rw [hlen]; exact hjoin _ _ _ h0)
  rwa [List.take_append_drop] at this

/-! ### the blocks that the head made -/
def zblk (zl : List (Nat × Obj)) (γ : Blocks) (H : List HA) : List HA := match zl with
  | [] => H
  | p :: r => .blk (γ p.1) p.2 :: zblk r γ H
def zkeys (n : Nat) (zl : List (Nat × Obj)) : Bool := nodupB (zl.map (·.1)) && zl.all (fun p => Nat.blt p.1 n)
theorem zget_of {zl : List (Nat × Obj)} (hn : (zl.map (·.1)).Nodup) {p : Nat × Obj} (hp : p ∈ zl) : zget zl p.1 = some p.2 := by
  induction zl with
  | nil => cases hp
  | cons q r ih =>
    unfold zget
    rw [List.map_cons, List.nodup_cons] at hn
    rcases List.mem_cons.1 hp with rfl | hp
    · simp
    · have hne : ¬ q.1 = p.1 := fun e => hn.1 (e ▸ List.mem_map_of_mem hp)
      have : Nat.beq q.1 p.1 = false := by
        cases hb : Nat.beq q.1 p.1 with
        | false => rfl
        | true => exact absurd (Nat.eq_of_beq_eq_true hb) hne
      rw [this]; exact ih hn.2 hp
theorem hp_made {n : Nat} {w0 w : World} {γ : Blocks} (hp : Hp C H w0) (hz : zkeys n zl = true) (hm : Made w0.heap.size w0 (zget zl) n γ w) : Hp C (zblk zl γ H) w := by
  simp only [zkeys, Bool.and_eq_true, List.all_eq_true] at hz
  have hnd := nodupB_spec hz.1
  have hb := hp.below hm.below
  obtain ⟨F, h1, h2, h3⟩ := hp.own
  have hF : ∀ k ∈ F, k < w0.heap.size := fun k hk => (h3 k hk).1
  have key : ∀ zl' : List (Nat × Obj), (zl'.map (·.1)).Nodup → (∀ p ∈ zl', p ∈ zl) → Own w (zblk zl' γ H) (zl'.map (fun p => γ p.1) ++ F) ∧ (zl'.map (fun p => γ p.1) ++ F).Nodup := by
    intro zl'
    induction zl' with
    | nil => intro _ _; exact ⟨by simpa [zblk] using h1.keep fun k hk => hm.below.block k (hF k hk), by simpa using h2⟩
    | cons q r ih =>
      intro hn hsub
      rw [List.map_cons, List.nodup_cons] at hn
      obtain ⟨i1, i2⟩ := ih hn.2 fun p hp => hsub p (List.mem_cons_of_mem _ hp)
      have hqm := hsub q (List.mem_cons_self ..)
      have hq := hm.blk q.1 q.2 (Nat.blt_eq ▸ hz.2 q hqm) (zget_of hnd hqm)
      refine ⟨⟨[γ q.1], r.map (fun p => γ p.1) ++ F, rfl, ⟨rfl, hq.1⟩, i1⟩, ?_⟩
      show (γ q.1 :: (r.map (fun p => γ p.1) ++ F)).Nodup
      refine List.nodup_cons.2 ⟨fun hmem => ?_, i2⟩
      rcases List.mem_append.1 hmem with hmem | hmem
      · obtain ⟨p, hp', he⟩ := List.mem_map.1 hmem
        have hpm := hsub p (List.mem_cons_of_mem _ hp')
        have := hm.inj q.1 p.1 q.2 p.2 (Nat.blt_eq ▸ hz.2 q hqm) (Nat.blt_eq ▸ hz.2 p hpm) (zget_of hnd hqm) (zget_of hnd hpm) he.symm
        exact hn.1 (this ▸ List.mem_map_of_mem hp')
      · have := hF _ hmem; omega
  obtain ⟨k1, k2⟩ := key zl hnd fun _ h => h
  refine ⟨hb.os, hb.tape, hb.output, hb.size, hb.keep, hb.ro, _, k1, k2, fun k hk => ?_⟩
  rcases List.mem_append.1 hk with hk | hk
  · obtain ⟨p, hp', rfl⟩ := List.mem_map.1 hk
    have hq := hm.blk p.1 p.2 (Nat.blt_eq ▸ hz.2 p hp') (zget_of hnd hp')
    exact ⟨lt_of_blk hq.1, .inl (Nat.le_trans hp.size hq.2)⟩
  · exact ⟨Nat.lt_of_lt_of_le (h3 k hk).1 hm.below.size, (h3 k hk).2⟩

/-- The first n operations in whatever order, then the rest, whose order is forced. -/
theorem wc_draw {id : Nat} {l : List Oper} {L : Sl} (n : Nat) (zl : List (Nat × Obj)) (hm : P.follows .mixedOrders = true) (hB : Region.lexTailB .any l.toArray n = true) (hz : zkeys n zl = true)
    (h : ∀ T : World → Blocks → Act → Prop, (∀ (L' : FSl), (∀ γ, WL P l.toArray Q C (L' γ) (zblk zl γ H) (l.drop n)) → ∀ (A : Fam) (w0 : World), (∀ β, Fr C (L' β) (A β)) → Hp C H w0 → ∀ γ, T w0 γ (A γ)) → FL P l.toArray T C (fun _ => L) H zl 0 (l.take n)) : WC P (.region id l.toArray true) Q C L H := by
  intro a w hf hp
  refine wp_region_flowA (zget zl) n hm hB ?_
  exact h (fun w0 γ a' => ∀ w', Made w0.heap.size w0 (zget zl) n γ w' → wpList P l.toArray Q (l.drop n) a' w')
    (fun L' hL A w0 hA hw0 γ w' hmade => hL γ (A γ) w' (hA γ) (hp_made hw0 hz hmade)) (fun _ => a) w.drew (fun _ => hf) hp.drew
/-- A region that is all head. -/
theorem wc_draw_all {id : Nat} {l : List Oper} {L : Sl} (zl : List (Nat × Obj)) (hm : P.follows .mixedOrders = true) (hB : flowB l.toArray = true) (hz : zkeys l.length zl = true)
    (h : ∀ T : World → Blocks → Act → Prop, (∀ (L' : FSl), (∀ γ, QX Q .normal C (L' γ) (zblk zl γ H)) → ∀ (A : Fam) (w0 : World), (∀ β, Fr C (L' β) (A β)) → Hp C H w0 → ∀ γ, T w0 γ (A γ)) → FL P l.toArray T C (fun _ => L) H zl 0 l) : WC P (.region id l.toArray true) Q C L H := by
  intro a w hf hp
  refine wp_region_flowA_all (zget zl) hm hB ?_
  have h1 := h (fun w0 γ a' => ∀ w', Made w0.heap.size w0 (zget zl) l.length γ w' → Q .normal a' w')
    (fun L' hL A w0 hA hw0 γ w' hmade => hL γ (A γ) w' (hA γ) (hp_made hw0 hz hmade)) (fun _ => a) w.drew (fun _ => hf) hp.drew
  have hm : ∀ (l1 : List Oper) (k0 : Nat) (A : Fam), wpFlowA P l.toArray w.drew.heap.size w.drew (zget zl) (fun A => ∀ γ w', Made w.drew.heap.size w.drew (zget zl) l.length γ w' → Q .normal (A γ) w') l1 k0 A → wpFlowA P l.toArray w.drew.heap.size w.drew (zget zl) (fun A => ∀ γ w', Made w.drew.heap.size w.drew (zget zl) l.length γ w' → Q .normal (A γ) w') l1 k0 A := fun _ _ _ h => h
  exact hm _ _ _ h1

/-! ### operations that look at no block that the stores write may be taken first, whatever else is ready -/
def TW (P : Program) (ops : Array Oper) (C : Cx) (HK : List HA) (T : Sl → Prop) : Sl → List Oper → Prop
  | L, [] => T L
  | L, o :: r => ∃ v d, ((wantB ops L o = some true ∧ OV P C L HK o v) ∨ (wantB ops L o = some false ∧ v = undef)) ∧ o.dst = some d ∧ Nat.blt d C.n = true ∧ TW P ops C HK T ((d, v) :: L) r
theorem TW.val {HK : List HA} {T : Sl → Prop} {L : Sl} {v : Value} {d : Nat} (hv : OV P C L HK o v) (hw : wantB ops L o = some true) (hd : o.dst = some d) (hn : Nat.blt d C.n = true) (h : TW P ops C HK T ((d, v) :: L) rest) : TW P ops C HK T L (o :: rest) :=
  ⟨v, d, .inl ⟨hw, hv⟩, hd, hn, h⟩
theorem TW.skip {HK : List HA} {T : Sl → Prop} {L : Sl} {d : Nat} (hw : wantB ops L o = some false) (hd : o.dst = some d) (hn : Nat.blt d C.n = true) (h : TW P ops C HK T ((d, undef) :: L) rest) : TW P ops C HK T L (o :: rest) :=
  ⟨undef, d, .inr ⟨hw, rfl⟩, hd, hn, h⟩
theorem TW.nil {HK : List HA} {T : Sl → Prop} {L : Sl} (h : T L) : TW P ops C HK T L [] := h
/-- A list of operations in their order, S behind each. -/
def wpListS (P : Program) (ops : Array Oper) (Q : Exit → Act → World → Prop) (S : World → Prop) : List Oper → Act → World → Prop
  | [], a, w => Q .normal a w
  | o :: rest, a, w => Region.wanted o (yielded ops a.tmps) = true ∧ o.wp P a w (fun a' w' => S w' ∧ wpListS P ops Q S rest a' w') Q
def WLK (P : Program) (ops : Array Oper) (Q : Exit → Act → World → Prop) (C : Cx) (HK : List HA) (L : Sl) (H : List HA) (l : List Oper) : Prop := ∀ a w, Fr C L a → Hp C H w → wpListS P ops Q (Hp C HK) l a w
theorem WLK.op {HK H' : List HA} {L L' : Sl} (idx : List Nat) (hi : nodupB idx = true) (hk : sel H' idx = HK) (hop : OpK P o Q C L H L' H') (hw : wantB ops L o = some true) (h : WLK P ops Q C HK L' H' rest) : WLK P ops Q C HK L H (o :: rest) :=
  fun a w hf hp => ⟨wanted_of hf hw, hop _ (fun a' w' hf' hp' => ⟨hk ▸ hp'.pick idx hi, h a' w' hf' hp'⟩) a w hf hp⟩
theorem WLK.nil {HK : List HA} {L : Sl} (h : QX Q .normal C L H) : WLK P ops Q C HK L H [] := fun a w hf hp => h a w hf hp
theorem wpAnyH_of_seq {S : World → Prop} {md : Region.Mode} : ∀ (l : List Oper) (k : Nat) (listed : Array Bool) (a : Act) (w : World), (∀ j, l[j]? = ops[k + j]?) →
    Region.seqB md ops l.length k listed = true → wpListS P ops Q S l a w → wpAnyH P md ops Q S l.length listed a w
  | [], _, _, _, _, _, hB, h => ⟨by simpa [Region.seqB] using hB, h⟩
  | o :: l, k, listed, a, w, hl, hB, h => by
    have h0 : ops[k]? = some o := by simpa using (hl 0).symm
    simp only [List.length_cons, Region.seqB, Bool.and_eq_true, decide_eq_true_eq] at hB
    refine ⟨fun h1 => (by rw [hB.1] at h1; cases h1), fun i hi => ?_⟩
    rw [hB.1] at hi
    obtain rfl : i = k := by simpa using hi
    unfold wpOp
    simp only [h0, h.1, if_true]
    refine .inl (Oper.wp_mono (fun a' w' h' => ⟨h'.1, ?_⟩) h.2)
    exact wpAnyH_of_seq l (i + 1) _ a' w' (fun j => by have := hl (j + 1); simpa [Nat.add_assoc, Nat.add_comm 1 j] using this) hB.2 h'.2
theorem tw_any {g : Nat} {tail : List Oper} {HK : List HA} (hsel : Region.noSelect ops = true) (hq : Stays Q) (hg : tail.length = g) : ∀ (l : List Oper) (k : Nat) (listed : Array Bool) (L : Sl) (a : Act) (w : World), (∀ j, j < l.length → l[j]? = ops[k + j]?) → (∀ j, tail[j]? = ops[k + l.length + j]?) →
    Region.lexHead .any ops g l.length k listed = true → Fr C L a → Hp C H w → Hp C HK w → TW P ops C HK (fun L' => WLK P ops Q C HK L' H tail) L l → wpAnyH P .any ops Q (Hp C HK) (l.length + g) listed a w
  | [], k, listed, L, a, w, _, ht, hB, hf, hp, _, h => by
    have := wpAnyH_of_seq (md := .any) (Q := Q) (S := Hp C HK) tail k listed a w (fun j => by simpa using ht j) (by rw [hg]; simpa [Region.lexHead] using hB) (h a w hf hp)
    rw [hg] at this
    simpa using this
  | o :: l, k, listed, L, a, w, hl, ht, hB, hf, hp, hpk, ⟨v, d, hv, hd, hn, h⟩ => by
    have h0 : ops[k]? = some o := by simpa using (hl 0 (by simp)).symm
    simp only [List.length_cons, Region.lexHead, Bool.and_eq_true] at hB
    obtain ⟨⟨hrd, hfr⟩, hB'⟩ := hB
    have hy : YieldsIf P ops (Hp C HK) o v a := by
      rcases hv with ⟨hw, hv⟩ | ⟨hw, rfl⟩
      · exact .inl ⟨wanted_of hf hw, fun w' hw' => hv a w' hf hw'⟩
      · exact .inr ⟨wanted_of hf hw, rfl⟩
    have ih := tw_any hsel hq hg l (k + 1) (listed.setIfInBounds k true) ((d, v) :: L) (a.put (some d) v) w (fun j hj => by have := hl (j + 1) (by simp; omega); simpa [Nat.add_assoc, Nat.add_comm 1 j] using this)
      (fun j => by have := ht j; rw [List.length_cons] at this; rw [this]; congr 1; omega) hB' (hf.put hn v) hp hpk h
    rw [show (o :: l).length + g = (l.length + g) + 1 by simp; omega]
    refine wpAnyH_take h0 hsel hfr hrd (fun c a w h => hq c a _ v w h) hy hpk ?_
    rw [hd]; exact ih
/-- What must be shown behind operations that do not panic. -/
def NP (Q : Exit → Act → World → Prop) : Exit → Act → World → Prop
  | .panic _, _, _ => False
  | e, a, w => Q e a w
theorem wc_drawT {id : Nat} {l : List Oper} {L : Sl} (n : Nat) (idx : List Nat) (HK : List HA) (hi : nodupB idx = true) (hk : sel H idx = HK) (hm : P.follows .mixedOrders = true) (hB : (Region.noSelect l.toArray && Nat.ble n l.length && Region.lexHead .any l.toArray (l.length - n) n 0 (Array.replicate l.length false)) = true)
    (h : ∀ T : Sl → Prop, (∀ L', WLK P l.toArray (NP Q) C HK L' H (l.drop n) → T L') → TW P l.toArray C HK T L (l.take n)) : WC P (.region id l.toArray true) Q C L H := by
  intro a w hf hp
  simp only [Bool.and_eq_true] at hB
  obtain ⟨⟨hsel, hn⟩, hlex⟩ := hB
  have hn' : n ≤ l.length := Nat.le_of_ble_eq_true hn
  have htl : (l.take n).length = n := by simp; omega
  refine wp_mono (Q := NP Q) (wp_region_any hm ?_) (fun e a w hq => ?_)
  · have := wpAny_of_held _ _ _ _ (tw_any (P := P) (ops := l.toArray) (Q := NP Q) (C := C) (H := H) (HK := HK) (g := l.length - n) (tail := l.drop n) hsel (fun _ _ _ _ _ h => h) (by simp) (l.take n) 0 (Array.replicate l.length false) L a w.drew
      (fun j hj => by rw [htl] at hj; simp [hj]) (fun j => by rw [htl]; simp [List.getElem?_drop]) (by rw [htl]; exact hlex) hf hp.drew (hk ▸ hp.drew.pick idx hi) (h _ fun _ hh => hh))
    rw [htl, show n + (l.length - n) = l.length by omega] at this
    simpa using this
  · cases e <;> first | exact hq | exact hq.elim
end Go.Proofs.YtlfolgbaageknaaDoor
