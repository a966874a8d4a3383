/-
  The calculus of walks: the rules for code and for operations.
-/
import Derived.Test.YtlfolgbaageknaaDoorGw
namespace Go.Proofs.YtlfolgbaageknaaDoor
open Go Go.RowKit

variable {P : Program} {ops : Array Oper} {Q : Exit → Act → World → Prop} {C : Cx} {L : Sl} {H : List HA} {rest : List Oper} {o : Oper}

def WL (P : Program) (ops : Array Oper) (Q : Exit → Act → World → Prop) (C : Cx) (L : Sl) (H : List HA) (l : List Oper) : Prop := ∀ a w, Fr C L a → Hp C H w → wpList P ops Q l a w
def WC (P : Program) (c : Code) (Q : Exit → Act → World → Prop) (C : Cx) (L : Sl) (H : List HA) : Prop := ∀ a w, Fr C L a → Hp C H w → c.wp P Q a w
/-- What the walk must show where it leaves a piece of code. -/
def QX (Q : Exit → Act → World → Prop) (e : Exit) (C : Cx) (L : Sl) (H : List HA) : Prop := ∀ a w, Fr C L a → Hp C H w → Q e a w
abbrev KX (K : Act → World → Prop) (C : Cx) (L : Sl) (H : List HA) : Prop := ∀ a w, Fr C L a → Hp C H w → K a w

/-! ### weakening -/
theorem WC.weak {c : Code} {L' : Sl} (hs : Sub L L') (h : WC P c Q C L' H) : WC P c Q C L H := fun a w hf hp => h a w (hf.sub hs) hp
theorem WC.pick {c : Code} (idx : List Nat) (hi : nodupB idx = true) {H' : List HA} (he : sel H idx = H') (h : WC P c Q C L H') : WC P c Q C L H := fun a w hf hp => h a w hf (he ▸ hp.pick idx hi)
theorem WL.weak {l : List Oper} {L' : Sl} (hs : Sub L L') (h : WL P ops Q C L' H l) : WL P ops Q C L H l := fun a w hf hp => h a w (hf.sub hs) hp
theorem WL.pick {l : List Oper} (idx : List Nat) (hi : nodupB idx = true) {H' : List HA} (he : sel H idx = H') (h : WL P ops Q C L H' l) : WL P ops Q C L H l := fun a w hf hp => h a w hf (he ▸ hp.pick idx hi)
theorem KX.go {K : Act → World → Prop} {L' : Sl} (h : KX K C L' H) (hs : Sub L L') : KX K C L H := fun a w hf hp => h a w (hf.sub hs) hp
theorem KX.goH {K : Act → World → Prop} {L' : Sl} {H' : List HA} (h : KX K C L' H') (hs : Sub L L') (idx : List Nat) (hi : nodupB idx = true) (he : sel H idx = H') : KX K C L H := fun a w hf hp => h a w (hf.sub hs) (he ▸ hp.pick idx hi)
theorem WL.set {l : List Oper} (i : Nat) {v u : Value} (hL : L.get i = some v) (hv : v = u) (h : WL P ops Q C ((i, u) :: L) H l) : WL P ops Q C L H l := fun a w hf hp => h a w ⟨hf.defers, hf.size, fun j x hj => by
  unfold Sl.get at hj
  cases hb : Nat.beq i j with
  | true =>
    obtain rfl : i = j := Nat.eq_of_beq_eq_true hb
    simp only [hb, cond_true, Option.some.injEq] at hj
    rw [← hj, ← hv]; exact hf.get _ _ hL
  | false => simp only [hb, cond_false] at hj; exact hf.get _ _ hj⟩ hp

/-! ### code -/
theorem wc_seq {x y : Code} (h : ∀ K : Act → World → Prop, (∀ L H, WC P y Q C L H → KX K C L H) → WC P x (Exit.then K Q) C L H) : WC P (.seq x y) Q C L H :=
  fun a w hf hp => wp_seq (h _ (fun _ _ hy => hy) a w hf hp)
theorem wc_seqJ {x y : Code} {X : Type} (V : X → Prop) (Lj : X → Sl) (Hj : X → List HA) (hy : ∀ s, V s → WC P y Q C (Lj s) (Hj s))
    (h : ∀ K : Act → World → Prop, (∀ s, V s → KX K C (Lj s) (Hj s)) → WC P x (Exit.then K Q) C L H) : WC P (.seq x y) Q C L H :=
  fun a w hf hp => wp_seq (h _ (fun s hs => hy s hs) a w hf hp)
theorem wc_skip (h : QX Q .normal C L H) : WC P .skip Q C L H := fun a w hf hp => wp_skip (h a w hf hp)
theorem wc_ret (h : QX Q .ret C L H) : WC P .ret Q C L H := fun a w hf hp => wp_ret (h a w hf hp)
theorem wc_exit {id : Nat} (h : QX Q (.exit id) C L H) : WC P (.exit id) Q C L H := fun a w hf hp => wp_exit (h a w hf hp)
theorem wc_block {id : Nat} {c : Code} (h : WC P c (Exit.inBlock id Q) C L H) : WC P (.block id c) Q C L H := fun a w hf hp => wp_block (h a w hf hp)
theorem wc_cond {c : Operand} {x y : Code} {b : Bool} (hc : ev L c = some (.bool b)) (ht : b = true → WC P x Q C L H) (hf : b = false → WC P y Q C L H) : WC P (.cond c x y) Q C L H :=
  fun a w hfr hp => wp_cond_split (hfr.ev hc) (fun h => ht h a w hfr hp) (fun h => hf h a w hfr hp)
theorem wc_condT {c : Operand} {x y : Code} (hc : ev L c = some (.bool true)) (ht : WC P x Q C L H) : WC P (.cond c x y) Q C L H := fun a w hfr hp => wp_cond_true (hfr.ev hc) (ht a w hfr hp)
theorem wc_condF {c : Operand} {x y : Code} (hc : ev L c = some (.bool false)) (ht : WC P y Q C L H) : WC P (.cond c x y) Q C L H := fun a w hfr hp => wp_cond_false (hfr.ev hc) (ht a w hfr hp)
theorem wc_region {id : Nat} {l : List Oper} (h : WL P l.toArray Q C L H l) : WC P (.region id l.toArray false) Q C L H := fun a w hf hp => wp_region_lit (h a w hf hp)

theorem wp_loop_ghost {S : Type} {c : Code} {Q : Exit → Act → World → Prop} {a : Act} {w : World} (I : S → Act → World → Prop) (μ : S → Nat) (s0 : S) (h0 : I s0 a w)
    (round : ∀ s a w, I s a w → c.wp P (Exit.then (fun a' w' => ∃ s', I s' a' w' ∧ μ s' < μ s) Q) a w) : (Code.loop c).wp P Q a w := by
  intro b k cs
  have key : ∀ n s a w, μ s = n → I s a w →
      ∃ e a' w', Q e a' w' ∧ Arrives P (lone (b.at a (.code c :: .inLoop c :: k)) cs w) b k cs e a' w' := by
    intro n
    induction n using Nat.strongRecOn with
    | _ n ih =>
      intro s a w hn hI
      obtain ⟨e, a₁, w₁, hq, harr⟩ := round s a w hI b (.inLoop c :: k) cs
      cases e with
      | normal =>
        obtain ⟨s', hI₁, hlt⟩ := hq
        obtain ⟨e₂, a₂, w₂, hq₂, harr₂⟩ := ih (μ s') (hn ▸ hlt) s' a₁ w₁ rfl hI₁
        exact ⟨e₂, a₂, w₂, hq₂, .of_steps (Steps.trans harr (.one step_inLoop)) harr₂⟩
      | exit id => exact ⟨_, a₁, w₁, hq, .pass (x := .inLoop c) rfl (fun _ _ => .inl (by simp)) harr⟩
      | goto l => exact ⟨_, a₁, w₁, hq, .pass (x := .inLoop c) rfl (fun _ _ => .inl (by simp)) harr⟩
      | ret => exact ⟨_, a₁, w₁, hq, .pass (x := .inLoop c) rfl (fun _ _ => .inl (by simp)) harr⟩
      | panic ch => exact ⟨_, a₁, w₁, hq, .pass (x := .inLoop c) rfl (fun _ _ => .inl (by simp)) harr⟩
      | outgrown => exact ⟨_, a₁, w₁, hq, .pass (x := .inLoop c) rfl (fun _ _ => .inl (by simp)) harr⟩
  obtain ⟨e, a', w', hq, harr⟩ := key _ s0 a w rfl h0
  exact ⟨e, a', w', hq, .of_steps (.one step_loop) harr⟩
theorem wc_loop {S : Type} {c : Code} (I : S → Prop) (μ : S → Nat) (Ls : S → Sl) (Hs : S → List HA) (s0 : S) (h0 : I s0) (hs : Sub L (Ls s0)) (hH : H = Hs s0)
    (round : ∀ s, I s → ∀ K : Act → World → Prop, (∀ s', I s' → μ s' < μ s → KX K C (Ls s') (Hs s')) → WC P c (Exit.then K Q) C (Ls s) (Hs s)) : WC P (.loop c) Q C L H :=
  fun _ _ hf hp => wp_loop_ghost (fun s a w => I s ∧ Fr C (Ls s) a ∧ Hp C (Hs s) w) μ s0 ⟨h0, hf.sub hs, hH ▸ hp⟩
    fun s _ _ ⟨hI, hf, hp⟩ => round s hI _ (fun s' hI' hlt _ _ hf' hp' => ⟨s', ⟨hI', hf', hp'⟩, hlt⟩) _ _ hf hp

/-! ### operations -/
def wantB (ops : Array Oper) (L : Sl) (o : Oper) : Option Bool :=
  match o.guard with
  | none => some true
  | some (j, b) => match ops[j]? with
    | some oj => match oj.dst with
      | some d => match L.get d with
        | some (.bool c) => some (c == b)
        | some (.tuple _) => some false
        | _ => none
      | none => none
    | none => none
theorem wanted_of {a : Act} {b : Bool} (hf : Fr C L a) (h : wantB ops L o = some b) : Region.wanted o (yielded ops a.tmps) = b := by
  unfold wantB at h
  unfold Region.wanted
  split at h
  · rename_i hg; rw [hg]; simpa using h
  · rename_i j b' hg
    rw [hg]
    split at h
    · rename_i oj hoj
      split at h
      · rename_i d hd
        split at h
        · rename_i c hc
          have := hf.get d _ hc
          simp only [yielded, hoj, hd, Option.bind_some, this]
          cases c <;> cases b' <;> simpa using h
        · rename_i vs hc
          have := hf.get d _ hc
          simp only [yielded, hoj, hd, Option.bind_some, this]
          simpa using h
        · cases h
      · cases h
    · cases h
theorem wpList_want' {Q : Exit → Act → World → Prop} {a : Act} {w : World} (hw : Region.wanted o (yielded ops a.tmps) = true) (h : o.wp P a w (wpList P ops Q rest) Q) : wpList P ops Q (o :: rest) a w := by
  unfold wpList; rw [if_pos hw]; exact .inl h

/-- In such frames and worlds the operation gives v and leaves the world. -/
def OV (P : Program) (C : Cx) (L : Sl) (H : List HA) (o : Oper) (v : Value) : Prop := ∀ a w, Fr C L a → Hp C H w → (execOp a.eval o).run P w = .ok (.value v) w
theorem WL.val {v : Value} {d : Nat} (hv : OV P C L H o v) (hw : wantB ops L o = some true) (hd : o.dst = some d) (hn : Nat.blt d C.n = true) (h : WL P ops Q C ((d, v) :: L) H rest) : WL P ops Q C L H (o :: rest) := by
  intro a w hf hp
  refine wpList_want' (wanted_of hf hw) ?_
  unfold Oper.wp
  rw [hv a w hf hp]
  simp only [Oper.upon, hd]
  exact h _ _ (hf.put hn v) hp
theorem WL.skip {d : Nat} (hw : wantB ops L o = some false) (hd : o.dst = some d) (hn : Nat.blt d C.n = true) (h : WL P ops Q C ((d, undef) :: L) H rest) : WL P ops Q C L H (o :: rest) := by
  intro a w hf hp
  unfold wpList
  rw [wanted_of hf hw]
  simp only [Bool.false_eq_true, if_false, hd]
  exact h _ _ (hf.put hn undef) hp
theorem WL.skip0 (hw : wantB ops L o = some false) (hd : o.dst = none) (h : WL P ops Q C L H rest) : WL P ops Q C L H (o :: rest) := by
  intro a w hf hp
  unfold wpList
  rw [wanted_of hf hw]
  simp only [Bool.false_eq_true, if_false, hd]
  exact h _ _ (hf.put0 undef) hp
theorem WL.nil (h : QX Q .normal C L H) : WL P ops Q C L H [] := fun a w hf hp => h a w hf hp
theorem WL.end_ {K : Act → World → Prop} (h : KX K C L H) : WL P ops (Exit.then K Q) C L H [] := fun a w hf hp => h a w hf hp

theorem wpList_cut {Q : Exit → Act → World → Prop} {l2 : List Oper} : ∀ {l1 : List Oper} {a : Act} {w : World}, wpList P ops (Exit.then (wpList P ops Q l2) Q) l1 a w → wpList P ops Q (l1 ++ l2) a w
  | [], _, _, h => h
  | o :: l1, a, w, h => by
    have ih : ∀ {a w}, wpList P ops (Exit.then (wpList P ops Q l2) Q) l1 a w → wpList P ops Q (l1 ++ l2) a w := wpList_cut
    rw [List.cons_append]
    unfold wpList at h ⊢
    split
    · rename_i hw
      rw [if_pos hw] at h
      rcases h with h | ⟨h1, h2⟩
      · left
        unfold Oper.wp at h ⊢
        generalize (execOp a.eval o).run P w = r at h ⊢
        cases r with
        | ok m w' =>
          cases m <;> simp only [Oper.upon] at h ⊢ <;>
            first
              | exact ih h
              | exact Calls.mono h (fun e w'' he => by cases e <;> first | exact ih he | exact he | (obtain ⟨a0, w0, h0⟩ := he; exact ⟨a0, w0, h0⟩))
              | exact Rows.mono h (fun _ _ he => ih he)
        | halt x w' => cases x <;> simp only [Oper.upon] at h ⊢ <;> exact h
      · exact .inr ⟨h1, by obtain ⟨a0, w0, h0⟩ := h2; exact ⟨a0, w0, h0⟩⟩
    · rename_i hw
      rw [if_neg hw] at h
      exact ih h
/-- Some operations first; behind them a state of one form, whatever way was taken. -/
theorem WL.cut {l : List Oper} (k : Nat) (Lj : Sl) (hj : WL P ops Q C Lj H (l.drop k)) (h : ∀ K : Act → World → Prop, KX K C Lj H → WL P ops (Exit.then K Q) C L H (l.take k)) : WL P ops Q C L H l := by
  intro a w hf hp
  have := wpList_cut (P := P) (ops := ops) (Q := Q) (l1 := l.take k) (l2 := l.drop k) (h _ hj a w hf hp)
  rwa [List.take_append_drop] at this
theorem WL.split {l : List Oper} (b : Bool) (ht : b = true → WL P ops Q C L H l) (hf : b = false → WL P ops Q C L H l) : WL P ops Q C L H l := by
  cases b
  · exact hf rfl
  · exact ht rfl

/-! ### operations that give a value -/
section ov
variable {x y z : Operand} {u v : Value} {t t' ty : TypeId} {d : Option Tmp} {p : String} {e : Array Edge} {g : Option (Nat × Bool)} {n m : Int} {k k' : IntKind}
theorem OV.move (hx : ev L x = some v) : OV P C L H ⟨d, .move x, ty, p, e, g⟩ v := fun a w hf _ => by simp [execOp, hf.ev hx]
theorem OV.assign (hx : ev L x = some v) : OV P C L H ⟨d, .assign x, ty, p, e, g⟩ v := fun a w hf _ => by simp [execOp, hf.ev hx]
theorem OV.pick {b : Bool} (hc : ev L x = some (.bool b)) (hy : ev L y = some u) (hz : ev L z = some v) {r : Value} (hr : (if b then u else v) = r) : OV P C L H ⟨d, .pick x y z, ty, p, e, g⟩ r := fun a w hf _ => by
  subst hr; cases b <;> simp [execOp, hf.ev hc, hf.ev hy, hf.ev hz, asBool]
/-- A pick whose one arm holds nothing that counts. -/
theorem OV.pickT (hc : ev L x = some (.bool true)) (hy : ev L y = some u) : OV P C L H ⟨d, .pick x y z, ty, p, e, g⟩ u := fun a w hf _ => by simp [execOp, hf.ev hc, hf.ev hy, asBool]
theorem OV.pickF (hc : ev L x = some (.bool false)) (hz : ev L z = some v) : OV P C L H ⟨d, .pick x y z, ty, p, e, g⟩ v := fun a w hf _ => by simp [execOp, hf.ev hc, hf.ev hz, asBool]
theorem OV.not {b : Bool} (hx : ev L x = some (.bool b)) : OV P C L H ⟨d, .unOp .not t x, ty, p, e, g⟩ (.bool (!b)) := fun a w hf _ => by simp [execOp, hf.ev hx, Op.unary]
theorem OV.neg (hx : ev L x = some (.int k n)) (hb : k.wrap (-n) = -n) : OV P C L H ⟨d, .unOp .neg t x, ty, p, e, g⟩ (.int k (-n)) := fun a w hf _ => by simp [execOp, hf.ev hx, Op.unary, Op.intArith, hb]
def I64 (n : Int) : Prop := -9223372036854775808 ≤ n ∧ n ≤ 9223372036854775807
theorem I64.wrap {n : Int} (h : I64 n) : IntKind.i64.wrap n = n := IntWalk.i64_in _ ⟨by have := h.1; omega, by have := h.2; omega⟩
theorem OV.add (hx : ev L x = some (.int .i64 n)) (hy : ev L y = some (.int .i64 m)) (hb : I64 (n + m)) : OV P C L H ⟨d, .binOp .add t x y t', ty, p, e, g⟩ (.int .i64 (n + m)) := fun a w hf _ => by
  simp [execOp, hf.ev hx, hf.ev hy, eqGuard, binOp, Op.intArith, hb.wrap]
theorem OV.sub (hx : ev L x = some (.int .i64 n)) (hy : ev L y = some (.int .i64 m)) (hb : I64 (n - m)) : OV P C L H ⟨d, .binOp .sub t x y t', ty, p, e, g⟩ (.int .i64 (n - m)) := fun a w hf _ => by
  simp [execOp, hf.ev hx, hf.ev hy, eqGuard, binOp, Op.intArith, hb.wrap]
theorem OV.mul (hx : ev L x = some (.int .i64 n)) (hy : ev L y = some (.int .i64 m)) (hb : I64 (n * m)) : OV P C L H ⟨d, .binOp .mul t x y t', ty, p, e, g⟩ (.int .i64 (n * m)) := fun a w hf _ => by
  simp [execOp, hf.ev hx, hf.ev hy, eqGuard, binOp, Op.intArith, hb.wrap]
/-- Kinds whose sums may wrap. -/
theorem OV.addW (hx : ev L x = some (.int k n)) (hy : ev L y = some (.int k m)) : OV P C L H ⟨d, .binOp .add t x y t', ty, p, e, g⟩ (.int k (k.wrap (n + m))) := fun a w hf _ => by
  simp [execOp, hf.ev hx, hf.ev hy, eqGuard, binOp, Op.intArith]
theorem OV.subW (hx : ev L x = some (.int k n)) (hy : ev L y = some (.int k m)) : OV P C L H ⟨d, .binOp .sub t x y t', ty, p, e, g⟩ (.int k (k.wrap (n - m))) := fun a w hf _ => by
  simp [execOp, hf.ev hx, hf.ev hy, eqGuard, binOp, Op.intArith]
theorem OV.mulW (hx : ev L x = some (.int k n)) (hy : ev L y = some (.int k m)) : OV P C L H ⟨d, .binOp .mul t x y t', ty, p, e, g⟩ (.int k (k.wrap (n * m))) := fun a w hf _ => by
  simp [execOp, hf.ev hx, hf.ev hy, eqGuard, binOp, Op.intArith]
theorem OV.quo (hx : ev L x = some (.int .i64 n)) (hy : ev L y = some (.int .i64 m)) (hb : 0 ≤ n ∧ n ≤ 9223372036854775807 ∧ 0 < m) : OV P C L H ⟨d, .binOp .quo t x y t', ty, p, e, g⟩ (.int .i64 (n / m)) := fun a w hf _ => by
  have e1 : n.tdiv m = n / m := Int.tdiv_eq_ediv_of_nonneg hb.1
  have h2 : 0 ≤ n / m := Int.ediv_nonneg hb.1 (by omega)
  have h3 : n / m ≤ n := Int.ediv_le_self m hb.1
  have e2 : IntKind.i64.wrap (n / m) = n / m := I64.wrap ⟨by omega, by omega⟩
  have hm : ¬ m = 0 := by omega
  simp [execOp, hf.ev hx, hf.ev hy, eqGuard, binOp, Op.intDiv, e1, e2, hm]
theorem OV.rem (hx : ev L x = some (.int k n)) (hy : ev L y = some (.int k m)) (hb : 0 ≤ n ∧ 0 < m) : OV P C L H ⟨d, .binOp .rem t x y t', ty, p, e, g⟩ (.int k (n % m)) := fun a w hf _ => by
  have e1 : n.tmod m = n % m := Int.tmod_eq_emod_of_nonneg hb.1
  have hm : ¬ m = 0 := by omega
  simp [execOp, hf.ev hx, hf.ev hy, eqGuard, binOp, Op.intDiv, e1, hm]
theorem OV.lss (hx : ev L x = some (.int k n)) (hy : ev L y = some (.int k m)) : OV P C L H ⟨d, .binOp .lss t x y t', ty, p, e, g⟩ (.bool (decide (n < m))) := fun a w hf _ => by
  simp [execOp, hf.ev hx, hf.ev hy, eqGuard, binOp, Op.intCmp]
theorem OV.leq (hx : ev L x = some (.int k n)) (hy : ev L y = some (.int k m)) : OV P C L H ⟨d, .binOp .leq t x y t', ty, p, e, g⟩ (.bool (decide (n ≤ m))) := fun a w hf _ => by
  simp [execOp, hf.ev hx, hf.ev hy, eqGuard, binOp, Op.intCmp]
theorem OV.gtr (hx : ev L x = some (.int k n)) (hy : ev L y = some (.int k m)) : OV P C L H ⟨d, .binOp .gtr t x y t', ty, p, e, g⟩ (.bool (decide (m < n))) := fun a w hf _ => by
  simp [execOp, hf.ev hx, hf.ev hy, eqGuard, binOp, Op.intCmp]
theorem OV.geq (hx : ev L x = some (.int k n)) (hy : ev L y = some (.int k m)) : OV P C L H ⟨d, .binOp .geq t x y t', ty, p, e, g⟩ (.bool (decide (m ≤ n))) := fun a w hf _ => by
  simp [execOp, hf.ev hx, hf.ev hy, eqGuard, binOp, Op.intCmp]
theorem OV.eql (hx : ev L x = some (.int k n)) (hy : ev L y = some (.int k m)) : OV P C L H ⟨d, .binOp .eql t x y t', ty, p, e, g⟩ (.bool (decide (n = m))) := fun a w hf _ => by
  have : (n == m) = decide (n = m) := by rw [Bool.eq_iff_iff]; simp
  simp [execOp, hf.ev hx, hf.ev hy, eqGuard, binOp, Op.intCmp, this]
theorem OV.neq (hx : ev L x = some (.int k n)) (hy : ev L y = some (.int k m)) : OV P C L H ⟨d, .binOp .neq t x y t', ty, p, e, g⟩ (.bool (!decide (n = m))) := fun a w hf _ => by
  have : (n != m) = !decide (n = m) := by rw [Bool.eq_iff_iff]; simp
  simp [execOp, hf.ev hx, hf.ev hy, eqGuard, binOp, Op.intCmp, this]
theorem run_under {t : TypeId} {dd : TypeDesc} (h : P.underlying t = some dd) (w : World) : (underlying t).run P w = .ok dd w := run_underlying h w
theorem run_eqB {t : TypeId} {b c : Bool} (ht : P.underlying t = some .bool) (w : World) : (Op.equal t (.bool b) (.bool c)).run P w = .ok (b == c) w := by
  unfold Op.equal Op.maxDepth Op.equalIn
  rw [Sem.run_bind, run_under ht]; rfl
theorem OV.eqlB {b c : Bool} (hx : ev L x = some (.bool b)) (hy : ev L y = some (.bool c)) (ht : P.underlying t = some .bool) : OV P C L H ⟨d, .binOp .eql t x y t', ty, p, e, g⟩ (.bool (b == c)) := fun a w hf _ => by
  have h : binOp .eql t (.bool b) (.bool c) = (do pure (.bool (← Op.equal t (.bool b) (.bool c)))) := rfl
  simp only [execOp, hf.ev hx, hf.ev hy, eqGuard_at_bool, h, Sem.run_bind, Sem.run_pure, Result.andThen_ok, run_eqB ht]
theorem OV.neqB {b c : Bool} (hx : ev L x = some (.bool b)) (hy : ev L y = some (.bool c)) (ht : P.underlying t = some .bool) : OV P C L H ⟨d, .binOp .neq t x y t', ty, p, e, g⟩ (.bool (!(b == c))) := fun a w hf _ => by
  have h : binOp .neq t (.bool b) (.bool c) = (do pure (.bool (!(← Op.equal t (.bool b) (.bool c))))) := rfl
  simp only [execOp, hf.ev hx, hf.ev hy, eqGuard_at_bool, h, Sem.run_bind, Sem.run_pure, Result.andThen_ok, run_eqB ht]
theorem run_conv {t t' : TypeId} {k k' : IntKind} {n : Int} (hs : (P.underlying t).isSome = true) (ht : P.underlying t' = some (.int k)) (w : World) : (convert t t' (.int k' n)).run P w = .ok (.int k (k.wrap n)) w := by
  obtain ⟨ds, hd⟩ := Option.isSome_iff_exists.1 hs
  unfold convert
  rw [Sem.run_bind, run_under hd, Result.andThen_ok, Sem.run_bind, run_under ht, Result.andThen_ok]
  rfl
theorem OV.conv (hx : ev L x = some (.int k' n)) (hs : (P.underlying t).isSome = true) (ht : P.underlying t' = some (.int k)) : OV P C L H ⟨d, .convert t t' x, ty, p, e, g⟩ (.int k (k.wrap n)) := fun a w hf _ => by
  simp [execOp, hf.ev hx, run_conv hs ht]
theorem OV.conv64 (hx : ev L x = some (.int k' n)) (hs : (P.underlying t).isSome = true) (ht : P.underlying t' = some (.int .i64)) (hb : I64 n) : OV P C L H ⟨d, .convert t t' x, ty, p, e, g⟩ (.int .i64 n) := fun a w hf _ => by
  simp [execOp, hf.ev hx, run_conv hs ht, hb.wrap]
theorem OV.extract {vs : Array Value} (i : Nat) (hx : ev L x = some (.tuple vs)) (hi : vs[i]? = some v) : OV P C L H ⟨d, .extract x i, ty, p, e, g⟩ v := fun a w hf _ => by
  simp [execOp, hf.ev hx, Instr.extract, hi]
theorem OV.nilCheck {ad : Addr} (hx : ev L x = some (.pointer (some ad))) : OV P C L H ⟨d, .nilCheck x, ty, p, e, g⟩ (.pointer (some ad)) := fun a w hf _ => by
  simp [execOp, hf.ev hx]
theorem OV.iface (hx : ev L x = some v) (ht : P.concrete t = true) : OV P C L H ⟨d, .makeInterface t x, ty, p, e, g⟩ (.iface t v) := fun a w hf _ => by
  simp [execOp, hf.ev hx, run_makeInterface w t v ht]
end ov
end Go.Proofs.YtlfolgbaageknaaDoor
