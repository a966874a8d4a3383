/-
  Merged: RxP, RxQ.
-/
import Derived.Test.YtffhedoahdgniaaDoorPt9
set_option maxRecDepth 100000
namespace Go.Proofs.YtffhedoahdgniaaDoor
open Go Go.RowKit
theorem d9 : m5 Tryd.prog 42 1 = some 1 := by kernel_rfl
theorem ac9 : m5 Tryd.prog 42 0 = some 0 := by kernel_rfl
theorem aa9 : r8 Tryd.prog 11 = true := by kernel_rfl
theorem aat : r8 Tryd.prog 27 = true := by kernel_rfl
theorem ac3 : r8 Tryd.prog 12 = true := by kernel_rfl
theorem apb : r8 Tryd.prog 66 = true := by kernel_rfl
theorem aw5 : r8 Tryd.prog 67 = true := by kernel_rfl
theorem awk : r8 Tryd.prog 62 = true := by kernel_rfl
abbrev scB (b : Nat) (t : List UInt8) (i : Int) (v : Value) : HA := .blk b (.cells [st t, .int .i64 i, v].toArray 42 (0, 0))
def aqy (t : List UInt8) (i : Int) (B B' : List (Nat × Obj)) (sa : Int) (a : Value) (j n : Int) (u : Value) : Prop :=
 ac2 B B' ∧ abl n u ∧ i < j ∧ j ≤ t.length ∧ ∀ x, Is B sa a x → ∃ y, z7 t x i = .ok (y, j) ∧ Is B' n u y
def aq1 (t : List UInt8) (i : Int) (B : List (Nat × Obj)) (sa : Int) (a : Value) (c p : Int) : Prop := ∀ x, Is B sa a x → z7 t x i = .error (c, p)
def a1l (t : List UInt8) (i : Int) (B B' : List (Nat × Obj)) (sa : Int) (a : Value) (j n : Int) (u : Value) : Prop :=
 ac2 B B' ∧ abl n u ∧ i ≤ j ∧ j ≤ t.length ∧ ∀ x, Is B sa a x → ∃ y, RP t x i (.ok (y, j)) ∧ Is B' n u y
def a1z (t : List UInt8) (i : Int) (B : List (Nat × Obj)) (sa : Int) (a : Value) (c p : Int) : Prop := ∀ x, Is B sa a x → RP t x i (.error (c, p))
def ar7 (s_0 : List UInt8) (s_1 : Int) (_ : Value) (K : Bool → Prop) : Prop :=
 K (decide ((s_0.length : Int) ≤ s_1))
theorem azo (b : Nat) (s_0 : List UInt8) (s_1 : Int) (s_2 : Value) (K : Bool → Prop) (h : ar7 s_0 s_1 s_2 K) :
  d5 Tryd.prog 11 [zP b] [(b, .cells [st s_0, zI s_1, s_2].toArray 42 (0, 0))] [] (fun o => (∃ (v : Bool), K v ∧ o = .ret (zB v) []) ∨ (False)) := by
 unfold ar7 at h
 refine c8 (n := 13) (L0 := [(0, zP b)]) Tryd.func11 rfl rfl rfl rfl (fun w0 M Q hE => ?_)
 refine a6 (fun _ hK => ?_)
 refine a4 ?_
 refine wa ?_
 refine WL.nil ?_
 refine kg (hK [(0, zP b)] _ ?_)
 refine a6 (fun _ hK_1' => ?_)
 refine q9 9 [] g8 (by kernel_rfl) rfl (fun T hT => ?_)
 refine fv (fun _ => OV.move rfl) ?_
 refine fv (fun _ => OV.nilCheck rfl) ?_
 refine fv (fun _ => OV.fieldAddr0 rfl d9) ?_
 refine fv (fun _ => OV.load rfl (At.ro 0 rfl) rfl b5) ?_
 refine fv (fun _ => OV.move rfl) ?_
 refine fv (fun _ => OV.nilCheck rfl) ?_
 refine fv (fun _ => OV.fieldAddr0 rfl ac9) ?_
 refine fv (fun _ => OV.load rfl (At.ro 0 rfl) rfl w6) ?_
 refine fv (fun _ => OV.len rfl j7) ?_
 refine FL.weak (L' := fun γ => [(6, zI s_1), (11, zI (s_0.length : Int))]) (fun γ => ⟨rfl, rfl, trivial⟩) (FL.nil (hT (fun γ => [(6, zI s_1), (11, zI (s_0.length : Int))]) (fun γ => ?_)))
 refine wv (OV.geq rfl rfl) ?_
 refine wa ?_
 refine WL.nil ?_
 refine kg (hK_1' [(2, zB (decide ((s_0.length : Int) ≤ s_1)))] _ ?_)
 refine c9 ?_
 exact hE.ret [] rfl rfl (.inl ⟨_, h, rfl⟩) (f9.of1 rfl (RV.tmp rfl))
def ap9 (s_0 : List UInt8) (s_1 : Int) (_ : Value) (K : Int → Prop) : Prop :=
 (if (decide (s_1 < (s_0.length : Int))) = true then
  (0 ≤ s_1 ∧ s_1 < s_0.length) ∧
  K ((s_0.getD s_1.toNat 0).toNat : Int)
 else
  K 0)
theorem a00 (b : Nat) (s_0 : List UInt8) (s_1 : Int) (s_2 : Value) (K : Int → Prop) (h : ap9 s_0 s_1 s_2 K) :
  d5 Tryd.prog 27 [zP b] [(b, .cells [st s_0, zI s_1, s_2].toArray 42 (0, 0))] [] (fun o => (∃ (v : Int), K v ∧ o = .ret (zU v) []) ∨ (False)) := by
 unfold ap9 at h
 refine c8 (n := 22) (L0 := [(0, zP b)]) Tryd.func27 rfl rfl rfl rfl (fun w0 M Q hE => ?_)
 refine a6 (fun _ hK => ?_)
 refine a4 ?_
 refine wa ?_
 refine WL.nil ?_
 refine kg (hK [(0, zP b)] _ ?_)
 refine a6 (fun _ hK_1' => ?_)
 refine a6 (fun _ hK_2' => ?_)
 refine q9 9 [] g8 (by kernel_rfl) rfl (fun T hT => ?_)
 refine fv (fun _ => OV.move rfl) ?_
 refine fv (fun _ => OV.nilCheck rfl) ?_
 refine fv (fun _ => OV.fieldAddr0 rfl d9) ?_
 refine fv (fun _ => OV.load rfl (At.ro 0 rfl) rfl b5) ?_
 refine fv (fun _ => OV.move rfl) ?_
 refine fv (fun _ => OV.nilCheck rfl) ?_
 refine fv (fun _ => OV.fieldAddr0 rfl ac9) ?_
 refine fv (fun _ => OV.load rfl (At.ro 0 rfl) rfl w6) ?_
 refine fv (fun _ => OV.len rfl j7) ?_
 refine FL.weak (L' := fun γ => [(0, zP b), (6, zI s_1), (11, zI (s_0.length : Int))]) (fun γ => ⟨rfl, rfl, rfl, trivial⟩) (FL.nil (hT (fun γ => [(0, zP b), (6, zI s_1), (11, zI (s_0.length : Int))]) (fun γ => ?_)))
 refine wv (OV.lss rfl rfl) ?_
 refine WL.nil ?_
 refine kg (hK_2' [(0, zP b), (12, zB (decide (s_1 < (s_0.length : Int))))] _ ?_)
 refine b6 (b := decide (s_1 < (s_0.length : Int))) rfl (fun hb => ?_) (fun hb => ?_)
 ·replace h := j4 h hb
  refine a6 (fun _ hK_3' => ?_)
  refine q9 8 [] g8 (by kernel_rfl) rfl (fun T_1' hT_1' => ?_)
  refine fv (fun _ => OV.move rfl) ?_
  refine fv (fun _ => OV.nilCheck rfl) ?_
  refine fv (fun _ => OV.fieldAddr0 rfl ac9) ?_
  refine fv (fun _ => OV.load rfl (At.ro 0 rfl) rfl w6) ?_
  refine fv (fun _ => OV.move rfl) ?_
  refine fv (fun _ => OV.nilCheck rfl) ?_
  refine fv (fun _ => OV.fieldAddr0 rfl d9) ?_
  refine fv (fun _ => OV.load rfl (At.ro 0 rfl) rfl b5) ?_
  refine FL.weak (L' := fun γ => [(16, st s_0), (20, zI s_1)]) (fun γ => ⟨rfl, rfl, trivial⟩) (FL.nil (hT_1' (fun γ => [(16, st s_0), (20, zI s_1)]) (fun γ => ?_)))
  obtain ⟨o, h⟩ := h
  refine wv (OV.index rfl rfl j7 o) ?_
  refine wa ?_
  refine WL.nil ?_
  refine kg (hK_3' [(2, zU ((s_0.getD s_1.toNat 0).toNat : Int))] _ ?_)
  refine c9 ?_
  exact hE.ret [] rfl rfl (.inl ⟨_, h, rfl⟩) (f9.of1 rfl (RV.tmp rfl))
 ·replace h := j5 h hb
  refine b7 ?_
  refine KX.go (hK_1' [] _ ?_) trivial
  refine a6 (fun _ hK_4' => ?_)
  refine a4 ?_
  refine wa ?_
  refine WL.nil ?_
  refine kg (hK_4' [(2, zU 0)] _ ?_)
  refine c9 ?_
  exact hE.ret [] rfl rfl (.inl ⟨_, h, rfl⟩) (f9.of1 rfl (RV.tmp rfl))
def asj (_ : Value) (code : Int) (at0 : Int) (_ : Prop) (KP : Value → Prop) : Prop :=
 KP (Value.iface 26 (Value.agg [zI code, zI at0, st []].toArray))
theorem aym  (s : Value) (code : Int) (at0 : Int) (K : Prop) (KP : Value → Prop) (h : asj s code at0 K KP) :
  d5 Tryd.prog 12 [s, zI code, zI at0] [] [] (fun o => (K ∧ o = .ret (Value.tuple #[]) []) ∨ (∃ (pv : Value), KP pv ∧ o = .pan [{ v := pv, recovered := false }] [])) := by
 unfold asj at h
 refine c8 (n := 10) (L0 := [(0, s), (1, zI code), (2, zI at0)]) Tryd.func12 rfl rfl rfl rfl (fun w0 M Q hE => ?_)
 refine a4 ?_
 refine wm ?_
 refine wm ?_
 refine wv (OV.build rfl (cs := [zI code, zI at0, st []]) rfl) ?_
 refine wv (OV.iface rfl aiu) ?_
 refine WL.panic rfl rfl ?_
 exact hE.pan [] rfl rfl (.inr ⟨_, h, rfl⟩)
theorem aar (b : Nat) (t : List UInt8) (i : Int) (w : Value) : d5 Tryd.prog 11 [.pointer (some ⟨b, 0, none⟩)] [(b, .cells [st t, .int .i64 i, w].toArray 42 (0, 0))] [] (Ret (.bool (decide ((t.length : Int) ≤ i))) []) :=
 d5.one (azo b t i w (fun v => v = decide ((t.length : Int) ≤ i)) rfl)
theorem aax (b : Nat) (t : List UInt8) (i : Int) (w : Value) (h : 0 ≤ i) : d5 Tryd.prog 27 [.pointer (some ⟨b, 0, none⟩)] [(b, .cells [st t, .int .i64 i, w].toArray 42 (0, 0))] [] (Ret (.int .u8 (nx t i)) []) :=
 d5.one (a00 b t i w (fun v => v = nx t i) (by
  unfold ap9
  by_cases h1 : i < t.length
  ·rw [if_pos (by simpa using h1)]; exact ⟨⟨h, h1⟩, rfl⟩
  ·rw [if_neg (by simpa using h1)]; exact (a1u (by omega)).symm))
theorem acg (s : Value) (c p : Int) : d5 Tryd.prog 12 [s, .int .i64 c, .int .i64 p] [] [] (fun o => o = .pan [{ v := o3 c p, recovered := false }] []) := by
 refine (aym s c p False (fun v => v = o3 c p) rfl).weak ?_
 rintro o (⟨h, _⟩ | ⟨v, rfl, rfl⟩)
 ·exact h.elim
 ·rfl
def ao0 (s_0 : List UInt8) (s_1 : Int) (s_2 : Value) (K : Int → (List UInt8) → Int → Value → Prop) (KP : Value → (List UInt8) → Int → Value → Prop) : Prop :=
 ∃ (Inv : Int → Int → Prop) (mu : Int → Int → Nat),
  Inv 0 s_1 ∧ ∀ (n_1' : Int) (s_1_2' : Int), Inv n_1' s_1_2' →
   ((!(decide ((s_0.length : Int) ≤ s_1_2'))) = true → (I64 (s_1 + 3))) ∧
   (((!(decide ((s_0.length : Int) ≤ s_1_2'))) && (decide (s_1_2' < s_1 + 3))) = true → (0 ≤ s_1_2')) ∧
   ((((!(decide ((s_0.length : Int) ≤ s_1_2'))) && (decide (s_1_2' < s_1 + 3))) && (decide (48 ≤ nx s_0 s_1_2'))) = true → (0 ≤ s_1_2')) ∧
   (if ((((!(decide ((s_0.length : Int) ≤ s_1_2'))) && (decide (s_1_2' < s_1 + 3))) && (decide (48 ≤ nx s_0 s_1_2'))) && (decide (nx s_0 s_1_2' ≤ 57))) = true then
    (I64 (10 * n_1')) ∧
    (0 ≤ s_1_2') ∧
    (I64 (IntKind.wrap .u8 ((nx s_0 s_1_2') - 48))) ∧
    (I64 ((10 * n_1') + (IntKind.wrap .u8 ((nx s_0 s_1_2') - 48)))) ∧
    (I64 (s_1_2' + 1)) ∧
    Inv ((10 * n_1') + (IntKind.wrap .u8 ((nx s_0 s_1_2') - 48))) (s_1_2' + 1) ∧ mu ((10 * n_1') + (IntKind.wrap .u8 ((nx s_0 s_1_2') - 48))) (s_1_2' + 1) < mu n_1' s_1_2'
   else
    (if (decide (s_1_2' = s_1)) = true then
     KP (o3 20 s_1_2') s_0 s_1_2' s_2
    else
     K n_1' s_0 s_1_2' s_2))
theorem av2 (b : Nat) (s_0 : List UInt8) (s_1 : Int) (s_2 : Value) (K : Int → (List UInt8) → Int → Value → Prop) (KP : Value → (List UInt8) → Int → Value → Prop) (h : ao0 s_0 s_1 s_2 K KP) :
  d5 Tryd.prog 66 [zP b] [] [HA.blk b (.cells [st s_0, zI s_1, s_2].toArray 42 (0, 0))] (fun o => (∃ (v : Int) (d_0 : List UInt8) (d_1 : Int) (d_2 : Value), K v d_0 d_1 d_2 ∧ o = .ret (zI v) [HA.blk b (.cells [st d_0, zI d_1, d_2].toArray 42 (0, 0))]) ∨ (∃ (pv : Value) (d_0 : List UInt8) (d_1 : Int) (d_2 : Value), KP pv d_0 d_1 d_2 ∧ o = .pan [{ v := pv, recovered := false }] [HA.blk b (.cells [st d_0, zI d_1, d_2].toArray 42 (0, 0))])) := by
 unfold ao0 at h
 refine c8 (n := 58) (L0 := [(0, zP b)]) Tryd.func66 rfl rfl rfl rfl (fun w0 M Q hE => ?_)
 refine a6 (fun _ hK => ?_)
 refine a4 ?_
 refine wa ?_
 refine WL.nil ?_
 refine kg (hK [(0, zP b)] _ ?_)
 refine a6 (fun _ hK_1' => ?_)
 refine q9 5 [] g8 (by kernel_rfl) rfl (fun T hT => ?_)
 refine fv (fun _ => OV.move rfl) ?_
 refine fv (fun _ => OV.nilCheck rfl) ?_
 refine fv (fun _ => OV.fieldAddr0 rfl d9) ?_
 refine fv (fun _ => OV.load rfl (At.own 0 rfl) rfl b5) ?_
 refine fv (fun _ => OV.assign rfl) ?_
 refine FL.weak (L' := fun γ => [(0, zP b), (3, zI 0), (8, zI s_1)]) (fun γ => ⟨rfl, rfl, rfl, trivial⟩) (FL.nil (hT (fun γ => [(0, zP b), (3, zI 0), (8, zI s_1)]) (fun γ => ?_)))
 refine wa ?_
 refine WL.nil ?_
 refine kg (hK_1' [(0, zP b), (3, zI 0), (4, zI s_1)] _ ?_)
 refine a6 (fun _ hK_2' => ?_)
 refine d6 ?_
 obtain ⟨Inv, mu, h0, hr⟩ := h
 refine w9 (S := Int × Int) (fun σ => Inv σ.1 σ.2) (fun σ => mu σ.1 σ.2) (fun σ => [(0, zP b), (3, zI σ.1), (4, zI s_1)]) (fun σ => [HA.blk b (.cells [st s_0, zI σ.2, s_2].toArray 42 (0, 0))]) (0, s_1) h0 ⟨rfl, rfl, rfl, trivial⟩ rfl ?_
 rintro ⟨n_1', s_1_2'⟩ hi K0_15' hK_15'
 have h := hr n_1' s_1_2' hi
 show WC _ _ _ _ [(0, zP b), (3, zI n_1'), (4, zI s_1)] [HA.blk b (.cells [st s_0, zI s_1_2', s_2].toArray 42 (0, 0))]
 refine a6 (fun _ hK_16' => ?_)
 refine a6 (fun _ hK_17' => ?_)
 refine a4 ?_
 refine wm ?_
 refine WL.call (A := []) aa9 rfl (aar b s_0 s_1_2' s_2) rfl ⟨.inl ⟨0, rfl⟩, trivial⟩ rfl rfl ?_
 refine wv (OV.not rfl) ?_
 refine wm ?_
 obtain ⟨o_22', h⟩ := h
 refine WL.cut 8 [(0, zP b), (3, zI n_1'), (4, zI s_1), (20, zB ((!(decide ((s_0.length : Int) ≤ s_1_2'))) && (decide (s_1_2' < s_1 + 3))))] ?_ (fun K0_18' hK_18' => ?_)
 rotate_left
 ·refine WL.split (!(decide ((s_0.length : Int) ≤ s_1_2'))) (fun hb => ?_) (fun hb => ?_)
  ·have o_21' := o_22' hb
   refine WL.set 12 rfl (congrArg zB hb) ?_
   refine wm ?_
   refine wv (OV.nilCheck rfl) ?_
   refine wv (OV.fieldAddr0 rfl d9) ?_
   refine wv (OV.load rfl (At.own 0 rfl) rfl b5) ?_
   refine wm ?_
   refine wv (OV.add rfl rfl o_21') ?_
   refine wv (OV.lss rfl rfl) ?_
   refine wv (OV.pickT rfl rfl) ?_
   refine WL.set 20 rfl (bT (v := decide (s_1_2' < s_1 + 3)) hb) ?_
   exact WL.end_ (kg hK_18')
  ·refine WL.set 12 rfl (congrArg zB hb) ?_
   refine wk ?_
   refine wk ?_
   refine wk ?_
   refine wk ?_
   refine wk ?_
   refine wk ?_
   refine wk ?_
   refine wv (OV.pickF rfl rfl) ?_
   refine WL.set 20 rfl (bF (v := decide (s_1_2' < s_1 + 3)) hb) ?_
   exact WL.end_ (kg hK_18')
 refine wm ?_
 obtain ⟨o_24', h⟩ := h
 refine WL.cut 4 [(0, zP b), (3, zI n_1'), (4, zI s_1), (25, zB (((!(decide ((s_0.length : Int) ≤ s_1_2'))) && (decide (s_1_2' < s_1 + 3))) && (decide (48 ≤ nx s_0 s_1_2'))))] ?_ (fun K0_19' hK_19' => ?_)
 rotate_left
 ·refine WL.split ((!(decide ((s_0.length : Int) ≤ s_1_2'))) && (decide (s_1_2' < s_1 + 3))) (fun hb => ?_) (fun hb => ?_)
  ·have o_23' := o_24' hb
   refine WL.set 21 rfl (congrArg zB hb) ?_
   refine wm ?_
   refine WL.call (A := []) aat rfl (aax b s_0 s_1_2' s_2 o_23') rfl ⟨.inl ⟨0, rfl⟩, trivial⟩ rfl rfl ?_
   refine wv (OV.geq rfl rfl) ?_
   refine wv (OV.pickT rfl rfl) ?_
   refine WL.set 25 rfl (bT (v := decide (48 ≤ nx s_0 s_1_2')) hb) ?_
   exact WL.end_ (kg hK_19')
  ·refine WL.set 21 rfl (congrArg zB hb) ?_
   refine wk ?_
   refine wk ?_
   refine wk ?_
   refine wv (OV.pickF rfl rfl) ?_
   refine WL.set 25 rfl (bF (v := decide (48 ≤ nx s_0 s_1_2')) hb) ?_
   exact WL.end_ (kg hK_19')
 refine wm ?_
 obtain ⟨o_26', h⟩ := h
 refine WL.cut 4 [(0, zP b), (3, zI n_1'), (4, zI s_1), (30, zB ((((!(decide ((s_0.length : Int) ≤ s_1_2'))) && (decide (s_1_2' < s_1 + 3))) && (decide (48 ≤ nx s_0 s_1_2'))) && (decide (nx s_0 s_1_2' ≤ 57))))] ?_ (fun K0_20' hK_20' => ?_)
 rotate_left
 ·refine WL.split (((!(decide ((s_0.length : Int) ≤ s_1_2'))) && (decide (s_1_2' < s_1 + 3))) && (decide (48 ≤ nx s_0 s_1_2'))) (fun hb => ?_) (fun hb => ?_)
  ·have o_25' := o_26' hb
   refine WL.set 26 rfl (congrArg zB hb) ?_
   refine wm ?_
   refine WL.call (A := []) aat rfl (aax b s_0 s_1_2' s_2 o_25') rfl ⟨.inl ⟨0, rfl⟩, trivial⟩ rfl rfl ?_
   refine wv (OV.leq rfl rfl) ?_
   refine wv (OV.pickT rfl rfl) ?_
   refine WL.set 30 rfl (bT (v := decide (nx s_0 s_1_2' ≤ 57)) hb) ?_
   exact WL.end_ (kg hK_20')
  ·refine WL.set 26 rfl (congrArg zB hb) ?_
   refine wk ?_
   refine wk ?_
   refine wk ?_
   refine wv (OV.pickF rfl rfl) ?_
   refine WL.set 30 rfl (bF (v := decide (nx s_0 s_1_2' ≤ 57)) hb) ?_
   exact WL.end_ (kg hK_20')
 refine WL.nil ?_
 refine kg (hK_17' [(0, zP b), (3, zI n_1'), (4, zI s_1), (30, zB ((((!(decide ((s_0.length : Int) ≤ s_1_2'))) && (decide (s_1_2' < s_1 + 3))) && (decide (48 ≤ nx s_0 s_1_2'))) && (decide (nx s_0 s_1_2' ≤ 57))))] _ ?_)
 refine b6 (b := (((!(decide ((s_0.length : Int) ≤ s_1_2'))) && (decide (s_1_2' < s_1 + 3))) && (decide (48 ≤ nx s_0 s_1_2'))) && (decide (nx s_0 s_1_2' ≤ 57))) rfl (fun hb => ?_) (fun hb => ?_)
 ·replace h := j4 h hb
  refine b7 ?_
  refine kg (hK_16' [(0, zP b), (3, zI n_1'), (4, zI s_1)] _ ?_)
  refine d6 ?_
  refine a6 (fun _ hK_21' => ?_)
  refine a4 ?_
  refine wm ?_
  obtain ⟨o_27', h⟩ := h
  refine wv (OV.mul rfl rfl o_27') ?_
  refine wm ?_
  obtain ⟨o_28', h⟩ := h
  refine WL.call (A := []) aat rfl (aax b s_0 s_1_2' s_2 o_28') rfl ⟨.inl ⟨0, rfl⟩, trivial⟩ rfl rfl ?_
  refine wv (OV.subW rfl rfl) ?_
  obtain ⟨o_29', h⟩ := h
  refine wv (OV.conv64 rfl ack Tryd.underlying3 o_29') ?_
  obtain ⟨o_30', h⟩ := h
  refine wv (OV.add rfl rfl o_30') ?_
  refine wa ?_
  refine WL.nil ?_
  refine kg (hK_21' [(0, zP b), (3, zI ((10 * n_1') + (IntKind.wrap .u8 ((nx s_0 s_1_2') - 48)))), (4, zI s_1)] _ ?_)
  refine a4 ?_
  refine wm ?_
  refine wv (OV.nilCheck rfl) ?_
  refine wv (OV.fieldAddr0 rfl d9) ?_
  refine wv (OV.load rfl (At.own 0 rfl) rfl b5) ?_
  obtain ⟨o_31', h⟩ := h
  refine wv (OV.add rfl rfl o_31') ?_
  refine wv (OV.nilCheck rfl) ?_
  refine wv (OV.fieldAddr0 rfl d9) ?_
  refine WL.store (vs := [zI (s_1_2' + 1)]) (cs' := [st s_0, zI (s_1_2' + 1), s_2]) 0 rfl rfl rfl rfl g9 (Nat.le_of_ble_eq_true rfl) rfl rfl rfl ?_
  refine WL.nil ?_
  exact kh (hK_15' ((10 * n_1') + (IntKind.wrap .u8 ((nx s_0 s_1_2') - 48)), s_1_2' + 1) h.1 h.2) [0]
 ·replace h := j5 h hb
  refine s5 ?_
  refine kg (hK_2' [(0, zP b), (3, zI n_1'), (4, zI s_1)] _ ?_)
  refine a6 (fun _ hK_22' => ?_)
  refine a6 (fun _ hK_23' => ?_)
  refine a4 ?_
  refine wm ?_
  refine wv (OV.nilCheck rfl) ?_
  refine wv (OV.fieldAddr0 rfl d9) ?_
  refine wv (OV.load rfl (At.own 0 rfl) rfl b5) ?_
  refine wm ?_
  refine wv (OV.eql rfl rfl) ?_
  refine WL.nil ?_
  refine kg (hK_23' [(0, zP b), (3, zI n_1'), (50, zB (decide (s_1_2' = s_1)))] _ ?_)
  refine b6 (b := decide (s_1_2' = s_1)) rfl (fun hb => ?_) (fun hb => ?_)
  ·replace h := j4 h hb
   refine a4 ?_
   refine wm ?_
   refine wm ?_
   refine wv (OV.nilCheck rfl) ?_
   refine wv (OV.fieldAddr0 rfl d9) ?_
   refine wv (OV.load rfl (At.own 0 rfl) rfl b5) ?_
   refine WL.callS ac3 rfl (acg (zP b) 20 s_1_2') rfl trivial rfl rfl (fun r H' hS => by cases hS) (fun c H' hS => ?_)
   cases hS
   exact hE.pan [0] rfl rfl (.inr ⟨_, _, _, _, h, rfl⟩)
  ·replace h := j5 h hb
   refine b7 ?_
   refine kg (hK_22' [(3, zI n_1')] _ ?_)
   refine a6 (fun _ hK_24' => ?_)
   refine a4 ?_
   refine wm ?_
   refine wa ?_
   refine WL.nil ?_
   refine kg (hK_24' [(2, zI n_1')] _ ?_)
   refine c9 ?_
   exact hE.ret [0] rfl rfl (.inl ⟨_, _, _, _, h, rfl⟩) (f9.of1 rfl (RV.tmp rfl))
theorem ale (b : Nat) (t : List UInt8) (i : Int) (w : Value) (h : 0 ≤ i ∧ i ≤ (t.length : Int) ∧ t.length ≤ 1048576) : d5 Tryd.prog 66 [.pointer (some ⟨b, 0, none⟩)] [] [scB b t i w]
  (fun o => (∃ n q, acr t i = .ok (n, q) ∧ o = .ret (.int .i64 n) [scB b t q w]) ∨ (∃ c p q, acr t i = .error (c, p) ∧ o = .pan [{ v := o3 c p, recovered := false }] [scB b t q w])) := by
 obtain ⟨h0, h1, h2⟩ := h
 refine (av2 b t i w (fun n t' q w' => t' = t ∧ w' = w ∧ acr t i = .ok (n, q)) (fun v t' _ w' => t' = t ∧ w' = w ∧ ∃ c p, v = o3 c p ∧ acr t i = .error (c, p)) ?_).weak ?_
 ·refine ⟨fun n j => ∃ k : Nat, j = i + 3 - k ∧ j ≤ t.length ∧ 0 ≤ n ∧ (k = 3 ∧ n ≤ 0 ∨ k = 2 ∧ n ≤ 9 ∨ k = 1 ∧ n ≤ 99 ∨ k = 0 ∧ n ≤ 999) ∧ ael t 3 0 i = ael t k n j, fun _ j => (i + 3 - j).toNat, ⟨3, by omega, by omega, by omega, by omega, rfl⟩, ?_⟩
  rintro n j ⟨k, e1, e2, e3, e4, e5⟩
  have hb := az2 t j
  refine ⟨fun _ => by unfold I64; omega, fun _ => by omega, fun _ => by omega, ?_⟩
  by_cases hc : j < t.length ∧ j < i + 3 ∧ 48 ≤ nx t j ∧ nx t j ≤ 57
  ·rw [if_pos (by simp; omega)]
   obtain ⟨c1, c2, c3, c4⟩ := hc
   have hw : IntKind.wrap .u8 (nx t j - 48) = nx t j - 48 := IntWalk.u8_in _ (by omega)
   rw [hw]
   refine ⟨by unfold I64; omega, by omega, by unfold I64; omega, by unfold I64; omega, by unfold I64; omega, ⟨k - 1, by omega, by omega, by omega, by omega, ?_⟩, by show (i + 3 - (j + 1)).toNat < (i + 3 - j).toNat; omega⟩
   rw [e5]
   obtain ⟨k', rfl⟩ : ∃ k', k = k' + 1 := ⟨k - 1, by omega⟩
   rw [ael, if_pos ⟨c1, by simp [arj]; omega⟩]
   rfl
  ·rw [if_neg (by simp; omega)]
   have hN : ael t 3 0 i = (n, j) := by
    rw [e5]
    cases k with
    | zero => rfl
    | succ k' => rw [ael, if_neg (by simp only [arj, Bool.and_eq_true, decide_eq_true_eq]; omega)]
   by_cases hz : j = i
   ·rw [if_pos (by simpa using hz)]
    refine ⟨rfl, rfl, 20, j, rfl, ?_⟩
    unfold acr; rw [hN, if_pos hz, hz]
   ·rw [if_neg (by simpa using hz)]
    refine ⟨rfl, rfl, ?_⟩
    unfold acr; rw [hN, if_neg hz]
 ·rintro o (⟨n, t', q, w', ⟨rfl, rfl, hm⟩, rfl⟩ | ⟨v, t', q, w', ⟨rfl, rfl, c, p, rfl, hm⟩, rfl⟩)
  ·exact .inl ⟨n, q, hm, rfl⟩
  ·exact .inr ⟨c, p, q, hm, rfl⟩
def aj3 (s_0 : List UInt8) (s_1 : Int) (s_2 : Value) (a_0 : Int) (a_1 : Value) (B : List (Nat × Obj)) (K : Int → Value → (List UInt8) → Int → Value → (List (Nat × Obj)) → Prop) (KP : Value → (List UInt8) → Int → Value → (List (Nat × Obj)) → Prop) : Prop :=
 (I64 (s_1 + 1)) ∧
 (0 ≤ (s_1 + 1) ∧ (s_1 + 1) ≤ (s_0.length : Int) ∧ s_0.length ≤ 1048576) ∧
 (∀ (n : Int) (q : Int), acr s_0 (s_1 + 1) = .ok (n, q) →
  ∃ (J0 : Int → Int → Prop),
   (∀ (n_2' : Int) (s_1_1' : Int), J0 n_2' s_1_1' →
    ((decide ((s_0.length : Int) ≤ s_1_1')) = false → (0 ≤ s_1_1')) ∧
    (if ((decide ((s_0.length : Int) ≤ s_1_1')) || (!decide (nx s_0 s_1_1' = 125))) = true then
     KP (o3 20 s_1_1') s_0 s_1_1' s_2 B
    else
     (I64 (s_1_1' + 1)) ∧
     (if (((decide (255 < n)) || (decide (255 < n_2'))) || ((decide (0 ≤ n_2')) && (decide (n_2' < n)))) = true then
      KP (o3 22 s_1) s_0 (s_1_1' + 1) s_2 B
     else
      (abl a_0 a_1 ∧ 0 ≤ n ∧ n ≤ 255 ∧ n_2' ≤ 255 ∧ -1 ≤ n_2') ∧
      (∀ (sz : Int) (u : Value) (B_1' : List (Nat × Obj)), aub B B_1' a_0 a_1 n n_2' sz u →
       (u.oneCell' = true) ∧
       K sz u s_0 (s_1_1' + 1) s_2 B_1')))) ∧
   ((!(decide ((s_0.length : Int) ≤ q))) = true → (0 ≤ q)) ∧
   (if ((!(decide ((s_0.length : Int) ≤ q))) && (decide (nx s_0 q = 44))) = true then
    (I64 (q + 1)) ∧
    ((decide ((s_0.length : Int) ≤ q + 1)) = false → (0 ≤ (q + 1))) ∧
    (if ((decide ((s_0.length : Int) ≤ q + 1)) || (!decide (nx s_0 (q + 1) = 125))) = true then
     (0 ≤ (q + 1) ∧ (q + 1) ≤ (s_0.length : Int) ∧ s_0.length ≤ 1048576) ∧
     (∀ (n_3' : Int) (q_4' : Int), acr s_0 (q + 1) = .ok (n_3', q_4') →
      J0 n_3' q_4') ∧
     (∀ (c_2' : Int) (p_2' : Int) (q_5' : Int), acr s_0 (q + 1) = .error (c_2', p_2') →
      KP (o3 c_2' p_2') s_0 q_5' s_2 B)
    else
     J0 (-1) (q + 1))
   else
    J0 n q)) ∧
 (∀ (c : Int) (p : Int) (q_1' : Int), acr s_0 (s_1 + 1) = .error (c, p) →
  KP (o3 c p) s_0 q_1' s_2 B)
theorem aws (b : Nat) (s_0 : List UInt8) (s_1 : Int) (s_2 : Value) (a_0 : Int) (a_1 : Value) (B : List (Nat × Obj)) (K : Int → Value → (List UInt8) → Int → Value → (List (Nat × Obj)) → Prop) (KP : Value → (List UInt8) → Int → Value → (List (Nat × Obj)) → Prop) (h : aj3 s_0 s_1 s_2 a_0 a_1 B K KP) :
  d5 Tryd.prog 62 [zP b, Value.agg [zI a_0, a_1].toArray] [] [HA.blk b (.cells [st s_0, zI s_1, s_2].toArray 42 (0, 0)), pool B] (fun o => (∃ (v_0 : Int) (v_1 : Value) (d_0 : List UInt8) (d_1 : Int) (d_2 : Value) (D : List (Nat × Obj)), K v_0 v_1 d_0 d_1 d_2 D ∧ o = .ret (Value.agg [zI v_0, v_1].toArray) [HA.blk b (.cells [st d_0, zI d_1, d_2].toArray 42 (0, 0)), pool D]) ∨ (∃ (pv : Value) (d_0 : List UInt8) (d_1 : Int) (d_2 : Value) (D : List (Nat × Obj)), KP pv d_0 d_1 d_2 D ∧ o = .pan [{ v := pv, recovered := false }] [HA.blk b (.cells [st d_0, zI d_1, d_2].toArray 42 (0, 0)), pool D])) := by
 unfold aj3 at h
 refine c8 (n := 88) (L0 := [(0, zP b), (1, Value.agg [zI a_0, a_1].toArray)]) Tryd.func62 rfl rfl rfl rfl (fun w0 M Q hE => ?_)
 refine a6 (fun _ hK => ?_)
 refine a4 ?_
 refine WL.make (MV.box (cs := [zI a_0, a_1]) rfl rfl) rfl rfl rfl (fun b_1' => ?_)
 refine WL.make (MV.alloc s9) rfl rfl rfl (fun b_2' => ?_)
 refine WL.nil ?_
 refine kg (hK [(0, zP b), (3, zP b_1'), (4, zP b_2')] _ ?_)
 refine a6 (fun _ hK_1' => ?_)
 refine a4 ?_
 refine wm ?_
 refine wv (OV.nilCheck rfl) ?_
 refine wv (OV.fieldAddr0 rfl d9) ?_
 refine wv (OV.load rfl (At.own 2 rfl) rfl b5) ?_
 refine wa ?_
 refine WL.nil ?_
 refine kg (hK_1' [(0, zP b), (3, zP b_1'), (4, zP b_2'), (5, zI s_1)] _ ?_)
 refine a6 (fun _ hK_2' => ?_)
 refine a4 ?_
 refine wm ?_
 refine wv (OV.nilCheck rfl) ?_
 refine wv (OV.fieldAddr0 rfl d9) ?_
 refine wv (OV.load rfl (At.own 2 rfl) rfl b5) ?_
 obtain ⟨o, h⟩ := h
 refine wv (OV.add rfl rfl o) ?_
 refine wv (OV.nilCheck rfl) ?_
 refine wv (OV.fieldAddr0 rfl d9) ?_
 refine WL.store (vs := [zI (s_1 + 1)]) (cs' := [st s_0, zI (s_1 + 1), s_2]) 2 rfl rfl rfl rfl g9 (Nat.le_of_ble_eq_true rfl) rfl rfl rfl ?_
 refine WL.nil ?_
 refine kg (hK_2' [(0, zP b), (3, zP b_1'), (4, zP b_2'), (5, zI s_1)] _ ?_)
 refine a6 (fun _ hK_3' => ?_)
 refine a4 ?_
 refine wm ?_
 obtain ⟨o_1', h⟩ := h
 refine WL.pick (H' := [HA.blk b (.cells [st s_0, zI (s_1 + 1), s_2].toArray 42 (0, 0)), HA.blk b_2' (.cells [zI 0, Value.nilFunc].toArray 45 (0, 0)), HA.blk b_1' (.cells [zI a_0, a_1].toArray 45 (0, 0)), pool B]) [2, 0, 1, 3] rfl rfl ?_
 refine WL.callS apb rfl (ale b s_0 (s_1 + 1) s_2 o_1') rfl trivial rfl rfl (fun r H' hS => ?_) (fun c H' hS => ?_)
 ·rcases hS with ⟨n, q, hc, ho⟩ | ⟨c, p, q_1', hc, ho⟩ <;> cases ho
  replace h := h.1 n q hc
  refine wa ?_
  refine WL.nil ?_
  refine kg (hK_3' [(0, zP b), (3, zP b_1'), (4, zP b_2'), (5, zI s_1), (6, zI n)] _ ?_)
  refine a6 (fun _ hK_4' => ?_)
  refine a4 ?_
  refine wm ?_
  refine wa ?_
  refine WL.nil ?_
  refine kg (hK_4' [(0, zP b), (3, zP b_1'), (4, zP b_2'), (5, zI s_1), (6, zI n), (7, zI n)] _ ?_)
  obtain ⟨J0, hJ, h⟩ := h
  refine n5 (X := Int × Int) (fun σ => J0 σ.1 σ.2) (fun σ => [(0, zP b), (3, zP b_1'), (4, zP b_2'), (5, zI s_1), (6, zI n), (7, zI σ.1)]) (fun σ => [HA.blk b (.cells [st s_0, zI σ.2, s_2].toArray 42 (0, 0)), HA.blk b_2' (.cells [zI 0, Value.nilFunc].toArray 45 (0, 0)), HA.blk b_1' (.cells [zI a_0, a_1].toArray 45 (0, 0)), pool B]) ?_ (fun K0_11' hK_11' => ?_)
  ·rintro ⟨n_2', s_1_1'⟩ hj
   replace h := hJ n_2' s_1_1' hj
   show WC _ _ _ _ [(0, zP b), (3, zP b_1'), (4, zP b_2'), (5, zI s_1), (6, zI n), (7, zI n_2')] [HA.blk b (.cells [st s_0, zI s_1_1', s_2].toArray 42 (0, 0)), HA.blk b_2' (.cells [zI 0, Value.nilFunc].toArray 45 (0, 0)), HA.blk b_1' (.cells [zI a_0, a_1].toArray 45 (0, 0)), pool B]
   refine a6 (fun _ hK_12' => ?_)
   refine a6 (fun _ hK_13' => ?_)
   refine a4 ?_
   refine wm ?_
   refine WL.call (A := []) aa9 rfl (aar b s_0 s_1_1' s_2) rfl ⟨.inl ⟨0, rfl⟩, trivial⟩ rfl rfl ?_
   refine wm ?_
   obtain ⟨o_9', h⟩ := h
   refine WL.cut 4 [(0, zP b), (3, zP b_1'), (4, zP b_2'), (5, zI s_1), (6, zI n), (7, zI n_2'), (52, zB ((decide ((s_0.length : Int) ≤ s_1_1')) || (!decide (nx s_0 s_1_1' = 125))))] ?_ (fun K0_14' hK_14' => ?_)
   rotate_left
   ·refine WL.split (decide ((s_0.length : Int) ≤ s_1_1')) (fun hb => ?_) (fun hb => ?_)
    ·refine WL.set 48 rfl (congrArg zB hb) ?_
     refine wk ?_
     refine wk ?_
     refine wk ?_
     refine wv (OV.pickT rfl rfl) ?_
     refine WL.set 52 rfl (oT (v := !decide (nx s_0 s_1_1' = 125)) hb) ?_
     exact WL.end_ (kg hK_14')
    ·have o_8' := o_9' hb
     refine WL.set 48 rfl (congrArg zB hb) ?_
     refine wm ?_
     refine WL.call (A := []) aat rfl (aax b s_0 s_1_1' s_2 o_8') rfl ⟨.inl ⟨0, rfl⟩, trivial⟩ rfl rfl ?_
     refine wv (OV.neq rfl rfl) ?_
     refine wv (OV.pickF rfl rfl) ?_
     refine WL.set 52 rfl (oF (v := !decide (nx s_0 s_1_1' = 125)) hb) ?_
     exact WL.end_ (kg hK_14')
   refine WL.nil ?_
   refine kg (hK_13' [(0, zP b), (3, zP b_1'), (4, zP b_2'), (5, zI s_1), (6, zI n), (7, zI n_2'), (52, zB ((decide ((s_0.length : Int) ≤ s_1_1')) || (!decide (nx s_0 s_1_1' = 125))))] _ ?_)
   refine b6 (b := (decide ((s_0.length : Int) ≤ s_1_1')) || (!decide (nx s_0 s_1_1' = 125))) rfl (fun hb => ?_) (fun hb => ?_)
   ·replace h := j4 h hb
    refine a4 ?_
    refine wm ?_
    refine wm ?_
    refine wv (OV.nilCheck rfl) ?_
    refine wv (OV.fieldAddr0 rfl d9) ?_
    refine wv (OV.load rfl (At.own 0 rfl) rfl b5) ?_
    refine WL.callS ac3 rfl (acg (zP b) 20 s_1_1') rfl trivial rfl rfl (fun r H' hS => by cases hS) (fun c H' hS => ?_)
    cases hS
    exact hE.pan [0, 3] rfl rfl (.inr ⟨_, _, _, _, _, h, rfl⟩)
   ·replace h := j5 h hb
    refine b7 ?_
    refine kg (hK_12' [(0, zP b), (3, zP b_1'), (4, zP b_2'), (5, zI s_1), (6, zI n), (7, zI n_2')] _ ?_)
    refine a6 (fun _ hK_15' => ?_)
    refine a4 ?_
    refine wm ?_
    refine wv (OV.nilCheck rfl) ?_
    refine wv (OV.fieldAddr0 rfl d9) ?_
    refine wv (OV.load rfl (At.own 0 rfl) rfl b5) ?_
    obtain ⟨o_10', h⟩ := h
    refine wv (OV.add rfl rfl o_10') ?_
    refine wv (OV.nilCheck rfl) ?_
    refine wv (OV.fieldAddr0 rfl d9) ?_
    refine WL.store (vs := [zI (s_1_1' + 1)]) (cs' := [st s_0, zI (s_1_1' + 1), s_2]) 0 rfl rfl rfl rfl g9 (Nat.le_of_ble_eq_true rfl) rfl rfl rfl ?_
    refine WL.nil ?_
    refine kg (hK_15' [(0, zP b), (3, zP b_1'), (4, zP b_2'), (5, zI s_1), (6, zI n), (7, zI n_2')] _ ?_)
    refine a6 (fun _ hK_16' => ?_)
    refine a6 (fun _ hK_17' => ?_)
    refine a4 ?_
    refine wm ?_
    refine wv (OV.gtr rfl rfl) ?_
    refine wm ?_
    refine WL.cut 3 [(0, zP b), (3, zP b_1'), (4, zP b_2'), (5, zI s_1), (6, zI n), (7, zI n_2'), (71, zB ((decide (255 < n)) || (decide (255 < n_2'))))] ?_ (fun K0_18' hK_18' => ?_)
    rotate_left
    ·refine WL.split (decide (255 < n)) (fun hb => ?_) (fun hb => ?_)
     ·refine WL.set 68 rfl (congrArg zB hb) ?_
      refine wk ?_
      refine wk ?_
      refine wv (OV.pickT rfl rfl) ?_
      refine WL.set 71 rfl (oT (v := decide (255 < n_2')) hb) ?_
      exact WL.end_ (kg hK_18')
     ·refine WL.set 68 rfl (congrArg zB hb) ?_
      refine wm ?_
      refine wv (OV.gtr rfl rfl) ?_
      refine wv (OV.pickF rfl rfl) ?_
      refine WL.set 71 rfl (oF (v := decide (255 < n_2')) hb) ?_
      exact WL.end_ (kg hK_18')
    refine wm ?_
    refine WL.cut 8 [(0, zP b), (3, zP b_1'), (4, zP b_2'), (5, zI s_1), (6, zI n), (7, zI n_2'), (80, zB (((decide (255 < n)) || (decide (255 < n_2'))) || ((decide (0 ≤ n_2')) && (decide (n_2' < n)))))] ?_ (fun K0_20' hK_20' => ?_)
    rotate_left
    ·refine WL.split ((decide (255 < n)) || (decide (255 < n_2'))) (fun hb => ?_) (fun hb => ?_)
     ·refine WL.set 72 rfl (congrArg zB hb) ?_
      refine wk ?_
      refine wk ?_
      refine wk ?_
      refine wk ?_
      refine wk ?_
      refine wk ?_
      refine wk ?_
      refine wv (OV.pickT rfl rfl) ?_
      refine WL.set 80 rfl (oT (v := (decide (0 ≤ n_2')) && (decide (n_2' < n))) hb) ?_
      exact WL.end_ (kg hK_20')
     ·refine WL.set 72 rfl (congrArg zB hb) ?_
      refine wm ?_
      refine wv (OV.geq rfl rfl) ?_
      refine wm ?_
      refine WL.cut 4 [(0, zP b), (3, zP b_1'), (4, zP b_2'), (5, zI s_1), (6, zI n), (7, zI n_2'), (72, zB false), (79, zB ((decide (0 ≤ n_2')) && (decide (n_2' < n))))] ?_ (fun K0_19' hK_19' => ?_)
      rotate_left
      ·refine WL.split (decide (0 ≤ n_2')) (fun hb => ?_) (fun hb => ?_)
       ·refine WL.set 75 rfl (congrArg zB hb) ?_
        refine wm ?_
        refine wm ?_
        refine wv (OV.lss rfl rfl) ?_
        refine wv (OV.pickT rfl rfl) ?_
        refine WL.set 79 rfl (bT (v := decide (n_2' < n)) hb) ?_
        exact WL.end_ (kg hK_19')
       ·refine WL.set 75 rfl (congrArg zB hb) ?_
        refine wk ?_
        refine wk ?_
        refine wk ?_
        refine wv (OV.pickF rfl rfl) ?_
        refine WL.set 79 rfl (bF (v := decide (n_2' < n)) hb) ?_
        exact WL.end_ (kg hK_19')
      refine wv (OV.pickF rfl rfl) ?_
      refine WL.set 80 rfl (oF (v := (decide (0 ≤ n_2')) && (decide (n_2' < n))) hb) ?_
      exact WL.end_ (kg hK_20')
    refine WL.nil ?_
    refine kg (hK_17' [(0, zP b), (3, zP b_1'), (4, zP b_2'), (5, zI s_1), (6, zI n), (7, zI n_2'), (80, zB (((decide (255 < n)) || (decide (255 < n_2'))) || ((decide (0 ≤ n_2')) && (decide (n_2' < n)))))] _ ?_)
    refine b6 (b := ((decide (255 < n)) || (decide (255 < n_2'))) || ((decide (0 ≤ n_2')) && (decide (n_2' < n)))) rfl (fun hb => ?_) (fun hb => ?_)
    ·replace h := j4 h hb
     refine a4 ?_
     refine wm ?_
     refine wm ?_
     refine WL.callS ac3 rfl (acg (zP b) 22 s_1) rfl trivial rfl rfl (fun r H' hS => by cases hS) (fun c H' hS => ?_)
     cases hS
     exact hE.pan [0, 3] rfl rfl (.inr ⟨_, _, _, _, _, h, rfl⟩)
    ·replace h := j5 h hb
     refine b7 ?_
     refine kg (hK_16' [(3, zP b_1'), (4, zP b_2'), (6, zI n), (7, zI n_2')] _ ?_)
     refine a6 (fun _ hK_21' => ?_)
     refine a4 ?_
     refine wv (OV.loadR rfl (At.own 2 rfl) i8) ?_
     refine wm ?_
     refine wm ?_
     obtain ⟨o_14', h⟩ := h
     refine WL.pick (H' := [pool B, HA.blk b (.cells [st s_0, zI (s_1_1' + 1), s_2].toArray 42 (0, 0)), HA.blk b_2' (.cells [zI 0, Value.nilFunc].toArray 45 (0, 0)), HA.blk b_1' (.cells [zI a_0, a_1].toArray 45 (0, 0))]) [3, 0, 1, 2] rfl rfl ?_
     refine WL.callS aw5 rfl (auy a_0 a_1 n n_2' B o_14') rfl trivial rfl rfl (fun r H' hS => ?_) (fun c H' hS => ?_)
     ·obtain ⟨sz, u, B_1', hc, ho⟩ := hS
      cases ho
      replace h := h sz u B_1' hc
      obtain ⟨o_15', h⟩ := h
      refine WL.storeW (vs := [zI sz, u]) 2 rfl rfl rfl rfl rfl j8 rfl (d4 rfl (d4 o_15' m6)) rfl ?_
      refine WL.nil ?_
      refine kg (hK_21' [(4, zP b_2')] _ ?_)
      refine c9 ?_
      exact hE.ret [1, 0] rfl rfl (.inl ⟨_, _, _, _, _, _, h, rfl⟩) (f9.of1 rfl (RV.row rfl (At.own 2 rfl) i8))
     ·obtain ⟨sz, u, B_1', hc, ho⟩ := hS
      cases ho
  ·skip
   refine a6 (fun _ hK_22' => ?_)
   refine a4 ?_
   refine wm ?_
   refine WL.call (A := []) aa9 rfl (aar b s_0 q s_2) rfl ⟨.inl ⟨0, rfl⟩, trivial⟩ rfl rfl ?_
   refine wv (OV.not rfl) ?_
   refine wm ?_
   obtain ⟨o_17', h⟩ := h
   refine WL.cut 4 [(0, zP b), (3, zP b_1'), (4, zP b_2'), (5, zI s_1), (6, zI n), (7, zI n), (29, zB ((!(decide ((s_0.length : Int) ≤ q))) && (decide (nx s_0 q = 44))))] ?_ (fun K0_23' hK_23' => ?_)
   rotate_left
   ·refine WL.split (!(decide ((s_0.length : Int) ≤ q))) (fun hb => ?_) (fun hb => ?_)
    ·have o_16' := o_17' hb
     refine WL.set 25 rfl (congrArg zB hb) ?_
     refine wm ?_
     refine WL.call (A := []) aat rfl (aax b s_0 q s_2 o_16') rfl ⟨.inl ⟨0, rfl⟩, trivial⟩ rfl rfl ?_
     refine wv (OV.eql rfl rfl) ?_
     refine wv (OV.pickT rfl rfl) ?_
     refine WL.set 29 rfl (bT (v := decide (nx s_0 q = 44)) hb) ?_
     exact WL.end_ (kg hK_23')
    ·refine WL.set 25 rfl (congrArg zB hb) ?_
     refine wk ?_
     refine wk ?_
     refine wk ?_
     refine wv (OV.pickF rfl rfl) ?_
     refine WL.set 29 rfl (bF (v := decide (nx s_0 q = 44)) hb) ?_
     exact WL.end_ (kg hK_23')
   refine WL.nil ?_
   refine kg (hK_22' [(0, zP b), (3, zP b_1'), (4, zP b_2'), (5, zI s_1), (6, zI n), (7, zI n), (29, zB ((!(decide ((s_0.length : Int) ≤ q))) && (decide (nx s_0 q = 44))))] _ ?_)
   refine b6 (b := (!(decide ((s_0.length : Int) ≤ q))) && (decide (nx s_0 q = 44))) rfl (fun hb => ?_) (fun hb => ?_)
   ·replace h := j4 h hb
    refine a6 (fun _ hK_24' => ?_)
    refine a4 ?_
    refine wm ?_
    refine wv (OV.nilCheck rfl) ?_
    refine wv (OV.fieldAddr0 rfl d9) ?_
    refine wv (OV.load rfl (At.own 0 rfl) rfl b5) ?_
    obtain ⟨o_18', h⟩ := h
    refine wv (OV.add rfl rfl o_18') ?_
    refine wv (OV.nilCheck rfl) ?_
    refine wv (OV.fieldAddr0 rfl d9) ?_
    refine WL.store (vs := [zI (q + 1)]) (cs' := [st s_0, zI (q + 1), s_2]) 0 rfl rfl rfl rfl g9 (Nat.le_of_ble_eq_true rfl) rfl rfl rfl ?_
    refine WL.nil ?_
    refine kg (hK_24' [(0, zP b), (3, zP b_1'), (4, zP b_2'), (5, zI s_1), (6, zI n)] _ ?_)
    refine a6 (fun _ hK_25' => ?_)
    refine a4 ?_
    refine wa ?_
    refine WL.nil ?_
    refine kg (hK_25' [(0, zP b), (3, zP b_1'), (4, zP b_2'), (5, zI s_1), (6, zI n), (7, zI (-1))] _ ?_)
    refine a6 (fun _ hK_26' => ?_)
    refine a4 ?_
    refine wm ?_
    refine WL.call (A := []) aa9 rfl (aar b s_0 (q + 1) s_2) rfl ⟨.inl ⟨0, rfl⟩, trivial⟩ rfl rfl ?_
    refine wm ?_
    obtain ⟨o_20', h⟩ := h
    refine WL.cut 4 [(0, zP b), (3, zP b_1'), (4, zP b_2'), (5, zI s_1), (6, zI n), (7, zI (-1)), (43, zB ((decide ((s_0.length : Int) ≤ q + 1)) || (!decide (nx s_0 (q + 1) = 125))))] ?_ (fun K0_27' hK_27' => ?_)
    rotate_left
    ·refine WL.split (decide ((s_0.length : Int) ≤ q + 1)) (fun hb => ?_) (fun hb => ?_)
     ·refine WL.set 39 rfl (congrArg zB hb) ?_
      refine wk ?_
      refine wk ?_
      refine wk ?_
      refine wv (OV.pickT rfl rfl) ?_
      refine WL.set 43 rfl (oT (v := !decide (nx s_0 (q + 1) = 125)) hb) ?_
      exact WL.end_ (kg hK_27')
     ·have o_19' := o_20' hb
      refine WL.set 39 rfl (congrArg zB hb) ?_
      refine wm ?_
      refine WL.call (A := []) aat rfl (aax b s_0 (q + 1) s_2 o_19') rfl ⟨.inl ⟨0, rfl⟩, trivial⟩ rfl rfl ?_
      refine wv (OV.neq rfl rfl) ?_
      refine wv (OV.pickF rfl rfl) ?_
      refine WL.set 43 rfl (oF (v := !decide (nx s_0 (q + 1) = 125)) hb) ?_
      exact WL.end_ (kg hK_27')
    refine WL.nil ?_
    refine kg (hK_26' [(0, zP b), (3, zP b_1'), (4, zP b_2'), (5, zI s_1), (6, zI n), (7, zI (-1)), (43, zB ((decide ((s_0.length : Int) ≤ q + 1)) || (!decide (nx s_0 (q + 1) = 125))))] _ ?_)
    refine b6 (b := (decide ((s_0.length : Int) ≤ q + 1)) || (!decide (nx s_0 (q + 1) = 125))) rfl (fun hb => ?_) (fun hb => ?_)
    ·replace h := j4 h hb
     refine a4 ?_
     refine wm ?_
     obtain ⟨o_21', h⟩ := h
     refine WL.callS apb rfl (ale b s_0 (q + 1) s_2 o_21') rfl trivial rfl rfl (fun r H' hS => ?_) (fun c H' hS => ?_)
     ·rcases hS with ⟨n_3', q_4', hc, ho⟩ | ⟨c_2', p_2', q_5', hc, ho⟩ <;> cases ho
      replace h := h.1 n_3' q_4' hc
      refine wa ?_
      refine WL.nil ?_
      exact kh (hK_11' (n_3', q_4') h) [0, 1, 2, 3]
     ·rcases hS with ⟨n_3', q_4', hc, ho⟩ | ⟨c_2', p_2', q_5', hc, ho⟩ <;> cases ho
      replace h := h.2 c_2' p_2' q_5' hc
      exact hE.pan [0, 3] rfl rfl (.inr ⟨_, _, _, _, _, h, rfl⟩)
    ·replace h := j5 h hb
     refine b7 ?_
     exact kh (hK_11' ((-1), q + 1) h) [0, 1, 2, 3]
   ·replace h := j5 h hb
    refine b7 ?_
    exact kh (hK_11' (n, q) h) [0, 1, 2, 3]
 ·rcases hS with ⟨n, q, hc, ho⟩ | ⟨c, p, q_1', hc, ho⟩ <;> cases ho
  replace h := h.2 c p q_1' hc
  exact hE.pan [0, 3] rfl rfl (.inr ⟨_, _, _, _, _, h, rfl⟩)
theorem arn (b : Nat) (t : List UInt8) (i : Int) (w : Value) (sa : Int) (a : Value) (B : List (Nat × Obj)) (h : 0 ≤ i ∧ i < (t.length : Int) ∧ t.length ≤ 1048576 ∧ abl sa a) : d5 Tryd.prog 62 [.pointer (some ⟨b, 0, none⟩), .agg [.int .i64 sa, a].toArray] [] [scB b t i w, pool B]
  (fun o => (∃ n u j B', aqy t i B B' sa a j n u ∧ o = .ret (.agg [.int .i64 n, u].toArray) [scB b t j w, pool B']) ∨ (∃ c p q B', aq1 t i B sa a c p ∧ o = .pan [{ v := o3 c p, recovered := false }] [scB b t q w, pool B'])) := by
 obtain ⟨h0, h1, h2, hr⟩ := h
 refine (aws b t i w sa a B (fun n u t' j w' D => t' = t ∧ w' = w ∧ aqy t i B D sa a j n u) (fun v t' _ w' _ => t' = t ∧ w' = w ∧ ∃ c p, v = o3 c p ∧ aq1 t i B sa a c p) ?_).weak ?_
 ·unfold aj3
  refine ⟨by unfold I64; omega, ⟨by omega, by omega, h2⟩, ?_, fun c p q hm => ⟨rfl, rfl, c, p, rfl, fun x _ => by unfold z7; rw [hm]⟩⟩
  intro m q hm
  have hm1 := alv hm (by omega) (by omega)
  have hj : ∀ n j, ads t m q = .ok (n, j) → -1 ≤ n ∧ q ≤ j ∧ j ≤ t.length := fun n j hc => by
   unfold ads at hc
   split at hc
   ·split at hc
    ·simp only [Except.ok.injEq, Prod.mk.injEq] at hc; omega
    ·have := alv hc (by omega) (by omega); omega
   ·simp only [Except.ok.injEq, Prod.mk.injEq] at hc; omega
  refine ⟨fun n j => ads t m q = .ok (n, j), ?_, fun _ => by omega, ?_⟩
  ·intro n j hc
   have hj' := hj n j hc
   refine ⟨fun _ => by omega, ?_⟩
   by_cases hk : j < t.length ∧ nx t j = 125
   ·rw [if_neg (by simp; omega)]
    refine ⟨by unfold I64; omega, ?_⟩
    by_cases hz : m > 255 ∨ n > 255 ∨ (0 ≤ n ∧ n < m)
    ·rw [if_pos (by simp; omega)]
     exact ⟨rfl, rfl, 22, i, rfl, fun x _ => by simp only [z7, hm, hc, if_pos hk, if_pos hz]⟩
    ·rw [if_neg (by simp; omega)]
     refine ⟨⟨hr, by omega, by omega, by omega, by omega⟩, ?_⟩
     rintro k u B1 ⟨g1, g2, g3⟩
     exact ⟨g2.2, rfl, rfl, g1, g2, by omega, by omega, fun x hx => ⟨aal x m n, by simp only [z7, hm, hc, if_pos hk, if_neg hz], g3 x hx⟩⟩
   ·rw [if_pos (by simp; omega)]
    exact ⟨rfl, rfl, 20, j, rfl, fun x _ => by simp only [z7, hm, hc, if_neg hk]⟩
  ·by_cases hk : q < t.length ∧ nx t q = 44
   ·rw [if_pos (by simp; omega)]
    refine ⟨by unfold I64; omega, fun _ => by omega, ?_⟩
    by_cases hz : q + 1 < t.length ∧ nx t (q + 1) = 125
    ·rw [if_neg (by simp; omega)]
     show ads t m q = _
     simp only [ads, if_pos hk, if_pos hz]
    ·rw [if_pos (by simp; omega)]
     refine ⟨⟨by omega, by omega, h2⟩, fun n j hn => ?_, fun c p q' hn => ?_⟩
     ·show ads t m q = _
      simp only [ads, if_pos hk, if_neg hz, hn]
     ·exact ⟨rfl, rfl, c, p, rfl, fun x _ => by simp only [z7, hm, ads, if_pos hk, if_neg hz, hn]⟩
   ·rw [if_neg (by simp; omega)]
    show ads t m q = _
    simp only [ads, if_neg hk]
 ·rintro o (⟨n, u, t', j, w', D, ⟨rfl, rfl, hm⟩, rfl⟩ | ⟨v, t', q, w', D, ⟨rfl, rfl, c, p, rfl, hm⟩, rfl⟩)
  ·exact .inl ⟨n, u, j, D, hm, rfl⟩
  ·exact .inr ⟨c, p, q, D, hm, rfl⟩
def anf (s_0 : List UInt8) (s_1 : Int) (s_2 : Value) (a_0 : Int) (a_1 : Value) (B : List (Nat × Obj)) (K : Int → Value → (List UInt8) → Int → Value → (List (Nat × Obj)) → Prop) (KP : Value → (List UInt8) → Int → Value → (List (Nat × Obj)) → Prop) : Prop :=
 ∃ (Inv : Int → Value → Int → (List (Nat × Obj)) → Prop) (mu : Int → Value → Int → (List (Nat × Obj)) → Nat),
  Inv a_0 a_1 s_1 B ∧ ∀ (a_0_4' : Int) (a_1_4' : Value) (s_1_2' : Int) (c_7' : List (Nat × Obj)), Inv a_0_4' a_1_4' s_1_2' c_7' →
   (if (!(decide ((s_0.length : Int) ≤ s_1_2'))) = true then
    ∃ (J0_2' : (List (Nat × Obj)) → Int → Value → Prop),
     (∀ (c_9' : List (Nat × Obj)) (a_0_5' : Int) (a_1_5' : Value), J0_2' c_9' a_0_5' a_1_5' →
      (I64 (s_1_2' + 1)) ∧
      Inv a_0_5' a_1_5' (s_1_2' + 1) c_9' ∧ mu a_0_5' a_1_5' (s_1_2' + 1) c_9' < mu a_0_4' a_1_4' s_1_2' c_7') ∧
     (0 ≤ s_1_2') ∧
     (if (decide (nx s_0 s_1_2' = 42)) = true then
      (y4 a_0_4') ∧
      (∀ (sz_25' : Int) (u_25' : Value) (B_31' : List (Nat × Obj)), ao1 c_7' B_31' a_0_4' a_1_4' sz_25' u_25' →
       (u_25'.oneCell' = true) ∧
       J0_2' B_31' sz_25' u_25')
     else
      (if (decide (nx s_0 s_1_2' = 43)) = true then
       (y4 a_0_4') ∧
       (∀ (sz_26' : Int) (u_26' : Value) (B_32' : List (Nat × Obj)), ao1 c_7' B_32' a_0_4' a_1_4' sz_26' u_26' →
        (y4 a_0_4' ∧ y4 sz_26') ∧
        (∀ (sz_27' : Int) (u_27' : Value) (B_33' : List (Nat × Obj)), agh Tr.cat B_32' B_33' a_0_4' a_1_4' sz_26' u_26' sz_27' u_27' →
         (u_27'.oneCell' = true) ∧
         J0_2' B_33' sz_27' u_27'))
      else
       (if (decide (nx s_0 s_1_2' = 63)) = true then
        (y4 a_0_4') ∧
        (∀ (sz_28' : Int) (u_28' : Value) (B_34' : List (Nat × Obj)), anc c_7' B_34' a_0_4' a_1_4' sz_28' u_28' →
         (u_28'.oneCell' = true) ∧
         J0_2' B_34' sz_28' u_28')
       else
        (if (decide (nx s_0 s_1_2' = 123)) = true then
         (0 ≤ s_1_2' ∧ s_1_2' < (s_0.length : Int) ∧ s_0.length ≤ 1048576 ∧ abl a_0_4' a_1_4') ∧
         (∀ (sz_29' : Int) (u_29' : Value) (j_5' : Int) (B_35' : List (Nat × Obj)), aqy s_0 s_1_2' c_7' B_35' a_0_4' a_1_4' j_5' sz_29' u_29' →
          (u_29'.oneCell' = true) ∧
          Inv sz_29' u_29' j_5' B_35' ∧ mu sz_29' u_29' j_5' B_35' < mu a_0_4' a_1_4' s_1_2' c_7') ∧
         (∀ (c_10' : Int) (p_5' : Int) (q_5' : Int) (B_36' : List (Nat × Obj)), aq1 s_0 s_1_2' c_7' a_0_4' a_1_4' c_10' p_5' →
          KP (o3 c_10' p_5') s_0 q_5' s_2 B_36')
        else
         (a_1_4'.oneCell' = true) ∧
         K a_0_4' a_1_4' s_0 s_1_2' s_2 c_7'))))
   else
    (a_1_4'.oneCell' = true) ∧
    K a_0_4' a_1_4' s_0 s_1_2' s_2 c_7')
theorem auq (b : Nat) (s_0 : List UInt8) (s_1 : Int) (s_2 : Value) (a_0 : Int) (a_1 : Value) (B : List (Nat × Obj)) (K : Int → Value → (List UInt8) → Int → Value → (List (Nat × Obj)) → Prop) (KP : Value → (List UInt8) → Int → Value → (List (Nat × Obj)) → Prop) (h : anf s_0 s_1 s_2 a_0 a_1 B K KP) :
  d5 Tryd.prog 53 [zP b, Value.agg [zI a_0, a_1].toArray] [] [HA.blk b (.cells [st s_0, zI s_1, s_2].toArray 42 (0, 0)), pool B] (fun o => (∃ (v_0 : Int) (v_1 : Value) (d_0 : List UInt8) (d_1 : Int) (d_2 : Value) (D : List (Nat × Obj)), K v_0 v_1 d_0 d_1 d_2 D ∧ o = .ret (Value.agg [zI v_0, v_1].toArray) [HA.blk b (.cells [st d_0, zI d_1, d_2].toArray 42 (0, 0)), pool D]) ∨ (∃ (pv : Value) (d_0 : List UInt8) (d_1 : Int) (d_2 : Value) (D : List (Nat × Obj)), KP pv d_0 d_1 d_2 D ∧ o = .pan [{ v := pv, recovered := false }] [HA.blk b (.cells [st d_0, zI d_1, d_2].toArray 42 (0, 0)), pool D])) := by
 unfold anf at h
 refine c8 (n := 38) (L0 := [(0, zP b), (1, Value.agg [zI a_0, a_1].toArray)]) Tryd.func53 rfl rfl rfl rfl (fun w0 M Q hE => ?_)
 refine a6 (fun _ hK => ?_)
 refine a4 ?_
 refine WL.make (MV.box (cs := [zI a_0, a_1]) rfl rfl) rfl rfl rfl (fun b_1' => ?_)
 refine WL.make (MV.alloc s9) rfl rfl rfl (fun b_2' => ?_)
 refine WL.nil ?_
 refine kg (hK [(0, zP b), (3, zP b_1'), (4, zP b_2')] _ ?_)
 refine a6 (fun _ hK_1' => ?_)
 refine d6 ?_
 obtain ⟨Inv, mu, h0, hr⟩ := h
 refine w9 (S := Int × Value × Int × (List (Nat × Obj))) (fun σ => Inv σ.1 σ.2.1 σ.2.2.1 σ.2.2.2) (fun σ => mu σ.1 σ.2.1 σ.2.2.1 σ.2.2.2) (fun σ => [(0, zP b), (3, zP b_1'), (4, zP b_2')]) (fun σ => [HA.blk b_2' (.cells [zI 0, Value.nilFunc].toArray 45 (0, 0)), HA.blk b_1' (.cells [zI σ.1, σ.2.1].toArray 45 (0, 0)), HA.blk b (.cells [st s_0, zI σ.2.2.1, s_2].toArray 42 (0, 0)), pool σ.2.2.2]) (a_0, a_1, s_1, B) h0 ⟨rfl, rfl, rfl, trivial⟩ rfl ?_
 rintro ⟨a_0_4', a_1_4', s_1_2', c_7'⟩ hi K0_36' hK_36'
 have h := hr a_0_4' a_1_4' s_1_2' c_7' hi
 show WC _ _ _ _ [(0, zP b), (3, zP b_1'), (4, zP b_2')] [HA.blk b_2' (.cells [zI 0, Value.nilFunc].toArray 45 (0, 0)), HA.blk b_1' (.cells [zI a_0_4', a_1_4'].toArray 45 (0, 0)), HA.blk b (.cells [st s_0, zI s_1_2', s_2].toArray 42 (0, 0)), pool c_7']
 refine a6 (fun _ hK_37' => ?_)
 refine a6 (fun _ hK_38' => ?_)
 refine a4 ?_
 refine wm ?_
 refine WL.call (A := []) aa9 rfl (aar b s_0 s_1_2' s_2) rfl ⟨.inl ⟨2, rfl⟩, trivial⟩ rfl rfl ?_
 refine wv (OV.not rfl) ?_
 refine WL.nil ?_
 refine kg (hK_38' [(0, zP b), (3, zP b_1'), (4, zP b_2'), (7, zB (!(decide ((s_0.length : Int) ≤ s_1_2'))))] _ ?_)
 refine b6 (b := !(decide ((s_0.length : Int) ≤ s_1_2'))) rfl (fun hb => ?_) (fun hb => ?_)
 ·replace h := j4 h hb
  refine b7 ?_
  refine kg (hK_37' [(0, zP b), (3, zP b_1'), (4, zP b_2')] _ ?_)
  refine d6 ?_
  obtain ⟨J0_2', hJ_2', h⟩ := h
  refine n5 (X := (List (Nat × Obj)) × Int × Value) (fun σ => J0_2' σ.1 σ.2.1 σ.2.2) (fun σ => [(0, zP b), (3, zP b_1'), (4, zP b_2')]) (fun σ => [pool σ.1, HA.blk b_2' (.cells [zI 0, Value.nilFunc].toArray 45 (0, 0)), HA.blk b_1' (.cells [zI σ.2.1, σ.2.2].toArray 45 (0, 0)), HA.blk b (.cells [st s_0, zI s_1_2', s_2].toArray 42 (0, 0))]) ?_ (fun K0_46' hK_46' => ?_)
  ·rintro ⟨c_9', a_0_5', a_1_5'⟩ hj
   replace h := hJ_2' c_9' a_0_5' a_1_5' hj
   show WC _ _ _ _ [(0, zP b), (3, zP b_1'), (4, zP b_2')] [pool c_9', HA.blk b_2' (.cells [zI 0, Value.nilFunc].toArray 45 (0, 0)), HA.blk b_1' (.cells [zI a_0_5', a_1_5'].toArray 45 (0, 0)), HA.blk b (.cells [st s_0, zI s_1_2', s_2].toArray 42 (0, 0))]
   refine a4 ?_
   refine wm ?_
   refine wv (OV.nilCheck rfl) ?_
   refine wv (OV.fieldAddr0 rfl d9) ?_
   refine wv (OV.load rfl (At.own 3 rfl) rfl b5) ?_
   obtain ⟨o_57', h⟩ := h
   refine wv (OV.add rfl rfl o_57') ?_
   refine wv (OV.nilCheck rfl) ?_
   refine wv (OV.fieldAddr0 rfl d9) ?_
   refine WL.store (vs := [zI (s_1_2' + 1)]) (cs' := [st s_0, zI (s_1_2' + 1), s_2]) 3 rfl rfl rfl rfl g9 (Nat.le_of_ble_eq_true rfl) rfl rfl rfl ?_
   refine WL.nil ?_
   exact kh (hK_36' (a_0_5', a_1_5', s_1_2' + 1, c_9') h.1 h.2) [1, 2, 3, 0]
  ·skip
   refine a6 (fun _ hK_47' => ?_)
   refine a4 ?_
   refine wm ?_
   obtain ⟨o_58', h⟩ := h
   refine WL.call (A := []) aat rfl (aax b s_0 s_1_2' s_2 o_58') rfl ⟨.inl ⟨2, rfl⟩, trivial⟩ rfl rfl ?_
   refine WL.nil ?_
   refine kg (hK_47' [(0, zP b), (3, zP b_1'), (4, zP b_2'), (9, zU (nx s_0 s_1_2'))] _ ?_)
   refine d6 ?_
   refine a6 (fun _ hK_48' => ?_)
   refine a4 ?_
   refine wv (OV.eql rfl rfl) ?_
   refine wa ?_
   refine WL.nil ?_
   refine kg (hK_48' [(0, zP b), (3, zP b_1'), (4, zP b_2'), (9, zU (nx s_0 s_1_2')), (11, zB (decide (nx s_0 s_1_2' = 42)))] _ ?_)
   refine b6 (b := decide (nx s_0 s_1_2' = 42)) rfl (fun hb => ?_) (fun hb => ?_)
   ·replace h := j4 h hb
    refine a4 ?_
    refine wv (OV.loadR rfl (At.own 1 rfl) i8) ?_
    obtain ⟨o_59', h⟩ := h
    refine WL.pick (H' := [pool c_7', HA.blk b_2' (.cells [zI 0, Value.nilFunc].toArray 45 (0, 0)), HA.blk b_1' (.cells [zI a_0_4', a_1_4'].toArray 45 (0, 0)), HA.blk b (.cells [st s_0, zI s_1_2', s_2].toArray 42 (0, 0))]) [3, 0, 1, 2] rfl rfl ?_
    refine WL.callS ahl rfl (ahi a_0_4' a_1_4' c_7' o_59') rfl trivial rfl rfl (fun r H' hS => ?_) (fun c H' hS => ?_)
    ·obtain ⟨sz_25', u_25', B_31', hc, ho⟩ := hS
     cases ho
     replace h := h sz_25' u_25' B_31' hc
     obtain ⟨o_60', h⟩ := h
     refine WL.storeW (vs := [zI sz_25', u_25']) 2 rfl rfl rfl rfl rfl j8 rfl (d4 rfl (d4 o_60' m6)) rfl ?_
     refine WL.nil ?_
     exact kh (hK_46' (B_31', sz_25', u_25') h) [0, 1, 2, 3]
    ·obtain ⟨sz_25', u_25', B_31', hc, ho⟩ := hS
     cases ho
   ·replace h := j5 h hb
    refine a6 (fun _ hK_49' => ?_)
    refine a4 ?_
    refine wv (OV.eql rfl rfl) ?_
    refine wa ?_
    refine WL.nil ?_
    refine kg (hK_49' [(0, zP b), (3, zP b_1'), (4, zP b_2'), (9, zU (nx s_0 s_1_2')), (15, zB (decide (nx s_0 s_1_2' = 43)))] _ ?_)
    refine b6 (b := decide (nx s_0 s_1_2' = 43)) rfl (fun hb => ?_) (fun hb => ?_)
    ·replace h := j4 h hb
     refine x1 2 [0, 1, 2] [HA.blk b_2' (.cells [zI 0, Value.nilFunc].toArray 45 (0, 0)), HA.blk b_1' (.cells [zI a_0_4', a_1_4'].toArray 45 (0, 0)), HA.blk b (.cells [st s_0, zI s_1_2', s_2].toArray 42 (0, 0))] rfl rfl g8 (by kernel_rfl) (fun T_5' hT_5' => ?_)
     refine TW.val (OV.loadR rfl (At.own 1 rfl) i8) rfl rfl rfl ?_
     refine TW.val (OV.loadR rfl (At.own 1 rfl) i8) rfl rfl rfl ?_
     refine TW.nil (hT_5' _ ?_)
     obtain ⟨o_61', h⟩ := h
     refine WLX.pick (H' := [pool c_7', HA.blk b_2' (.cells [zI 0, Value.nilFunc].toArray 45 (0, 0)), HA.blk b_1' (.cells [zI a_0_4', a_1_4'].toArray 45 (0, 0)), HA.blk b (.cells [st s_0, zI s_1_2', s_2].toArray 42 (0, 0))]) [3, 0, 1, 2] rfl rfl ?_
     refine WLX.callS [0, 1, 2] rfl (EN.fn ahl rfl) rfl (ahi a_0_4' a_1_4' c_7' o_61') rfl rfl trivial rfl rfl (fun r H' hS => ?_) (fun c H' hS => ?_)
     ·obtain ⟨sz_26', u_26', B_32', hc, ho⟩ := hS
      cases ho
      replace h := h sz_26' u_26' B_32' hc
      obtain ⟨o_62', h⟩ := h
      refine WLX.callS [0, 1, 2] rfl (EN.fn abq rfl) rfl (abt Tr.cat_op a_0_4' a_1_4' sz_26' u_26' B_32' o_62') rfl rfl trivial rfl rfl (fun r H' hS => ?_) (fun c H' hS => ?_)
      ·obtain ⟨sz_27', u_27', B_33', hc, ho⟩ := hS
       cases ho
       replace h := h sz_27' u_27' B_33' hc
       obtain ⟨o_63', h⟩ := h
       refine WLX.opZ (OpK.storeW (vs := [zI sz_27', u_27']) 2 rfl rfl rfl rfl rfl j8 rfl (d4 rfl (d4 o_63' m6))) rfl ?_
       refine WLX.nil ?_
       exact kh (hK_46' (B_33', sz_27', u_27') h) [0, 1, 2, 3]
      ·obtain ⟨sz_27', u_27', B_33', hc, ho⟩ := hS
       cases ho
     ·obtain ⟨sz_26', u_26', B_32', hc, ho⟩ := hS
      cases ho
    ·replace h := j5 h hb
     refine a6 (fun _ hK_50' => ?_)
     refine a4 ?_
     refine wv (OV.eql rfl rfl) ?_
     refine wa ?_
     refine WL.nil ?_
     refine kg (hK_50' [(0, zP b), (3, zP b_1'), (4, zP b_2'), (9, zU (nx s_0 s_1_2')), (21, zB (decide (nx s_0 s_1_2' = 63)))] _ ?_)
     refine b6 (b := decide (nx s_0 s_1_2' = 63)) rfl (fun hb => ?_) (fun hb => ?_)
     ·replace h := j4 h hb
      refine a4 ?_
      refine wv (OV.loadR rfl (At.own 1 rfl) i8) ?_
      obtain ⟨o_64', h⟩ := h
      refine WL.pick (H' := [pool c_7', HA.blk b_2' (.cells [zI 0, Value.nilFunc].toArray 45 (0, 0)), HA.blk b_1' (.cells [zI a_0_4', a_1_4'].toArray 45 (0, 0)), HA.blk b (.cells [st s_0, zI s_1_2', s_2].toArray 42 (0, 0))]) [3, 0, 1, 2] rfl rfl ?_
      refine WL.callS akh rfl (ail a_0_4' a_1_4' c_7' o_64') rfl trivial rfl rfl (fun r H' hS => ?_) (fun c H' hS => ?_)
      ·obtain ⟨sz_28', u_28', B_34', hc, ho⟩ := hS
       cases ho
       replace h := h sz_28' u_28' B_34' hc
       obtain ⟨o_65', h⟩ := h
       refine WL.storeW (vs := [zI sz_28', u_28']) 2 rfl rfl rfl rfl rfl j8 rfl (d4 rfl (d4 o_65' m6)) rfl ?_
       refine WL.nil ?_
       exact kh (hK_46' (B_34', sz_28', u_28') h) [0, 1, 2, 3]
      ·obtain ⟨sz_28', u_28', B_34', hc, ho⟩ := hS
       cases ho
     ·replace h := j5 h hb
      refine a6 (fun _ hK_51' => ?_)
      refine a4 ?_
      refine wv (OV.eql rfl rfl) ?_
      refine wa ?_
      refine WL.nil ?_
      refine kg (hK_51' [(0, zP b), (3, zP b_1'), (4, zP b_2'), (25, zB (decide (nx s_0 s_1_2' = 123)))] _ ?_)
      refine b6 (b := decide (nx s_0 s_1_2' = 123)) rfl (fun hb => ?_) (fun hb => ?_)
      ·replace h := j4 h hb
       refine a6 (fun _ hK_52' => ?_)
       refine a4 ?_
       refine wm ?_
       refine wv (OV.loadR rfl (At.own 1 rfl) i8) ?_
       obtain ⟨o_66', h⟩ := h
       refine WL.pick (H' := [HA.blk b (.cells [st s_0, zI s_1_2', s_2].toArray 42 (0, 0)), pool c_7', HA.blk b_2' (.cells [zI 0, Value.nilFunc].toArray 45 (0, 0)), HA.blk b_1' (.cells [zI a_0_4', a_1_4'].toArray 45 (0, 0))]) [2, 3, 0, 1] rfl rfl ?_
       refine WL.callS awk rfl (arn b s_0 s_1_2' s_2 a_0_4' a_1_4' c_7' o_66') rfl trivial rfl rfl (fun r H' hS => ?_) (fun c H' hS => ?_)
       ·rcases hS with ⟨sz_29', u_29', j_5', B_35', hc, ho⟩ | ⟨c_10', p_5', q_5', B_36', hc, ho⟩ <;> cases ho
        replace h := h.1 sz_29' u_29' j_5' B_35' hc
        obtain ⟨o_67', h⟩ := h
        refine WL.storeW (vs := [zI sz_29', u_29']) 3 rfl rfl rfl rfl rfl j8 rfl (d4 rfl (d4 o_67' m6)) rfl ?_
        refine WL.nil ?_
        refine kg (hK_52' [(0, zP b), (3, zP b_1'), (4, zP b_2')] _ ?_)
        refine s5 ?_
        exact kh (hK_36' (sz_29', u_29', j_5', B_35') h.1 h.2) [2, 3, 0, 1]
       ·rcases hS with ⟨sz_29', u_29', j_5', B_35', hc, ho⟩ | ⟨c_10', p_5', q_5', B_36', hc, ho⟩ <;> cases ho
        replace h := h.2 c_10' p_5' q_5' B_36' hc
        exact hE.pan [0, 1] rfl rfl (.inr ⟨_, _, _, _, _, h, rfl⟩)
      ·replace h := j5 h hb
       refine a6 (fun _ hK_53' => ?_)
       refine a4 ?_
       refine wv (OV.loadR rfl (At.own 1 rfl) i8) ?_
       obtain ⟨o_68', h⟩ := h
       refine WL.storeW (vs := [zI a_0_4', a_1_4']) 0 rfl rfl rfl rfl rfl j8 rfl (d4 rfl (d4 o_68' m6)) rfl ?_
       refine WL.nil ?_
       refine kg (hK_53' [(4, zP b_2')] _ ?_)
       refine c9 ?_
       exact hE.ret [2, 3] rfl rfl (.inl ⟨_, _, _, _, _, _, h, rfl⟩) (f9.of1 rfl (RV.row rfl (At.own 0 rfl) i8))
 ·replace h := j5 h hb
  refine s5 ?_
  refine kg (hK_1' [(3, zP b_1'), (4, zP b_2')] _ ?_)
  refine a6 (fun _ hK_54' => ?_)
  refine a4 ?_
  refine wv (OV.loadR rfl (At.own 1 rfl) i8) ?_
  obtain ⟨o_69', h⟩ := h
  refine WL.storeW (vs := [zI a_0_4', a_1_4']) 0 rfl rfl rfl rfl rfl j8 rfl (d4 rfl (d4 o_69' m6)) rfl ?_
  refine WL.nil ?_
  refine kg (hK_54' [(4, zP b_2')] _ ?_)
  refine c9 ?_
  exact hE.ret [2, 3] rfl rfl (.inl ⟨_, _, _, _, _, _, h, rfl⟩) (f9.of1 rfl (RV.row rfl (At.own 0 rfl) i8))
theorem arb (b : Nat) (t : List UInt8) (i : Int) (w : Value) (sa : Int) (a : Value) (B : List (Nat × Obj)) (h : 0 ≤ i ∧ i ≤ (t.length : Int) ∧ t.length ≤ 1048576 ∧ abl sa a) : d5 Tryd.prog 53 [.pointer (some ⟨b, 0, none⟩), .agg [.int .i64 sa, a].toArray] [] [scB b t i w, pool B]
  (fun o => (∃ n u j B', a1l t i B B' sa a j n u ∧ o = .ret (.agg [.int .i64 n, u].toArray) [scB b t j w, pool B']) ∨ (∃ c p q B', a1z t i B sa a c p ∧ o = .pan [{ v := o3 c p, recovered := false }] [scB b t q w, pool B'])) := by
 obtain ⟨h0, h1, h2, hr⟩ := h
 refine (auq b t i w sa a B (fun n u t' j w' D => t' = t ∧ w' = w ∧ a1l t i B D sa a j n u) (fun v t' _ w' _ => t' = t ∧ w' = w ∧ ∃ c p, v = o3 c p ∧ a1z t i B sa a c p) ?_).weak ?_
 ·refine ⟨fun n u j c => ac2 B c ∧ abl n u ∧ i ≤ j ∧ j ≤ t.length ∧ ∀ x, Is B sa a x → ∃ y, Is c n u y ∧ ∀ r, RP t y j r → RP t x i r, fun _ _ j _ => (t.length - j).toNat, ⟨ac2.refl B, hr, by omega, by omega, fun x hx => ⟨x, hx, fun _ h => h⟩⟩, ?_⟩
  rintro n u j c ⟨i1, i2, i3, i4, i5⟩
  by_cases hl : (t.length : Int) ≤ j
  ·rw [if_neg (by simpa using hl)]
   exact ⟨i2.2, rfl, rfl, i1, i2, i3, i4, fun x hx => by obtain ⟨y, y1, y2⟩ := i5 x hx; exact ⟨y, y2 _ (.zero (by omega)), y1⟩⟩
  rw [if_pos (by simpa using hl)]
  refine ⟨fun c' n' u' => ac2 B c' ∧ abl n' u' ∧ ∀ x, Is B sa a x → ∃ y, Is c' n' u' y ∧ ∀ r, RP t y (j + 1) r → RP t x i r, ?_, by omega, ?_⟩
  ·rintro c' n' u' ⟨j1, j2, j3⟩
   exact ⟨by unfold I64; omega, ⟨j1, j2, by omega, by omega, j3⟩, by show (t.length - (j + 1)).toNat < (t.length - j).toNat; omega⟩
  by_cases c1 : nx t j = 42
  ·rw [if_pos (by simpa using c1)]
   refine ⟨i2.1, ?_⟩
   rintro k v B1 ⟨g1, g2, g3⟩
   refine ⟨g2.2, i1.trans g1, g2, fun x hx => ?_⟩
   obtain ⟨y, y1, y2⟩ := i5 x hx
   exact ⟨_, g3 y y1, fun r hq => y2 _ (.one (by omega) (.inl c1) (by rw [ak2, if_pos c1]; exact hq))⟩
  rw [if_neg (by simpa using c1)]
  by_cases c2 : nx t j = 43
  ·rw [if_pos (by simpa using c2)]
   refine ⟨i2.1, ?_⟩
   rintro k v B1 ⟨g1, g2, g3⟩
   refine ⟨⟨i2.1, g2.1⟩, ?_⟩
   rintro k2 v2 B2 ⟨e1, e2, e3⟩
   refine ⟨e2.2, (i1.trans g1).trans e1, e2, fun x hx => ?_⟩
   obtain ⟨y, y1, y2⟩ := i5 x hx
   exact ⟨_, e3 y _ (y1.more g1) (g3 y y1), fun r hq => y2 _ (.one (by omega) (.inr (.inl c2)) (by rw [ak2, if_neg c1, if_pos c2]; exact hq))⟩
  rw [if_neg (by simpa using c2)]
  by_cases c3 : nx t j = 63
  ·rw [if_pos (by simpa using c3)]
   refine ⟨i2.1, ?_⟩
   rintro k v B1 ⟨g1, g2, g3⟩
   refine ⟨g2.2, i1.trans g1, g2, fun x hx => ?_⟩
   obtain ⟨y, y1, y2⟩ := i5 x hx
   exact ⟨_, g3 y y1, fun r hq => y2 _ (.one (by omega) (.inr (.inr c3)) (by rw [ak2, if_neg c1, if_neg c2]; exact hq))⟩
  rw [if_neg (by simpa using c3)]
  by_cases c4 : nx t j = 123
  ·rw [if_pos (by simpa using c4)]
   refine ⟨⟨by omega, by omega, h2, i2⟩, ?_, ?_⟩
   ·rintro k v q B1 ⟨g1, g2, g3, g4, g5⟩
    refine ⟨g2.2, ⟨i1.trans g1, g2, by omega, g4, fun x hx => ?_⟩, by show (t.length - q).toNat < (t.length - j).toNat; omega⟩
    obtain ⟨y, y1, y2⟩ := i5 x hx
    obtain ⟨z, z1, z2⟩ := g5 y y1
    exact ⟨z, z2, fun r hq => y2 _ (.brace (by omega) c4 z1 hq)⟩
   ·intro cc p q B1 hE
    refine ⟨rfl, rfl, cc, p, rfl, fun x hx => ?_⟩
    obtain ⟨y, y1, y2⟩ := i5 x hx
    exact y2 _ (.braceE (by omega) c4 (hE y y1))
  ·rw [if_neg (by simpa using c4)]
   exact ⟨i2.2, rfl, rfl, i1, i2, i3, i4, fun x hx => by obtain ⟨y, y1, y2⟩ := i5 x hx; exact ⟨y, y2 _ (.zero (by omega)), y1⟩⟩
 ·rintro o (⟨n, u, t', j, w', D, ⟨rfl, rfl, hm⟩, rfl⟩ | ⟨v, t', q, w', D, ⟨rfl, rfl, c, p, rfl, hm⟩, rfl⟩)
  ·exact .inl ⟨n, u, j, D, hm, rfl⟩
  ·exact .inr ⟨c, p, q, D, hm, rfl⟩
end Go.Proofs.YtffhedoahdgniaaDoor
set_option maxRecDepth 100000
namespace Go.Proofs.YtffhedoahdgniaaDoor
open Go Go.RowKit
theorem axa : r8 Tryd.prog 63 = true := by kernel_rfl
theorem afs : aaj Tryd.prog 24 = true := by kernel_rfl
theorem aeq : Program.stoodInHeld Tryd.prog 26 = false := by kernel_rfl
theorem ag7 : Program.eqGuardType Tryd.prog Tryd.prog.depth 26 = false := by kernel_rfl
theorem aaa : m5 Tryd.prog 42 2 = some 2 := by kernel_rfl
theorem ac5 : aaj Tryd.prog 40 = true := by kernel_rfl
theorem amb : s7 Tryd.prog 40 1 = true := by kernel_rfl
theorem ao2 : r8 Tryd.prog 10 = true := by kernel_rfl
theorem awg : r8 Tryd.prog 54 = true := by kernel_rfl
theorem aw1 : r8 Tryd.prog 53 = true := by kernel_rfl
theorem aj5 : r8 Tryd.prog 38 = true := by kernel_rfl
theorem apa : r8 Tryd.prog 26 = true := by kernel_rfl
inductive AtR (t : List UInt8) (d : Nat) (i : Int) : aex → Prop
 | set {s : CS} {k : Int} : nx t i ≠ 40 → l8 t i = (s, k, 0, 0) → AtR t d i (.ok (.cls s, k))
 | setE {s : CS} {k e p : Int} : nx t i ≠ 40 → l8 t i = (s, k, e, p) → ¬ (e = 0 ∧ p = 0) → AtR t d i (.error (e, p))
 | nest : nx t i = 40 → 1000 ≤ d → AtR t d i (.error (23, i))
 | par {x : Tr} {k : Int} : nx t i = 40 → d < 1000 → PR t .alt (d + 1) (i + 1) (.ok (x, k)) → k < t.length → AtR t d i (.ok (x, k + 1))
 | parE {e : Int × Int} : nx t i = 40 → d < 1000 → PR t .alt (d + 1) (i + 1) (.error e) → AtR t d i (.error e)
 | parO {x : Tr} {k : Int} : nx t i = 40 → d < 1000 → PR t .alt (d + 1) (i + 1) (.ok (x, k)) → ¬ (k < t.length) → AtR t d i (.error (21, i))
def aku (t : List UInt8) (j : Int) : Prop := nx t j ≠ 124 ∧ nx t j ≠ 38 ∧ nx t j ≠ 45 ∧ nx t j ≠ 41 ∧ nx t j ≠ 42 ∧ nx t j ≠ 43 ∧ nx t j ≠ 63 ∧ nx t j ≠ 123
theorem aku.mem {t : List UInt8} {j : Int} (h : aku t j) (h40 : nx t j ≠ 40) : nx t j ∉ [124, 38, 45, 41, 42, 43, 63, 123, 40] := by
 unfold aku at h; simp; omega
theorem AtR.row {t : List UInt8} {d : Nat} {j k l : Int} {x y : Tr} {acc : Option Tr} {r : aex} (h : AtR t d j (.ok (x, k))) (hl : j < t.length) (hc : aku t j) (hr : RP t x k (.ok (y, l))) (h2 : PR t (.row (amw acc y)) d l r) : PR t (.row acc) d j r := by
 cases h with
 | set a b => exact .rowC hl (hc.mem a) b hr h2
 | par a b c e => exact .rowP hl a b c e hr h2
theorem AtR.rowR {t : List UInt8} {d : Nat} {j k : Int} {x : Tr} {acc : Option Tr} {e : Int × Int} (h : AtR t d j (.ok (x, k))) (hl : j < t.length) (hc : aku t j) (hr : RP t x k (.error e)) : PR t (.row acc) d j (.error e) := by
 cases h with
 | set a b => exact .rowCR hl (hc.mem a) b hr
 | par a b c e => exact .rowPR hl a b c e hr
theorem AtR.rowE {t : List UInt8} {d : Nat} {j : Int} {acc : Option Tr} {e : Int × Int} (h : AtR t d j (.error e)) (hl : j < t.length) (hc : aku t j) : PR t (.row acc) d j (.error e) := by
 cases h with
 | setE a b c => exact .rowCE hl (hc.mem a) b c
 | nest a b => exact .rowN hl a b
 | parE a b c => exact .rowPE hl a b c
 | parO a b c d => exact .rowO hl a b c d
theorem AtR.ends {t : List UInt8} {d : Nat} {i k : Int} {x : Tr} (h : AtR t d i (.ok (x, k))) (h0 : 0 ≤ i) (hl : i < t.length) : i < k ∧ k ≤ t.length := by
 cases h with
 | set a b => exact ag1 b h0
 | par a b c e => have := c.ends (by omega) (by omega) _ _ rfl; omega
def agb (R : aex → Prop) (t : List UInt8) (i : Int) (B B' : List (Nat × Obj)) (j n : Int) (u : Value) : Prop :=
 ac2 B B' ∧ abl n u ∧ i ≤ j ∧ j ≤ t.length ∧ ∃ x, R (.ok (x, j)) ∧ Is B' n u x
abbrev opR (w : Value) (o : List Int) : HA := .row w 3 1 o.length (o.flatMap t0)
def a1f (t : List UInt8) (b : Nat) (o : List Int) (i : Int) (B : List (Nat × Obj)) (R : aex → Prop) : Out → Prop := fun out =>
 (∃ (n : Int) (u : Value) (j : Int) (w : Value) (B' : List (Nat × Obj)), agb R t i B B' j n u ∧ out = .ret (.agg [.int .i64 n, u].toArray) [scB b t j w, opR w o, pool B']) ∨
 (∃ (c p q : Int) (w : Value) (o2 : List Int) (B2 : List (Nat × Obj)), R (.error (c, p)) ∧ out = .pan [{ v := o3 c p, recovered := false }] [scB b t q w, opR w o2, pool B2])
def ajd (t : List UInt8) (i : Int) : Prop := ∀ (b : Nat) (te : TypeId) (fre : Nat × Nat) (w : Value) (o : List Int) (B : List (Nat × Obj)), 0 ≤ i ∧ i < (t.length : Int) ∧ t.length ≤ 1048576 ∧ o.length ≤ 1000 →
 d5 Tryd.prog 54 [.pointer (some ⟨b, 0, none⟩)] (z8 te fre) [scB b t i w, opR w o, pool B] (a1f t b o i B (AtR t o.length i))
def an7 (f : FuncId) (m : Md) (t : List UInt8) (i : Int) : Prop := ∀ (b : Nat) (te : TypeId) (fre : Nat × Nat) (w : Value) (o : List Int) (B : List (Nat × Obj)), 0 ≤ i ∧ i ≤ (t.length : Int) ∧ t.length ≤ 1048576 ∧ o.length ≤ 1000 →
 d5 Tryd.prog f [.pointer (some ⟨b, 0, none⟩)] (z8 te fre) [scB b t i w, opR w o, pool B] (a1f t b o i B (PR t m o.length i))
abbrev ag8 (t : List UInt8) (i : Int) : Prop := an7 38 (.row none) t i
abbrev agx (t : List UInt8) (i : Int) : Prop := an7 26 .meet t i
abbrev ahg (t : List UInt8) (i : Int) : Prop := an7 10 .alt t i
abbrev KR (R : aex → Prop) (t : List UInt8) (o : List Int) (i : Int) (B : List (Nat × Obj)) : Int → Value → List UInt8 → Int → List Int → List (Nat × Obj) → Prop := fun n u t' j o' D => t' = t ∧ o' = o ∧ agb R t i B D j n u
abbrev KE (R : aex → Prop) (t : List UInt8) : Value → List UInt8 → Int → List Int → List (Nat × Obj) → Prop := fun v t' _ _ _ => t' = t ∧ ∃ c p, v = o3 c p ∧ R (.error (c, p))
def are (s_0 : List UInt8) (s_1 : Int) (sl : List Int) (B : List (Nat × Obj)) (K : Int → Value → (List UInt8) → Int → (List Int) → (List (Nat × Obj)) → Prop) (KP : Value → (List UInt8) → Int → (List Int) → (List (Nat × Obj)) → Prop) : Prop :=
 (0 ≤ s_1) ∧
 (if (!decide (nx s_0 s_1 = 40)) = true then
  (s_0.length ≤ 9223372036854775807) ∧
  (if (!o0 [decide ((l8 s_0 s_1).2.2.1 = 0), decide ((l8 s_0 s_1).2.2.2 = 0), decide (([] : List UInt8) = [])]) = true then
   KP (Value.iface 26 (Value.agg [zI ((l8 s_0 s_1).2.2.1), zI ((l8 s_0 s_1).2.2.2), st []].toArray)) s_0 s_1 sl B
  else
   (∀ (sz : Int) (u : Value) (B_1' : List (Nat × Obj)), ao9 B B_1' (.cls ((l8 s_0 s_1).1)) sz u →
    (u.oneCell' = true) ∧
    K sz u s_0 ((l8 s_0 s_1).2.1) sl B_1'))
 else
  (if (decide (1000 ≤ (sl.length : Int))) = true then
   KP (o3 23 s_1) s_0 s_1 sl B
  else
   (((sl.length + 1) + (sl.length + 1) / 4 + 192) * 8 ≤ 281474976710656 ∧ sl.length + 1 ≤ 9223372036854775807) ∧
   (I64 (s_1 + 1)) ∧
   (ahg s_0 (s_1 + 1)) ∧
   (0 ≤ (s_1 + 1) ∧ (s_1 + 1) ≤ (s_0.length : Int) ∧ s_0.length ≤ 1048576 ∧ (sl ++ [s_1]).length ≤ 1000) ∧
   (∀ (sz_1' : Int) (u_1' : Value) (j : Int) (B_2' : List (Nat × Obj)), agb (PR s_0 .alt (sl ++ [s_1]).length (s_1 + 1)) s_0 (s_1 + 1) B B_2' j sz_1' u_1' →
    (u_1'.oneCell' = true) ∧
    (if (decide ((s_0.length : Int) ≤ j)) = true then
     (I64 (((sl ++ [s_1]).length : Int) - 1)) ∧
     (0 ≤ (((sl ++ [s_1]).length : Int) - 1) ∧ (((sl ++ [s_1]).length : Int) - 1) < ((sl ++ [s_1]).length : Int)) ∧
     KP (o3 21 ((sl ++ [s_1]).getD ((((sl ++ [s_1]).length : Int) - 1)).toNat default)) s_0 j (sl ++ [s_1]) B_2'
    else
     (I64 (j + 1)) ∧
     (I64 (((sl ++ [s_1]).length : Int) - 1)) ∧
     (0 ≤ (((sl ++ [s_1]).length : Int) - 1) ∧ (((sl ++ [s_1]).length : Int) - 1) ≤ ((sl ++ [s_1]).length : Int)) ∧
     (u_1'.oneCell' = true) ∧
     K sz_1' u_1' s_0 (j + 1) ((sl ++ [s_1]).take (((((sl ++ [s_1]).length : Int) - 1)).toNat)) B_2')) ∧
   (∀ (c : Int) (p : Int) (q : Int) (o_5' : List Int) (B_3' : List (Nat × Obj)), PR s_0 .alt (sl ++ [s_1]).length (s_1 + 1) (.error (c, p)) →
    KP (o3 c p) s_0 q o_5' B_3')))
theorem a05 (b : Nat) (w : Value) (te : TypeId) (fre : Nat × Nat) (s_0 : List UInt8) (s_1 : Int) (sl : List Int) (B : List (Nat × Obj)) (K : Int → Value → (List UInt8) → Int → (List Int) → (List (Nat × Obj)) → Prop) (KP : Value → (List UInt8) → Int → (List Int) → (List (Nat × Obj)) → Prop) (h : are s_0 s_1 sl B K KP) :
  d5 Tryd.prog 54 [zP b] [(0, .cells [zU 110, zU 10, zU 114, zU 13, zU 116, zU 9].toArray te fre)] [HA.blk b (.cells [st s_0, zI s_1, w].toArray 42 (0, 0)), HA.row w 3 1 sl.length (sl.flatMap t0), pool B] (fun o => (∃ (v_0 : Int) (v_1 : Value) (d_1' : List UInt8) (d_2' : Int) (w_4' : Value) (d : List Int) (D : List (Nat × Obj)), K v_0 v_1 d_1' d_2' d D ∧ o = .ret (Value.agg [zI v_0, v_1].toArray) [HA.blk b (.cells [st d_1', zI d_2', w_4'].toArray 42 (0, 0)), HA.row w_4' 3 1 d.length (d.flatMap t0), pool D]) ∨ (∃ (pv : Value) (d_1' : List UInt8) (d_2' : Int) (w_4' : Value) (d : List Int) (D : List (Nat × Obj)), KP pv d_1' d_2' d D ∧ o = .pan [{ v := pv, recovered := false }] [HA.blk b (.cells [st d_1', zI d_2', w_4'].toArray 42 (0, 0)), HA.row w_4' 3 1 d.length (d.flatMap t0), pool D])) := by
 unfold are at h
 refine c8 (n := 108) (L0 := [(0, zP b)]) Tryd.func54 rfl rfl rfl rfl (fun w0 M Q hE => ?_)
 refine a6 (fun _ hK => ?_)
 refine a4 ?_
 refine WL.make (MV.alloc s9) rfl rfl rfl (fun b_1' => ?_)
 refine WL.nil ?_
 refine kg (hK [(0, zP b), (2, zP b_1')] _ ?_)
 refine a6 (fun _ hK_1' => ?_)
 refine a6 (fun _ hK_2' => ?_)
 refine a4 ?_
 refine wm ?_
 obtain ⟨o, h⟩ := h
 refine WL.call (A := []) aat rfl (aax b s_0 s_1 w o) rfl ⟨.inl ⟨1, rfl⟩, trivial⟩ rfl rfl ?_
 refine wv (OV.neq rfl rfl) ?_
 refine WL.nil ?_
 refine kg (hK_2' [(0, zP b), (2, zP b_1'), (9, zB (!decide (nx s_0 s_1 = 40)))] _ ?_)
 refine b6 (b := !decide (nx s_0 s_1 = 40)) rfl (fun hb => ?_) (fun hb => ?_)
 ·replace h := j4 h hb
  refine a6 (fun _ hK_3' => ?_)
  refine auz [(13, .cells (wl cs0).toArray 81 (0, 0)), (14, .cells [zI 0, zI 0, st []].toArray 26 (0, 0))] [(15, 13, .cells (wl ((l8 s_0 s_1).1)).toArray 81 (0, 0)), (17, 14, .cells [zI ((l8 s_0 s_1).2.2.1), zI ((l8 s_0 s_1).2.2.2), st []].toArray 26 (0, 0))] g8 (by kernel_rfl) rfl rfl (fun T hT => ?_)
  refine FS.val (fun _ => OV.move rfl) rfl rfl (fun _ => rfl) rfl rfl ?_
  refine FS.val (fun _ => OV.nilCheck rfl) rfl rfl (fun _ => rfl) rfl rfl ?_
  refine FS.val (fun _ => OV.fieldAddr0 rfl ac9) rfl rfl (fun _ => rfl) rfl rfl ?_
  refine FS.val (fun _ => OV.load rfl (At.own 1 rfl) rfl w6) rfl rfl (fun _ => rfl) rfl rfl ?_
  refine FS.val (fun _ => OV.move rfl) rfl rfl (fun _ => rfl) rfl rfl ?_
  refine FS.val (fun _ => OV.nilCheck rfl) rfl rfl (fun _ => rfl) rfl rfl ?_
  refine FS.val (fun _ => OV.fieldAddr0 rfl d9) rfl rfl (fun _ => rfl) rfl rfl ?_
  refine FS.val (fun _ => OV.load rfl (At.own 1 rfl) rfl b5) rfl rfl (fun _ => rfl) rfl rfl ?_
  obtain ⟨o_1', h⟩ := h
  refine FS.call axa (fun _ => rfl) (aw3 te fre s_0 s_1 o_1') ⟨.inr (List.mem_of_getElem? (i := 0) rfl), trivial⟩ rfl rfl (fun _ => rfl) rfl ?_
  refine FS.val (fun _ => OV.move rfl) rfl rfl (fun _ => rfl) rfl rfl ?_
  refine FS.val (fun _ => OV.extract 0 rfl rfl) rfl rfl (fun _ => rfl) rfl rfl ?_
  refine FS.val (fun _ => OV.extract 1 rfl rfl) rfl rfl (fun _ => rfl) rfl rfl ?_
  refine FS.val (fun _ => OV.extract 2 rfl rfl) rfl rfl (fun _ => rfl) rfl rfl ?_
  refine FS.make (fun _ => MV.alloc aef) rfl rfl (fun _ => rfl) rfl rfl ?_
  refine FS.make (fun _ => MV.alloc ac1) rfl rfl (fun _ => rfl) rfl rfl ?_
  refine FS.storeW (cs := wl cs0) (vs := wl ((l8 s_0 s_1).1)) (n := 4) (fun _ => rfl) (fun _ => rfl) rfl rfl rfl rfl rfl rfl aae rfl rfl (fun _ => rfl) ?_
  refine FS.val (fun _ => OV.assign rfl) rfl rfl (fun _ => rfl) rfl rfl ?_
  refine FS.storeW (cs := [zI 0, zI 0, st []]) (vs := [zI ((l8 s_0 s_1).2.2.1), zI ((l8 s_0 s_1).2.2.2), st []]) (n := 3) (fun _ => rfl) (fun _ => rfl) rfl rfl rfl rfl rfl rfl aak rfl rfl (fun _ => rfl) ?_
  refine FS.weak (L' := fun γ => [(0, zP b), (2, zP b_1'), (3, Value.pointer (some ⟨(γ 13), 0, none⟩)), (4, zI ((l8 s_0 s_1).2.1)), (5, Value.pointer (some ⟨(γ 14), 0, none⟩))]) (fun γ => ⟨rfl, rfl, rfl, rfl, rfl, trivial⟩) (FS.nil (hT (fun γ => [(0, zP b), (2, zP b_1'), (3, Value.pointer (some ⟨(γ 13), 0, none⟩)), (4, zI ((l8 s_0 s_1).2.1)), (5, Value.pointer (some ⟨(γ 14), 0, none⟩))]) (fun γ => ?_)))
  show QX _ _ _ [(0, zP b), (2, zP b_1'), (3, Value.pointer (some ⟨(γ 13), 0, none⟩)), (4, zI ((l8 s_0 s_1).2.1)), (5, Value.pointer (some ⟨(γ 14), 0, none⟩))] [HA.blk (γ 13) (.cells (wl ((l8 s_0 s_1).1)).toArray 81 (0, 0)), HA.blk (γ 14) (.cells [zI ((l8 s_0 s_1).2.2.1), zI ((l8 s_0 s_1).2.2.2), st []].toArray 26 (0, 0)), HA.blk b_1' (.cells [zI 0, Value.nilFunc].toArray 45 (0, 0)), HA.blk b (.cells [st s_0, zI s_1, w].toArray 42 (0, 0)), HA.row w 3 1 sl.length (sl.flatMap t0), pool B]
  generalize γ 13 = b_2'
  generalize γ 14 = b_3'
  refine kg (hK_3' [(0, zP b), (2, zP b_1'), (3, zP b_2'), (4, zI ((l8 s_0 s_1).2.1)), (5, zP b_3')] _ ?_)
  refine a6 (fun _ hK_4' => ?_)
  refine a6 (fun _ hK_5' => ?_)
  refine a4 ?_
  refine wv (OV.loadR rfl (At.own 1 rfl) aab) ?_
  refine wv (OV.build rfl (cs := [zI 0, zI 0, st []]) rfl) ?_
  refine wv (OV.neqF (rs := [decide ((l8 s_0 s_1).2.2.1 = 0), decide ((l8 s_0 s_1).2.2.2 = 0), decide (([] : List UInt8) = [])]) rfl rfl Tryd.underlying26 aeq ag7 ⟨rfl, afs, ⟨_, _, rfl, rfl, aa3.int Tryd.underlying24⟩, ⟨rfl, b5, ⟨_, _, rfl, rfl, aa3.int Tryd.underlying3⟩, ⟨rfl, w6, ⟨_, _, rfl, rfl, aa3.str Tryd.underlying9⟩, trivial⟩⟩⟩) ?_
  refine WL.nil ?_
  refine kg (hK_5' [(0, zP b), (2, zP b_1'), (3, zP b_2'), (4, zI ((l8 s_0 s_1).2.1)), (5, zP b_3'), (25, zB (!o0 [decide ((l8 s_0 s_1).2.2.1 = 0), decide ((l8 s_0 s_1).2.2.2 = 0), decide (([] : List UInt8) = [])]))] _ ?_)
  refine b6 (b := !o0 [decide ((l8 s_0 s_1).2.2.1 = 0), decide ((l8 s_0 s_1).2.2.2 = 0), decide (([] : List UInt8) = [])]) rfl (fun hb => ?_) (fun hb => ?_)
  ·replace h := j4 h hb
   refine a4 ?_
   refine wv (OV.loadR rfl (At.own 1 rfl) aab) ?_
   refine wv (OV.iface rfl aiu) ?_
   refine WL.panic rfl rfl ?_
   exact hE.pan [3, 4, 5] rfl rfl (.inr ⟨_, _, _, _, _, _, h, rfl⟩)
  ·replace h := j5 h hb
   refine b7 ?_
   refine kg (hK_4' [(0, zP b), (2, zP b_1'), (3, zP b_2'), (4, zI ((l8 s_0 s_1).2.1))] _ ?_)
   refine a6 (fun _ hK_6' => ?_)
   refine a4 ?_
   refine wm ?_
   refine wm ?_
   refine wv (OV.nilCheck rfl) ?_
   refine wv (OV.fieldAddr0 rfl d9) ?_
   refine WL.store (vs := [zI ((l8 s_0 s_1).2.1)]) (cs' := [st s_0, zI ((l8 s_0 s_1).2.1), w]) 3 rfl rfl rfl rfl g9 (Nat.le_of_ble_eq_true rfl) rfl rfl rfl ?_
   refine WL.nil ?_
   refine kg (hK_6' [(2, zP b_1'), (3, zP b_2')] _ ?_)
   refine a6 (fun _ hK_7' => ?_)
   refine a4 ?_
   refine wv (OV.loadR rfl (At.own 0 rfl) y5) ?_
   refine wv (OV.build rfl (cs := wl ((l8 s_0 s_1).1)) rfl) ?_
   refine wv (OV.cast (OV.iface rfl aig) (v' := Tr.val (.cls ((l8 s_0 s_1).1))) rfl) ?_
   refine WL.pick (H' := [pool B, HA.blk b_2' (.cells (wl ((l8 s_0 s_1).1)).toArray 81 (0, 0)), HA.blk b_3' (.cells [zI ((l8 s_0 s_1).2.2.1), zI ((l8 s_0 s_1).2.2.2), st []].toArray 26 (0, 0)), HA.blk b_1' (.cells [zI 0, Value.nilFunc].toArray 45 (0, 0)), HA.blk b (.cells [st s_0, zI ((l8 s_0 s_1).2.1), w].toArray 42 (0, 0)), HA.row w 3 1 sl.length (sl.flatMap t0)]) [5, 0, 1, 2, 3, 4] rfl rfl ?_
   refine WL.callS ahm rfl (ahn (.cls ((l8 s_0 s_1).1)) B) rfl trivial rfl rfl (fun r H' hS => ?_) (fun c H' hS => ?_)
   ·obtain ⟨sz, u, B_1', hc, ho⟩ := hS
    cases ho
    replace h := h sz u B_1' hc
    obtain ⟨o_2', h⟩ := h
    refine WL.storeW (vs := [zI sz, u]) 3 rfl rfl rfl rfl rfl j8 rfl (d4 rfl (d4 o_2' m6)) rfl ?_
    refine WL.nil ?_
    refine kg (hK_7' [(2, zP b_1')] _ ?_)
    refine c9 ?_
    exact hE.ret [4, 5, 0] rfl rfl (.inl ⟨_, _, _, _, _, _, _, h, rfl⟩) (f9.of1 rfl (RV.row rfl (At.own 3 rfl) i8))
   ·obtain ⟨sz, u, B_1', hc, ho⟩ := hS
    cases ho
 ·replace h := j5 h hb
  refine b7 ?_
  refine kg (hK_1' [(0, zP b), (2, zP b_1')] _ ?_)
  refine a6 (fun _ hK_8' => ?_)
  refine a6 (fun _ hK_9' => ?_)
  refine a4 ?_
  refine wm ?_
  refine wv (OV.nilCheck rfl) ?_
  refine wv (OV.fieldAddr0 rfl aaa) ?_
  refine wv (OV.load rfl (At.own 1 rfl) rfl ac5) ?_
  refine wv (OV.lenRow 2 rfl rfl y9) ?_
  refine wv (OV.geq rfl rfl) ?_
  refine WL.nil ?_
  refine kg (hK_9' [(0, zP b), (2, zP b_1'), (41, zB (decide (1000 ≤ (sl.length : Int))))] _ ?_)
  refine b6 (b := decide (1000 ≤ (sl.length : Int))) rfl (fun hb => ?_) (fun hb => ?_)
  ·replace h := j4 h hb
   refine a4 ?_
   refine wm ?_
   refine wm ?_
   refine wv (OV.nilCheck rfl) ?_
   refine wv (OV.fieldAddr0 rfl d9) ?_
   refine wv (OV.load rfl (At.own 1 rfl) rfl b5) ?_
   refine WL.callS ac3 rfl (acg (zP b) 23 s_1) rfl trivial rfl rfl (fun r H' hS => by cases hS) (fun c H' hS => ?_)
   cases hS
   exact hE.pan [1, 2, 3] rfl rfl (.inr ⟨_, _, _, _, _, _, h, rfl⟩)
  ·replace h := j5 h hb
   refine b7 ?_
   refine kg (hK_8' [(0, zP b), (2, zP b_1')] _ ?_)
   refine a6 (fun _ hK_10' => ?_)
   refine x1 9 [0, 1, 3] [HA.blk b_1' (.cells [zI 0, Value.nilFunc].toArray 45 (0, 0)), HA.blk b (.cells [st s_0, zI s_1, w].toArray 42 (0, 0)), pool B] rfl rfl g8 (by kernel_rfl) (fun T_1' hT_1' => ?_)
   refine TW.val (OV.move rfl) rfl rfl rfl ?_
   refine TW.val (OV.move rfl) rfl rfl rfl ?_
   refine TW.val (OV.nilCheck rfl) rfl rfl rfl ?_
   refine TW.val (OV.fieldAddr0 rfl aaa) rfl rfl rfl ?_
   refine TW.val (OV.load rfl (At.own 1 rfl) rfl ac5) rfl rfl rfl ?_
   refine TW.val (OV.move rfl) rfl rfl rfl ?_
   refine TW.val (OV.nilCheck rfl) rfl rfl rfl ?_
   refine TW.val (OV.fieldAddr0 rfl d9) rfl rfl rfl ?_
   refine TW.val (OV.load rfl (At.own 1 rfl) rfl b5) rfl rfl rfl ?_
   refine TW.nil (hT_1' _ ?_)
   refine WLX.make (MV.buildSlice (cs := [zI s_1]) rfl y9 (by kernel_rfl)) [1, 2, 4] rfl (fun _ => rfl) rfl rfl rfl (fun b_4' => ?_)
   obtain ⟨o_3', h⟩ := h
   refine WLX.valX (ach (f := t0) (ms := [s_1]) 3 0 rfl rfl rfl rfl rfl rfl aa7 (by decide) rfl y9 aoz rfl o_3') [1, 2, 4] rfl (fun _ _ e => by cases e; rfl) rfl rfl rfl (fun w_1' _ e => ?_)
   cases e
   refine WLX.op [1, 2, 4] rfl rfl (OpK.val (OV.nilCheck rfl) rfl rfl) rfl ?_
   refine WLX.op [1, 2, 4] rfl rfl (OpK.val (OV.fieldAddr0 rfl aaa) rfl rfl) rfl ?_
   refine WLX.opZ (OpK.storeSl (cs' := [st s_0, zI s_1, w_1']) 2 3 rfl rfl rfl rfl amb (Nat.le_of_ble_eq_true rfl) rfl) rfl ?_
   refine WLX.nil ?_
   refine kg (hK_10' [(0, zP b), (2, zP b_1')] _ ?_)
   refine a6 (fun _ hK_11' => ?_)
   refine a4 ?_
   refine wm ?_
   refine wv (OV.nilCheck rfl) ?_
   refine wv (OV.fieldAddr0 rfl d9) ?_
   refine wv (OV.load rfl (At.own 2 rfl) rfl b5) ?_
   obtain ⟨o_4', h⟩ := h
   refine wv (OV.add rfl rfl o_4') ?_
   refine wv (OV.nilCheck rfl) ?_
   refine wv (OV.fieldAddr0 rfl d9) ?_
   refine WL.store (vs := [zI (s_1 + 1)]) (cs' := [st s_0, zI (s_1 + 1), w_1']) 2 rfl rfl rfl rfl g9 (Nat.le_of_ble_eq_true rfl) rfl rfl rfl ?_
   refine WL.nil ?_
   refine kg (hK_11' [(0, zP b), (2, zP b_1')] _ ?_)
   refine a6 (fun _ hK_12' => ?_)
   refine a4 ?_
   refine wm ?_
   obtain ⟨o_6', h⟩ := h
   obtain ⟨o_7', h⟩ := h
   refine WL.pick (H' := [HA.blk b (.cells [st s_0, zI (s_1 + 1), w_1'].toArray 42 (0, 0)), HA.row w_1' 3 1 (sl ++ [s_1]).length ((sl ++ [s_1]).flatMap t0), pool B, HA.blk b_4' (.cells [zI s_1].toArray 3 (0, 0)), HA.blk b_1' (.cells [zI 0, Value.nilFunc].toArray 45 (0, 0))]) [2, 3, 4, 0, 1] rfl rfl ?_
   refine WL.callS ao2 rfl (o_6' b te fre w_1' (sl ++ [s_1]) B o_7') rfl ⟨.inr (List.mem_of_getElem? (i := 0) rfl), trivial⟩ rfl rfl (fun r H' hS => ?_) (fun c H' hS => ?_)
   ·rcases hS with ⟨sz_1', u_1', j, w_2', B_2', hc, ho⟩ | ⟨c, p, q, w_3', o_5', B_3', hc, ho⟩ <;> cases ho
    replace h := h.1 sz_1' u_1' j B_2' hc
    refine WL.make (MV.alloc s9) rfl rfl rfl (fun b_5' => ?_)
    obtain ⟨o_8', h⟩ := h
    refine WL.storeW (vs := [zI sz_1', u_1']) 0 rfl rfl rfl rfl rfl j8 rfl (d4 rfl (d4 o_8' m6)) rfl ?_
    refine WL.nil ?_
    refine kg (hK_12' [(0, zP b), (2, zP b_1'), (6, zP b_5')] _ ?_)
    refine a6 (fun _ hK_13' => ?_)
    refine a6 (fun _ hK_14' => ?_)
    refine a4 ?_
    refine wm ?_
    refine WL.call (A := []) aa9 rfl (aar b s_0 j w_2') rfl ⟨.inl ⟨1, rfl⟩, trivial⟩ rfl rfl ?_
    refine WL.nil ?_
    refine kg (hK_14' [(0, zP b), (2, zP b_1'), (6, zP b_5'), (71, zB (decide ((s_0.length : Int) ≤ j)))] _ ?_)
    refine b6 (b := decide ((s_0.length : Int) ≤ j)) rfl (fun hb => ?_) (fun hb => ?_)
    ·replace h := j4 h hb
     refine q9 13 [] g8 (by kernel_rfl) rfl (fun T_2' hT_2' => ?_)
     refine fv (fun _ => OV.move rfl) ?_
     refine fv (fun _ => OV.move rfl) ?_
     refine fv (fun _ => OV.nilCheck rfl) ?_
     refine fv (fun _ => OV.fieldAddr0 rfl aaa) ?_
     refine fv (fun _ => OV.load rfl (At.own 1 rfl) rfl ac5) ?_
     refine fv (fun _ => OV.move rfl) ?_
     refine fv (fun _ => OV.nilCheck rfl) ?_
     refine fv (fun _ => OV.fieldAddr0 rfl aaa) ?_
     refine fv (fun _ => OV.load rfl (At.own 1 rfl) rfl ac5) ?_
     refine fv (fun _ => OV.lenRow 2 rfl rfl y9) ?_
     obtain ⟨o_9', h⟩ := h
     refine fv (fun _ => OV.sub rfl rfl o_9') ?_
     obtain ⟨o_10', h⟩ := h
     refine fv (fun _ => OV.indexRow 2 rfl rfl rfl y9 o_10') ?_
     refine fv (fun _ => OV.loadE1 (f := t0) 2 rfl rfl aa7 (by omega) rfl b5) ?_
     refine FL.weak (L' := fun γ => [(0, zP b), (2, zP b_1'), (6, zP b_5'), (72, zP b), (84, zI ((sl ++ [s_1]).getD ((((sl ++ [s_1]).length : Int) - 1)).toNat default))]) (fun γ => ⟨rfl, rfl, rfl, rfl, rfl, trivial⟩) (FL.nil (hT_2' (fun γ => [(0, zP b), (2, zP b_1'), (6, zP b_5'), (72, zP b), (84, zI ((sl ++ [s_1]).getD ((((sl ++ [s_1]).length : Int) - 1)).toNat default))]) (fun γ => ?_)))
     refine WL.callS ac3 rfl (acg (zP b) 21 ((sl ++ [s_1]).getD ((((sl ++ [s_1]).length : Int) - 1)).toNat default)) rfl trivial rfl rfl (fun r H' hS => by cases hS) (fun c H' hS => ?_)
     cases hS
     exact hE.pan [1, 2, 3] rfl rfl (.inr ⟨_, _, _, _, _, _, h, rfl⟩)
    ·replace h := j5 h hb
     refine b7 ?_
     refine kg (hK_13' [(0, zP b), (2, zP b_1'), (6, zP b_5')] _ ?_)
     refine a6 (fun _ hK_15' => ?_)
     refine a4 ?_
     refine wm ?_
     refine wv (OV.nilCheck rfl) ?_
     refine wv (OV.fieldAddr0 rfl d9) ?_
     refine wv (OV.load rfl (At.own 1 rfl) rfl b5) ?_
     obtain ⟨o_11', h⟩ := h
     refine wv (OV.add rfl rfl o_11') ?_
     refine wv (OV.nilCheck rfl) ?_
     refine wv (OV.fieldAddr0 rfl d9) ?_
     refine WL.store (vs := [zI (j + 1)]) (cs' := [st s_0, zI (j + 1), w_2']) 1 rfl rfl rfl rfl g9 (Nat.le_of_ble_eq_true rfl) rfl rfl rfl ?_
     refine WL.nil ?_
     refine kg (hK_15' [(0, zP b), (2, zP b_1'), (6, zP b_5')] _ ?_)
     refine a6 (fun _ hK_16' => ?_)
     refine q9 12 [] g8 (by kernel_rfl) rfl (fun T_3' hT_3' => ?_)
     refine fv (fun _ => OV.move rfl) ?_
     refine fv (fun _ => OV.move rfl) ?_
     refine fv (fun _ => OV.nilCheck rfl) ?_
     refine fv (fun _ => OV.fieldAddr0 rfl aaa) ?_
     refine fv (fun _ => OV.load rfl (At.own 1 rfl) rfl ac5) ?_
     refine fv (fun _ => OV.move rfl) ?_
     refine fv (fun _ => OV.nilCheck rfl) ?_
     refine fv (fun _ => OV.fieldAddr0 rfl aaa) ?_
     refine fv (fun _ => OV.load rfl (At.own 1 rfl) rfl ac5) ?_
     refine fv (fun _ => OV.lenRow 2 rfl rfl y9) ?_
     obtain ⟨o_12', h⟩ := h
     refine fv (fun _ => OV.sub rfl rfl o_12') ?_
     obtain ⟨o_13', h⟩ := h
     refine fv (fun _ => OV.sliceTo 2 rfl rfl rfl y9 o_13') ?_
     refine FL.weak (L' := fun γ => [(2, zP b_1'), (6, zP b_5'), (93, zP b), (104, ahs w_2' ((((sl ++ [s_1]).length : Int) - 1)).toNat)]) (fun γ => ⟨rfl, rfl, rfl, rfl, trivial⟩) (FL.nil (hT_3' (fun γ => [(2, zP b_1'), (6, zP b_5'), (93, zP b), (104, ahs w_2' ((((sl ++ [s_1]).length : Int) - 1)).toNat)]) (fun γ => ?_)))
     refine wv (OV.nilCheck rfl) ?_
     refine wv (OV.fieldAddr0 rfl aaa) ?_
     refine WL.shorter (m := ((((sl ++ [s_1]).length : Int) - 1)).toNat) 2 rfl aa7 (by omega) ?_
     refine WL.storeSl (cs' := [st s_0, zI (j + 1), ahs w_2' ((((sl ++ [s_1]).length : Int) - 1)).toNat]) 1 2 rfl rfl rfl rfl amb (Nat.le_of_ble_eq_true rfl) rfl rfl ?_
     refine WL.nil ?_
     refine kg (hK_16' [(2, zP b_1'), (6, zP b_5')] _ ?_)
     refine a6 (fun _ hK_17' => ?_)
     refine a4 ?_
     refine wv (OV.loadR rfl (At.own 0 rfl) i8) ?_
     obtain ⟨o_14', h⟩ := h
     refine WL.storeW (vs := [zI sz_1', u_1']) 5 rfl rfl rfl rfl rfl j8 rfl (d4 rfl (d4 o_14' m6)) rfl ?_
     refine WL.nil ?_
     refine kg (hK_17' [(2, zP b_1')] _ ?_)
     refine c9 ?_
     exact hE.ret [1, 2, 3] rfl rfl (.inl ⟨_, _, _, _, _, _, _, h, rfl⟩) (f9.of1 rfl (RV.row rfl (At.own 5 rfl) i8))
   ·rcases hS with ⟨sz_1', u_1', j, w_2', B_2', hc, ho⟩ | ⟨c, p, q, w_3', o_5', B_3', hc, ho⟩ <;> cases ho
    replace h := h.2 c p q o_5' B_3' hc
    exact hE.pan [0, 1, 2] rfl rfl (.inr ⟨_, _, _, _, _, _, h, rfl⟩)
theorem av6 {t : List UInt8} {i : Int} (hA : ahg t (i + 1)) : ajd t i := by
 rintro b te fre w o B ⟨h0, h1, h2, h3⟩
 refine (a05 b w te fre t i o B (KR (AtR t o.length i) t o i B) (KE (AtR t o.length i) t) ?_).weak ?_
 ·unfold are
  refine ⟨h0, ?_⟩
  by_cases hc : nx t i = 40
  ·rw [if_neg (by simpa using hc)]
   by_cases hn : 1000 ≤ (o.length : Int)
   ·rw [if_pos (by simpa using hn)]
    exact ⟨rfl, 23, i, rfl, .nest hc (by omega)⟩
   rw [if_neg (by simpa using hn)]
   have hl : (o ++ [i]).length = o.length + 1 := by simp
   refine ⟨⟨by omega, by omega⟩, by unfold I64; omega, hA, ⟨by omega, by omega, h2, by omega⟩, ?_, ?_⟩
   ·rintro n u j B2 ⟨g1, g2, g3, g4, x, g5, g6⟩
    rw [hl] at g5
    refine ⟨g2.2, ?_⟩
    by_cases he : (t.length : Int) ≤ j
    ·rw [if_pos (by simpa using he)]
     have hg : (o ++ [i]).getD ((((o ++ [i]).length : Int) - 1)).toNat default = i := by
      rw [hl, show (((o.length + 1 : Nat) : Int) - 1).toNat = o.length by omega]
      simp [List.getD_eq_getElem?_getD]
     rw [hg]
     exact ⟨by rw [hl]; unfold I64; omega, ⟨by rw [hl]; omega, by omega⟩, rfl, 21, i, rfl, .parO hc (by omega) g5 (by omega)⟩
    ·rw [if_neg (by simpa using he)]
     have hg : (o ++ [i]).take ((((o ++ [i]).length : Int) - 1)).toNat = o := by
      rw [hl, show (((o.length + 1 : Nat) : Int) - 1).toNat = o.length by omega]
      simp
     rw [hg]
     exact ⟨by unfold I64; omega, by rw [hl]; unfold I64; omega, ⟨by rw [hl]; omega, by omega⟩, g2.2, rfl, rfl, g1, g2, by omega, by omega, x, .par hc (by omega) g5 (by omega), g6⟩
   ·intro c p q o2 B3 hE
    rw [hl] at hE
    exact ⟨rfl, c, p, rfl, .parE hc (by omega) hE⟩
  ·rw [if_pos (by simpa using hc)]
   refine ⟨by omega, ?_⟩
   rcases hm : l8 t i with ⟨s, k, e, p⟩
   by_cases hz : e = 0 ∧ p = 0
   ·rw [if_neg (by simp [o0, hz])]
    obtain ⟨rfl, rfl⟩ := hz
    have := ag1 hm h0
    rintro n u B1 ⟨g1, g2, g3⟩
    exact ⟨g2.2, rfl, rfl, g1, g2, by show i ≤ k; omega, this.2, .cls s, .set hc hm, g3 rfl⟩
   ·rw [if_pos (by simp [o0]; omega)]
    exact ⟨rfl, e, p, rfl, .setE hc hm hz⟩
 ·rintro out (⟨n, u, t', j, w', o', D, ⟨rfl, rfl, hR⟩, rfl⟩ | ⟨v, t', q, w', o', D, ⟨rfl, c, p, rfl, hR⟩, rfl⟩)
  ·exact .inl ⟨n, u, j, w', D, hR, rfl⟩
  ·exact .inr ⟨c, p, q, w', o', D, hR, rfl⟩
def au1 (s_0 : List UInt8) (s_1 : Int) (sl : List Int) (B : List (Nat × Obj)) (K : Int → Value → (List UInt8) → Int → (List Int) → (List (Nat × Obj)) → Prop) (KP : Value → (List UInt8) → Int → (List Int) → (List (Nat × Obj)) → Prop) : Prop :=
 (∀ (sz : Int) (u : Value) (B_1' : List (Nat × Obj)), ao9 B B_1' .eps sz u →
  (u.oneCell' = true) ∧
  ∃ (Inv : Bool → Int → Value → (List (Nat × Obj)) → Int → Prop) (mu : Bool → Int → Value → (List (Nat × Obj)) → Int → Nat),
   Inv false sz u B_1' s_1 ∧ ∀ (any_1' : Bool) (out_0_1' : Int) (out_1_1' : Value) (c_6' : List (Nat × Obj)) (s_1_2' : Int), Inv any_1' out_0_1' out_1_1' c_6' s_1_2' →
    (if (!(decide ((s_0.length : Int) ≤ s_1_2'))) = true then
     (0 ≤ s_1_2') ∧
     ∃ (J0_6' : Bool → Prop),
      (∀ (t14_2' : Bool), J0_6' t14_2' →
       (if t14_2' = true then
        (out_1_1'.oneCell' = true) ∧
        K out_0_1' out_1_1' s_0 s_1_2' sl c_6'
       else
        ∃ (J0_7' : Bool → Prop),
         (∀ (t20_2' : Bool), J0_7' t20_2' →
          (if t20_2' = true then
           KP (o3 20 s_1_2') s_0 s_1_2' sl c_6'
          else
           (ajd s_0 s_1_2') ∧
           (0 ≤ s_1_2' ∧ s_1_2' < (s_0.length : Int) ∧ s_0.length ≤ 1048576 ∧ sl.length ≤ 1000) ∧
           (∀ (sz_7' : Int) (u_7' : Value) (j_4' : Int) (B_12' : List (Nat × Obj)), agb (AtR s_0 sl.length s_1_2') s_0 s_1_2' c_6' B_12' j_4' sz_7' u_7' →
            (0 ≤ j_4' ∧ j_4' ≤ (s_0.length : Int) ∧ s_0.length ≤ 1048576 ∧ abl sz_7' u_7') ∧
            (∀ (sz_8' : Int) (u_8' : Value) (j_5' : Int) (B_14' : List (Nat × Obj)), a1l s_0 j_4' B_12' B_14' sz_7' u_7' j_5' sz_8' u_8' →
             (u_8'.oneCell' = true) ∧
             ∃ (J0_8' : (List (Nat × Obj)) → Int → Value → Prop),
              (∀ (c_9' : List (Nat × Obj)) (piece_0_1' : Int) (piece_1_1' : Value), J0_8' c_9' piece_0_1' piece_1_1' →
               (piece_1_1'.oneCell' = true) ∧
               Inv true piece_0_1' piece_1_1' c_9' j_5' ∧ mu true piece_0_1' piece_1_1' c_9' j_5' < mu any_1' out_0_1' out_1_1' c_6' s_1_2') ∧
              (if any_1' = true then
               (y4 out_0_1' ∧ y4 sz_8') ∧
               (∀ (sz_10' : Int) (u_10' : Value) (B_17' : List (Nat × Obj)), agh Tr.cat B_14' B_17' out_0_1' out_1_1' sz_8' u_8' sz_10' u_10' →
                (u_10'.oneCell' = true) ∧
                J0_8' B_17' sz_10' u_10')
              else
               J0_8' B_14' sz_8' u_8')) ∧
            (∀ (c_8' : Int) (p_5' : Int) (q_5' : Int) (B_15' : List (Nat × Obj)), a1z s_0 j_4' B_12' sz_7' u_7' c_8' p_5' →
             KP (o3 c_8' p_5') s_0 q_5' sl B_15')) ∧
           (∀ (c_7' : Int) (p_4' : Int) (q_4' : Int) (o_23' : List Int) (B_13' : List (Nat × Obj)), AtR s_0 sl.length s_1_2' (.error (c_7', p_4')) →
            KP (o3 c_7' p_4') s_0 q_4' o_23' B_13'))) ∧
         (if (decide (nx s_0 s_1_2' = 42)) = true then
          J0_7' (decide (nx s_0 s_1_2' = 42))
         else
          (if (decide (nx s_0 s_1_2' = 43)) = true then
           J0_7' (decide (nx s_0 s_1_2' = 43))
          else
           (if (decide (nx s_0 s_1_2' = 63)) = true then
            J0_7' (decide (nx s_0 s_1_2' = 63))
           else
            J0_7' (decide (nx s_0 s_1_2' = 123))))))) ∧
      (if (decide (nx s_0 s_1_2' = 124)) = true then
       J0_6' (decide (nx s_0 s_1_2' = 124))
      else
       (if (decide (nx s_0 s_1_2' = 38)) = true then
        J0_6' (decide (nx s_0 s_1_2' = 38))
       else
        (if (decide (nx s_0 s_1_2' = 45)) = true then
         J0_6' (decide (nx s_0 s_1_2' = 45))
        else
         J0_6' (decide (nx s_0 s_1_2' = 41)))))
    else
     (out_1_1'.oneCell' = true) ∧
     K out_0_1' out_1_1' s_0 s_1_2' sl c_6'))
theorem a1v (b : Nat) (w : Value) (te : TypeId) (fre : Nat × Nat) (s_0 : List UInt8) (s_1 : Int) (sl : List Int) (B : List (Nat × Obj)) (K : Int → Value → (List UInt8) → Int → (List Int) → (List (Nat × Obj)) → Prop) (KP : Value → (List UInt8) → Int → (List Int) → (List (Nat × Obj)) → Prop) (h : au1 s_0 s_1 sl B K KP) :
  d5 Tryd.prog 38 [zP b] [(0, .cells [zU 110, zU 10, zU 114, zU 13, zU 116, zU 9].toArray te fre)] [HA.blk b (.cells [st s_0, zI s_1, w].toArray 42 (0, 0)), HA.row w 3 1 sl.length (sl.flatMap t0), pool B] (fun o => (∃ (v_0 : Int) (v_1 : Value) (d_1' : List UInt8) (d_2' : Int) (w_9' : Value) (d : List Int) (D : List (Nat × Obj)), K v_0 v_1 d_1' d_2' d D ∧ o = .ret (Value.agg [zI v_0, v_1].toArray) [HA.blk b (.cells [st d_1', zI d_2', w_9'].toArray 42 (0, 0)), HA.row w_9' 3 1 d.length (d.flatMap t0), pool D]) ∨ (∃ (pv : Value) (d_1' : List UInt8) (d_2' : Int) (w_9' : Value) (d : List Int) (D : List (Nat × Obj)), KP pv d_1' d_2' d D ∧ o = .pan [{ v := pv, recovered := false }] [HA.blk b (.cells [st d_1', zI d_2', w_9'].toArray 42 (0, 0)), HA.row w_9' 3 1 d.length (d.flatMap t0), pool D])) := by
 unfold au1 at h
 refine c8 (n := 41) (L0 := [(0, zP b)]) Tryd.func38 rfl rfl rfl rfl (fun w0 M Q hE => ?_)
 refine a6 (fun _ hK => ?_)
 refine a4 ?_
 refine WL.make (MV.alloc s9) rfl rfl rfl (fun b_1' => ?_)
 refine WL.nil ?_
 refine kg (hK [(0, zP b), (2, zP b_1')] _ ?_)
 refine a6 (fun _ hK_1' => ?_)
 refine a4 ?_
 refine wv (OV.build rfl (cs := []) rfl) ?_
 refine wv (OV.cast (OV.iface rfl ain) (v' := Tr.val .eps) rfl) ?_
 refine WL.pick (H' := [pool B, HA.blk b_1' (.cells [zI 0, Value.nilFunc].toArray 45 (0, 0)), HA.blk b (.cells [st s_0, zI s_1, w].toArray 42 (0, 0)), HA.row w 3 1 sl.length (sl.flatMap t0)]) [3, 0, 1, 2] rfl rfl ?_
 refine WL.callS ahm rfl (ahn .eps B) rfl trivial rfl rfl (fun r H' hS => ?_) (fun c H' hS => ?_)
 ·obtain ⟨sz, u, B_1', hc, ho⟩ := hS
  cases ho
  replace h := h sz u B_1' hc
  refine WL.make (MV.alloc s9) rfl rfl rfl (fun b_2' => ?_)
  obtain ⟨o, h⟩ := h
  refine WL.storeW (vs := [zI sz, u]) 0 rfl rfl rfl rfl rfl j8 rfl (d4 rfl (d4 o m6)) rfl ?_
  refine wa ?_
  refine WL.nil ?_
  refine kg (hK_1' [(0, zP b), (2, zP b_1'), (3, zP b_2'), (4, zB false)] _ ?_)
  refine a6 (fun _ hK_2' => ?_)
  refine d6 ?_
  obtain ⟨Inv, mu, h0, hr⟩ := h
  refine w9 (S := Bool × Int × Value × (List (Nat × Obj)) × Int × Value) (fun σ => Inv σ.1 σ.2.1 σ.2.2.1 σ.2.2.2.1 σ.2.2.2.2.1) (fun σ => mu σ.1 σ.2.1 σ.2.2.1 σ.2.2.2.1 σ.2.2.2.2.1) (fun σ => [(0, zP b), (2, zP b_1'), (3, zP b_2'), (4, zB σ.1)]) (fun σ => [HA.blk b_2' (.cells [zI σ.2.1, σ.2.2.1].toArray 45 (0, 0)), pool σ.2.2.2.1, HA.blk b_1' (.cells [zI 0, Value.nilFunc].toArray 45 (0, 0)), HA.blk b (.cells [st s_0, zI σ.2.2.2.2.1, σ.2.2.2.2.2].toArray 42 (0, 0)), HA.row σ.2.2.2.2.2 3 1 sl.length (sl.flatMap t0)]) (false, sz, u, B_1', s_1, w) h0 ⟨rfl, rfl, rfl, rfl, trivial⟩ rfl ?_
  rintro ⟨any_1', out_0_1', out_1_1', c_6', s_1_2', w_6'⟩ hi K0_49' hK_49'
  have h := hr any_1' out_0_1' out_1_1' c_6' s_1_2' hi
  show WC _ _ _ _ [(0, zP b), (2, zP b_1'), (3, zP b_2'), (4, zB any_1')] [HA.blk b_2' (.cells [zI out_0_1', out_1_1'].toArray 45 (0, 0)), pool c_6', HA.blk b_1' (.cells [zI 0, Value.nilFunc].toArray 45 (0, 0)), HA.blk b (.cells [st s_0, zI s_1_2', w_6'].toArray 42 (0, 0)), HA.row w_6' 3 1 sl.length (sl.flatMap t0)]
  refine a6 (fun _ hK_50' => ?_)
  refine a6 (fun _ hK_51' => ?_)
  refine a4 ?_
  refine wm ?_
  refine WL.call (A := []) aa9 rfl (aar b s_0 s_1_2' w_6') rfl ⟨.inl ⟨3, rfl⟩, trivial⟩ rfl rfl ?_
  refine wv (OV.not rfl) ?_
  refine WL.nil ?_
  refine kg (hK_51' [(0, zP b), (2, zP b_1'), (3, zP b_2'), (4, zB any_1'), (11, zB (!(decide ((s_0.length : Int) ≤ s_1_2'))))] _ ?_)
  refine b6 (b := !(decide ((s_0.length : Int) ≤ s_1_2'))) rfl (fun hb => ?_) (fun hb => ?_)
  ·replace h := j4 h hb
   refine b7 ?_
   refine kg (hK_50' [(0, zP b), (2, zP b_1'), (3, zP b_2'), (4, zB any_1')] _ ?_)
   refine d6 ?_
   refine a6 (fun _ hK_52' => ?_)
   refine a6 (fun _ hK_53' => ?_)
   refine a4 ?_
   refine wm ?_
   obtain ⟨o_21', h⟩ := h
   refine WL.call (A := []) aat rfl (aax b s_0 s_1_2' w_6' o_21') rfl ⟨.inl ⟨3, rfl⟩, trivial⟩ rfl rfl ?_
   refine WL.nil ?_
   refine kg (hK_53' [(0, zP b), (2, zP b_1'), (3, zP b_2'), (4, zB any_1'), (13, zU (nx s_0 s_1_2'))] _ ?_)
   refine d6 ?_
   obtain ⟨J0_6', hJ_6', h⟩ := h
   refine n5 (X := Bool) (fun σ => J0_6' σ) (fun σ => [(0, zP b), (2, zP b_1'), (3, zP b_2'), (4, zB any_1'), (13, zU (nx s_0 s_1_2')), (14, zB σ)]) (fun σ => [HA.blk b_2' (.cells [zI out_0_1', out_1_1'].toArray 45 (0, 0)), pool c_6', HA.blk b_1' (.cells [zI 0, Value.nilFunc].toArray 45 (0, 0)), HA.blk b (.cells [st s_0, zI s_1_2', w_6'].toArray 42 (0, 0)), HA.row w_6' 3 1 sl.length (sl.flatMap t0)]) ?_ (fun K0_57' hK_57' => ?_)
   ·rintro t14_2' hj
    replace h := hJ_6' t14_2' hj
    show WC _ _ _ _ [(0, zP b), (2, zP b_1'), (3, zP b_2'), (4, zB any_1'), (13, zU (nx s_0 s_1_2')), (14, zB t14_2')] [HA.blk b_2' (.cells [zI out_0_1', out_1_1'].toArray 45 (0, 0)), pool c_6', HA.blk b_1' (.cells [zI 0, Value.nilFunc].toArray 45 (0, 0)), HA.blk b (.cells [st s_0, zI s_1_2', w_6'].toArray 42 (0, 0)), HA.row w_6' 3 1 sl.length (sl.flatMap t0)]
    refine b6 (b := t14_2') rfl (fun hb => ?_) (fun hb => ?_)
    ·replace h := j4 h hb
     refine a6 (fun _ hK_58' => ?_)
     refine a4 ?_
     refine wv (OV.loadR rfl (At.own 0 rfl) i8) ?_
     obtain ⟨o_22', h⟩ := h
     refine WL.storeW (vs := [zI out_0_1', out_1_1']) 2 rfl rfl rfl rfl rfl j8 rfl (d4 rfl (d4 o_22' m6)) rfl ?_
     refine WL.nil ?_
     refine kg (hK_58' [(2, zP b_1')] _ ?_)
     refine c9 ?_
     exact hE.ret [3, 4, 1] rfl rfl (.inl ⟨_, _, _, _, _, _, _, h, rfl⟩) (f9.of1 rfl (RV.row rfl (At.own 2 rfl) i8))
    ·replace h := j5 h hb
     obtain ⟨J0_7', hJ_7', h⟩ := h
     refine n5 (X := Bool) (fun σ => J0_7' σ) (fun σ => [(0, zP b), (2, zP b_1'), (3, zP b_2'), (4, zB any_1'), (20, zB σ)]) (fun σ => [HA.blk b_2' (.cells [zI out_0_1', out_1_1'].toArray 45 (0, 0)), pool c_6', HA.blk b_1' (.cells [zI 0, Value.nilFunc].toArray 45 (0, 0)), HA.blk b (.cells [st s_0, zI s_1_2', w_6'].toArray 42 (0, 0)), HA.row w_6' 3 1 sl.length (sl.flatMap t0)]) ?_ (fun K0_62' hK_62' => ?_)
     ·rintro t20_2' hj
      replace h := hJ_7' t20_2' hj
      show WC _ _ _ _ [(0, zP b), (2, zP b_1'), (3, zP b_2'), (4, zB any_1'), (20, zB t20_2')] [HA.blk b_2' (.cells [zI out_0_1', out_1_1'].toArray 45 (0, 0)), pool c_6', HA.blk b_1' (.cells [zI 0, Value.nilFunc].toArray 45 (0, 0)), HA.blk b (.cells [st s_0, zI s_1_2', w_6'].toArray 42 (0, 0)), HA.row w_6' 3 1 sl.length (sl.flatMap t0)]
      refine b6 (b := t20_2') rfl (fun hb => ?_) (fun hb => ?_)
      ·replace h := j4 h hb
       refine a4 ?_
       refine wm ?_
       refine wm ?_
       refine wv (OV.nilCheck rfl) ?_
       refine wv (OV.fieldAddr0 rfl d9) ?_
       refine wv (OV.load rfl (At.own 3 rfl) rfl b5) ?_
       refine WL.callS ac3 rfl (acg (zP b) 20 s_1_2') rfl trivial rfl rfl (fun r H' hS => by cases hS) (fun c H' hS => ?_)
       cases hS
       exact hE.pan [3, 4, 1] rfl rfl (.inr ⟨_, _, _, _, _, _, h, rfl⟩)
      ·replace h := j5 h hb
       refine b7 ?_
       refine kg (hK_52' [(0, zP b), (2, zP b_1'), (3, zP b_2'), (4, zB any_1')] _ ?_)
       refine a6 (fun _ hK_63' => ?_)
       refine a4 ?_
       refine wm ?_
       refine wm ?_
       obtain ⟨o_24', h⟩ := h
       obtain ⟨o_25', h⟩ := h
       refine WL.pick (H' := [HA.blk b (.cells [st s_0, zI s_1_2', w_6'].toArray 42 (0, 0)), HA.row w_6' 3 1 sl.length (sl.flatMap t0), pool c_6', HA.blk b_2' (.cells [zI out_0_1', out_1_1'].toArray 45 (0, 0)), HA.blk b_1' (.cells [zI 0, Value.nilFunc].toArray 45 (0, 0))]) [3, 4, 1, 0, 2] rfl rfl ?_
       refine WL.callS awg rfl (o_24' b te fre w_6' sl c_6' o_25') rfl ⟨.inr (List.mem_of_getElem? (i := 0) rfl), trivial⟩ rfl rfl (fun r H' hS => ?_) (fun c H' hS => ?_)
       ·rcases hS with ⟨sz_7', u_7', j_4', w_7', B_12', hc, ho⟩ | ⟨c_7', p_4', q_4', w_8', o_23', B_13', hc, ho⟩ <;> cases ho
        replace h := h.1 sz_7' u_7' j_4' B_12' hc
        obtain ⟨o_26', h⟩ := h
        refine WL.pick (H' := [HA.blk b (.cells [st s_0, zI j_4', w_7'].toArray 42 (0, 0)), pool B_12', HA.row w_7' 3 1 sl.length (sl.flatMap t0), HA.blk b_2' (.cells [zI out_0_1', out_1_1'].toArray 45 (0, 0)), HA.blk b_1' (.cells [zI 0, Value.nilFunc].toArray 45 (0, 0))]) [0, 2, 1, 3, 4] rfl rfl ?_
        refine WL.callS aw1 rfl (arb b s_0 j_4' w_7' sz_7' u_7' B_12' o_26') rfl trivial rfl rfl (fun r H' hS => ?_) (fun c H' hS => ?_)
        ·rcases hS with ⟨sz_8', u_8', j_5', B_14', hc, ho⟩ | ⟨c_8', p_5', q_5', B_15', hc, ho⟩ <;> cases ho
         replace h := h.1 sz_8' u_8' j_5' B_14' hc
         refine WL.make (MV.alloc s9) rfl rfl rfl (fun b_5' => ?_)
         obtain ⟨o_27', h⟩ := h
         refine WL.storeW (vs := [zI sz_8', u_8']) 0 rfl rfl rfl rfl rfl j8 rfl (d4 rfl (d4 o_27' m6)) rfl ?_
         refine WL.nil ?_
         refine kg (hK_63' [(0, zP b), (2, zP b_1'), (3, zP b_2'), (4, zB any_1'), (5, zP b_5')] _ ?_)
         obtain ⟨J0_8', hJ_8', h⟩ := h
         refine n5 (X := (List (Nat × Obj)) × Int × Value) (fun σ => J0_8' σ.1 σ.2.1 σ.2.2) (fun σ => [(0, zP b), (2, zP b_1'), (3, zP b_2'), (5, zP b_5')]) (fun σ => [pool σ.1, HA.blk b_5' (.cells [zI σ.2.1, σ.2.2].toArray 45 (0, 0)), HA.blk b (.cells [st s_0, zI j_5', w_7'].toArray 42 (0, 0)), HA.row w_7' 3 1 sl.length (sl.flatMap t0), HA.blk b_2' (.cells [zI out_0_1', out_1_1'].toArray 45 (0, 0)), HA.blk b_1' (.cells [zI 0, Value.nilFunc].toArray 45 (0, 0))]) ?_ (fun K0_65' hK_65' => ?_)
         ·rintro ⟨c_9', piece_0_1', piece_1_1'⟩ hj
          replace h := hJ_8' c_9' piece_0_1' piece_1_1' hj
          show WC _ _ _ _ [(0, zP b), (2, zP b_1'), (3, zP b_2'), (5, zP b_5')] [pool c_9', HA.blk b_5' (.cells [zI piece_0_1', piece_1_1'].toArray 45 (0, 0)), HA.blk b (.cells [st s_0, zI j_5', w_7'].toArray 42 (0, 0)), HA.row w_7' 3 1 sl.length (sl.flatMap t0), HA.blk b_2' (.cells [zI out_0_1', out_1_1'].toArray 45 (0, 0)), HA.blk b_1' (.cells [zI 0, Value.nilFunc].toArray 45 (0, 0))]
          refine a4 ?_
          refine wv (OV.loadR rfl (At.own 1 rfl) i8) ?_
          obtain ⟨o_30', h⟩ := h
          refine WL.storeW (vs := [zI piece_0_1', piece_1_1']) 4 rfl rfl rfl rfl rfl j8 rfl (d4 rfl (d4 o_30' m6)) rfl ?_
          refine wa ?_
          refine WL.nil ?_
          exact kh (hK_49' (true, piece_0_1', piece_1_1', c_9', j_5', w_7') h.1 h.2) [4, 0, 5, 2, 3]
         ·skip
          refine a6 (fun _ hK_66' => ?_)
          refine a4 ?_
          refine wm ?_
          refine WL.nil ?_
          refine kg (hK_66' [(0, zP b), (2, zP b_1'), (3, zP b_2'), (5, zP b_5'), (35, zB any_1')] _ ?_)
          refine b6 (b := any_1') rfl (fun hb => ?_) (fun hb => ?_)
          ·replace h := j4 h hb
           refine a4 ?_
           refine wv (OV.loadR rfl (At.own 4 rfl) i8) ?_
           refine wv (OV.loadR rfl (At.own 0 rfl) i8) ?_
           obtain ⟨o_31', h⟩ := h
           refine WL.pick (H' := [pool B_14', HA.blk b_5' (.cells [zI sz_8', u_8'].toArray 45 (0, 0)), HA.blk b (.cells [st s_0, zI j_5', w_7'].toArray 42 (0, 0)), HA.row w_7' 3 1 sl.length (sl.flatMap t0), HA.blk b_2' (.cells [zI out_0_1', out_1_1'].toArray 45 (0, 0)), HA.blk b_1' (.cells [zI 0, Value.nilFunc].toArray 45 (0, 0))]) [2, 0, 1, 3, 4, 5] rfl rfl ?_
           refine WL.callS abq rfl (abt Tr.cat_op out_0_1' out_1_1' sz_8' u_8' B_14' o_31') rfl trivial rfl rfl (fun r H' hS => ?_) (fun c H' hS => ?_)
           ·obtain ⟨sz_10', u_10', B_17', hc, ho⟩ := hS
            cases ho
            replace h := h sz_10' u_10' B_17' hc
            obtain ⟨o_32', h⟩ := h
            refine WL.storeW (vs := [zI sz_10', u_10']) 1 rfl rfl rfl rfl rfl j8 rfl (d4 rfl (d4 o_32' m6)) rfl ?_
            refine WL.nil ?_
            exact kh (hK_65' (B_17', sz_10', u_10') h) [0, 1, 2, 3, 4, 5]
           ·obtain ⟨sz_10', u_10', B_17', hc, ho⟩ := hS
            cases ho
          ·replace h := j5 h hb
           refine b7 ?_
           exact kh (hK_65' (B_14', sz_8', u_8') h) [2, 0, 1, 3, 4, 5]
        ·rcases hS with ⟨sz_8', u_8', j_5', B_14', hc, ho⟩ | ⟨c_8', p_5', q_5', B_15', hc, ho⟩ <;> cases ho
         replace h := h.2 c_8' p_5' q_5' B_15' hc
         exact hE.pan [0, 2, 1] rfl rfl (.inr ⟨_, _, _, _, _, _, h, rfl⟩)
       ·rcases hS with ⟨sz_7', u_7', j_4', w_7', B_12', hc, ho⟩ | ⟨c_7', p_4', q_4', w_8', o_23', B_13', hc, ho⟩ <;> cases ho
        replace h := h.2 c_7' p_4' q_4' o_23' B_13' hc
        exact hE.pan [0, 1, 2] rfl rfl (.inr ⟨_, _, _, _, _, _, h, rfl⟩)
     ·skip
      refine a6 (fun _ hK_67' => ?_)
      refine a4 ?_
      refine wv (OV.eql rfl rfl) ?_
      refine wa ?_
      refine WL.nil ?_
      refine kg (hK_67' [(0, zP b), (2, zP b_1'), (3, zP b_2'), (4, zB any_1'), (13, zU (nx s_0 s_1_2')), (20, zB (decide (nx s_0 s_1_2' = 42)))] _ ?_)
      refine b6 (b := decide (nx s_0 s_1_2' = 42)) rfl (fun hb => ?_) (fun hb => ?_)
      ·replace h := j4 h hb
       refine b7 ?_
       exact kh (hK_62' (decide (nx s_0 s_1_2' = 42)) h) [0, 1, 2, 3, 4]
      ·replace h := j5 h hb
       refine a6 (fun _ hK_68' => ?_)
       refine a4 ?_
       refine wv (OV.eql rfl rfl) ?_
       refine wa ?_
       refine WL.nil ?_
       refine kg (hK_68' [(0, zP b), (2, zP b_1'), (3, zP b_2'), (4, zB any_1'), (13, zU (nx s_0 s_1_2')), (20, zB (decide (nx s_0 s_1_2' = 43)))] _ ?_)
       refine b6 (b := decide (nx s_0 s_1_2' = 43)) rfl (fun hb => ?_) (fun hb => ?_)
       ·replace h := j4 h hb
        refine b7 ?_
        exact kh (hK_62' (decide (nx s_0 s_1_2' = 43)) h) [0, 1, 2, 3, 4]
       ·replace h := j5 h hb
        refine a6 (fun _ hK_69' => ?_)
        refine a4 ?_
        refine wv (OV.eql rfl rfl) ?_
        refine wa ?_
        refine WL.nil ?_
        refine kg (hK_69' [(0, zP b), (2, zP b_1'), (3, zP b_2'), (4, zB any_1'), (13, zU (nx s_0 s_1_2')), (20, zB (decide (nx s_0 s_1_2' = 63)))] _ ?_)
        refine b6 (b := decide (nx s_0 s_1_2' = 63)) rfl (fun hb => ?_) (fun hb => ?_)
        ·replace h := j4 h hb
         refine b7 ?_
         exact kh (hK_62' (decide (nx s_0 s_1_2' = 63)) h) [0, 1, 2, 3, 4]
        ·replace h := j5 h hb
         refine a4 ?_
         refine wv (OV.eql rfl rfl) ?_
         refine wa ?_
         refine WL.nil ?_
         exact kh (hK_62' (decide (nx s_0 s_1_2' = 123)) h) [0, 1, 2, 3, 4]
   ·skip
    refine a6 (fun _ hK_70' => ?_)
    refine a4 ?_
    refine wv (OV.eql rfl rfl) ?_
    refine wa ?_
    refine WL.nil ?_
    refine kg (hK_70' [(0, zP b), (2, zP b_1'), (3, zP b_2'), (4, zB any_1'), (13, zU (nx s_0 s_1_2')), (14, zB (decide (nx s_0 s_1_2' = 124)))] _ ?_)
    refine b6 (b := decide (nx s_0 s_1_2' = 124)) rfl (fun hb => ?_) (fun hb => ?_)
    ·replace h := j4 h hb
     refine b7 ?_
     exact kh (hK_57' (decide (nx s_0 s_1_2' = 124)) h) [0, 1, 2, 3, 4]
    ·replace h := j5 h hb
     refine a6 (fun _ hK_71' => ?_)
     refine a4 ?_
     refine wv (OV.eql rfl rfl) ?_
     refine wa ?_
     refine WL.nil ?_
     refine kg (hK_71' [(0, zP b), (2, zP b_1'), (3, zP b_2'), (4, zB any_1'), (13, zU (nx s_0 s_1_2')), (14, zB (decide (nx s_0 s_1_2' = 38)))] _ ?_)
     refine b6 (b := decide (nx s_0 s_1_2' = 38)) rfl (fun hb => ?_) (fun hb => ?_)
     ·replace h := j4 h hb
      refine b7 ?_
      exact kh (hK_57' (decide (nx s_0 s_1_2' = 38)) h) [0, 1, 2, 3, 4]
     ·replace h := j5 h hb
      refine a6 (fun _ hK_72' => ?_)
      refine a4 ?_
      refine wv (OV.eql rfl rfl) ?_
      refine wa ?_
      refine WL.nil ?_
      refine kg (hK_72' [(0, zP b), (2, zP b_1'), (3, zP b_2'), (4, zB any_1'), (13, zU (nx s_0 s_1_2')), (14, zB (decide (nx s_0 s_1_2' = 45)))] _ ?_)
      refine b6 (b := decide (nx s_0 s_1_2' = 45)) rfl (fun hb => ?_) (fun hb => ?_)
      ·replace h := j4 h hb
       refine b7 ?_
       exact kh (hK_57' (decide (nx s_0 s_1_2' = 45)) h) [0, 1, 2, 3, 4]
      ·replace h := j5 h hb
       refine a4 ?_
       refine wv (OV.eql rfl rfl) ?_
       refine wa ?_
       refine WL.nil ?_
       exact kh (hK_57' (decide (nx s_0 s_1_2' = 41)) h) [0, 1, 2, 3, 4]
  ·replace h := j5 h hb
   refine s5 ?_
   refine kg (hK_2' [(2, zP b_1'), (3, zP b_2')] _ ?_)
   refine a6 (fun _ hK_73' => ?_)
   refine a4 ?_
   refine wv (OV.loadR rfl (At.own 0 rfl) i8) ?_
   obtain ⟨o_33', h⟩ := h
   refine WL.storeW (vs := [zI out_0_1', out_1_1']) 2 rfl rfl rfl rfl rfl j8 rfl (d4 rfl (d4 o_33' m6)) rfl ?_
   refine WL.nil ?_
   refine kg (hK_73' [(2, zP b_1')] _ ?_)
   refine c9 ?_
   exact hE.ret [3, 4, 1] rfl rfl (.inl ⟨_, _, _, _, _, _, _, h, rfl⟩) (f9.of1 rfl (RV.row rfl (At.own 2 rfl) i8))
 ·obtain ⟨sz, u, B_1', hc, ho⟩ := hS
  cases ho
theorem azj {t : List UInt8} {i : Int} (hA : ∀ j, i ≤ j → ajd t j) : ag8 t i := by
 rintro b te fre w o B ⟨h0, h1, h2, h3⟩
 refine (a1v b w te fre t i o B (KR (PR t (.row none) o.length i) t o i B) (KE (PR t (.row none) o.length i) t) ?_).weak ?_
 ·unfold au1
  rintro n0 u0 B0 ⟨g1, g2, g3⟩
  refine ⟨g2.2, fun any n u c j => ac2 B c ∧ abl n u ∧ i ≤ j ∧ j ≤ t.length ∧ ∃ acc : Option Tr, any = acc.isSome ∧ Is c n u (acc.getD .eps) ∧ ∀ r, PR t (.row acc) o.length j r → PR t (.row none) o.length i r,
   fun _ _ _ _ j => (t.length - j).toNat, ⟨g1, g2, by omega, by omega, none, rfl, g3 rfl, fun _ h => h⟩, ?_⟩
  rintro any n u c j ⟨i1, i2, i3, i4, acc, i5, i6, i7⟩
  have hstop : ¬ (j < t.length ∧ nx t j ≠ 124 ∧ nx t j ≠ 38 ∧ nx t j ≠ 45 ∧ nx t j ≠ 41) → agb (PR t (.row none) o.length i) t i B c j n u := fun hs => ⟨i1, i2, i3, i4, _, i7 _ (.rowZ hs), i6⟩
  by_cases hl : (t.length : Int) ≤ j
  ·rw [if_neg (by simpa using hl)]
   exact ⟨i2.2, rfl, rfl, hstop (by omega)⟩
  rw [if_pos (by simpa using hl)]
  refine ⟨by omega, fun q => q = decide (nx t j = 124 ∨ nx t j = 38 ∨ nx t j = 45 ∨ nx t j = 41), ?_, ?_⟩
  ·rintro q rfl
   by_cases hs : nx t j = 124 ∨ nx t j = 38 ∨ nx t j = 45 ∨ nx t j = 41
   ·rw [if_pos (by simpa using hs)]
    exact ⟨i2.2, rfl, rfl, hstop (by omega)⟩
   rw [if_neg (by simpa using hs)]
   refine ⟨fun q => q = decide (nx t j = 42 ∨ nx t j = 43 ∨ nx t j = 63 ∨ nx t j = 123), ?_, ?_⟩
   ·rintro q rfl
    by_cases hp : nx t j = 42 ∨ nx t j = 43 ∨ nx t j = 63 ∨ nx t j = 123
    ·rw [if_pos (by simpa using hp)]
     exact ⟨rfl, 20, j, rfl, i7 _ (.rowB (by omega) hp)⟩
    rw [if_neg (by simpa using hp)]
    have hf : aku t j := by unfold aku; omega
    refine ⟨hA j i3, ⟨by omega, by omega, h2, h3⟩, ?_, fun c2 p2 q2 o2 B2 hE => ⟨rfl, c2, p2, rfl, i7 _ (hE.rowE (by omega) hf)⟩⟩
    rintro n2 u2 k B2 ⟨q1, q2, q3, q4, x, q5, q6⟩
    have hk := q5.ends (by omega) (by omega)
    refine ⟨⟨by omega, q4, h2, q2⟩, ?_, fun c2 p2 q2 B3 hE => ⟨rfl, c2, p2, rfl, i7 _ (q5.rowR (by omega) hf (hE x q6))⟩⟩
    rintro n3 u3 l B3 ⟨e1, e2, e3, e4, e5⟩
    obtain ⟨y, e6, e7⟩ := e5 x q6
    refine ⟨e2.2, fun c' n' u' => ac2 B c' ∧ abl n' u' ∧ Is c' n' u' ((amw acc y).getD .eps), ?_, ?_⟩
    ·rintro c' n' u' ⟨f1, f2, f3⟩
     exact ⟨f2.2, ⟨f1, f2, by omega, by omega, amw acc y, by cases acc <;> rfl, f3, fun r hr => i7 r (q5.row (by omega) hf e6 hr)⟩, by show (t.length - l).toNat < (t.length - j).toNat; omega⟩
    ·cases acc with
     | none =>
      rw [if_neg (by simp [i5])]
      exact ⟨(i1.trans q1).trans e1, e2, e7⟩
     | some z =>
      rw [if_pos (by simp [i5])]
      refine ⟨⟨i2.1, e2.1⟩, ?_⟩
      rintro n4 u4 B4 ⟨z1, z2, z3⟩
      exact ⟨z2.2, ((i1.trans q1).trans e1).trans z1, z2, z3 z y (i6.more (q1.trans e1)) e7⟩
   ·by_cases k1 : nx t j = 42 <;> by_cases k2 : nx t j = 43 <;> by_cases k3 : nx t j = 63 <;> by_cases k4 : nx t j = 123 <;> first | omega | simp [k1, k2, k3, k4]
  ·by_cases k1 : nx t j = 124 <;> by_cases k2 : nx t j = 38 <;> by_cases k3 : nx t j = 45 <;> by_cases k4 : nx t j = 41 <;> first | omega | simp [k1, k2, k3, k4]
 ·rintro out (⟨n, u, t', j, w', o', D, ⟨rfl, rfl, hR⟩, rfl⟩ | ⟨v, t', q, w', o', D, ⟨rfl, c, p, rfl, hR⟩, rfl⟩)
  ·exact .inl ⟨n, u, j, w', D, hR, rfl⟩
  ·exact .inr ⟨c, p, q, w', o', D, hR, rfl⟩
def an4 (s_0 : List UInt8) (s_1 : Int) (sl : List Int) (B : List (Nat × Obj)) (K : Int → Value → (List UInt8) → Int → (List Int) → (List (Nat × Obj)) → Prop) (KP : Value → (List UInt8) → Int → (List Int) → (List (Nat × Obj)) → Prop) : Prop :=
 (ag8 s_0 s_1) ∧
 (0 ≤ s_1 ∧ s_1 ≤ (s_0.length : Int) ∧ s_0.length ≤ 1048576 ∧ sl.length ≤ 1000) ∧
 (∀ (sz : Int) (u : Value) (j : Int) (B_1' : List (Nat × Obj)), agb (PR s_0 (.row none) sl.length s_1) s_0 s_1 B B_1' j sz u →
  (u.oneCell' = true) ∧
  ∃ (Inv : Int → Value → Int → (List (Nat × Obj)) → Prop) (mu : Int → Value → Int → (List (Nat × Obj)) → Nat),
   Inv sz u j B_1' ∧ ∀ (out_0_1' : Int) (out_1_1' : Value) (s_1_2' : Int) (c_6' : List (Nat × Obj)), Inv out_0_1' out_1_1' s_1_2' c_6' →
    (if (!(decide ((s_0.length : Int) ≤ s_1_2'))) = true then
     (0 ≤ s_1_2') ∧
     (if (decide (nx s_0 s_1_2' = 38)) = true then
      (I64 (s_1_2' + 1)) ∧
      (ag8 s_0 (s_1_2' + 1)) ∧
      (0 ≤ (s_1_2' + 1) ∧ (s_1_2' + 1) ≤ (s_0.length : Int) ∧ s_0.length ≤ 1048576 ∧ sl.length ≤ 1000) ∧
      (∀ (sz_9' : Int) (u_9' : Value) (j_5' : Int) (B_15' : List (Nat × Obj)), agb (PR s_0 (.row none) sl.length (s_1_2' + 1)) s_0 (s_1_2' + 1) c_6' B_15' j_5' sz_9' u_9' →
       (y4 out_0_1' ∧ y4 sz_9') ∧
       (∀ (sz_10' : Int) (u_10' : Value) (B_17' : List (Nat × Obj)), agh Tr.and B_15' B_17' out_0_1' out_1_1' sz_9' u_9' sz_10' u_10' →
        (u_10'.oneCell' = true) ∧
        Inv sz_10' u_10' j_5' B_17' ∧ mu sz_10' u_10' j_5' B_17' < mu out_0_1' out_1_1' s_1_2' c_6')) ∧
      (∀ (c_7' : Int) (p_5' : Int) (q_5' : Int) (o_34' : List Int) (B_16' : List (Nat × Obj)), PR s_0 (.row none) sl.length (s_1_2' + 1) (.error (c_7', p_5')) →
       KP (o3 c_7' p_5') s_0 q_5' o_34' B_16')
     else
      (if (decide (nx s_0 s_1_2' = 45)) = true then
       (I64 (s_1_2' + 1)) ∧
       (ag8 s_0 (s_1_2' + 1)) ∧
       (0 ≤ (s_1_2' + 1) ∧ (s_1_2' + 1) ≤ (s_0.length : Int) ∧ s_0.length ≤ 1048576 ∧ sl.length ≤ 1000) ∧
       (∀ (sz_11' : Int) (u_11' : Value) (j_6' : Int) (B_18' : List (Nat × Obj)), agb (PR s_0 (.row none) sl.length (s_1_2' + 1)) s_0 (s_1_2' + 1) c_6' B_18' j_6' sz_11' u_11' →
        (y4 out_0_1' ∧ y4 sz_11') ∧
        (∀ (sz_12' : Int) (u_12' : Value) (B_20' : List (Nat × Obj)), agh Tr.minus B_18' B_20' out_0_1' out_1_1' sz_11' u_11' sz_12' u_12' →
         (u_12'.oneCell' = true) ∧
         Inv sz_12' u_12' j_6' B_20' ∧ mu sz_12' u_12' j_6' B_20' < mu out_0_1' out_1_1' s_1_2' c_6')) ∧
       (∀ (c_8' : Int) (p_6' : Int) (q_6' : Int) (o_40' : List Int) (B_19' : List (Nat × Obj)), PR s_0 (.row none) sl.length (s_1_2' + 1) (.error (c_8', p_6')) →
        KP (o3 c_8' p_6') s_0 q_6' o_40' B_19')
      else
       (out_1_1'.oneCell' = true) ∧
       K out_0_1' out_1_1' s_0 s_1_2' sl c_6'))
    else
     (out_1_1'.oneCell' = true) ∧
     K out_0_1' out_1_1' s_0 s_1_2' sl c_6')) ∧
 (∀ (c : Int) (p : Int) (q : Int) (o : List Int) (B_2' : List (Nat × Obj)), PR s_0 (.row none) sl.length s_1 (.error (c, p)) →
  KP (o3 c p) s_0 q o B_2')
theorem ay7 (b : Nat) (w : Value) (te : TypeId) (fre : Nat × Nat) (s_0 : List UInt8) (s_1 : Int) (sl : List Int) (B : List (Nat × Obj)) (K : Int → Value → (List UInt8) → Int → (List Int) → (List (Nat × Obj)) → Prop) (KP : Value → (List UInt8) → Int → (List Int) → (List (Nat × Obj)) → Prop) (h : an4 s_0 s_1 sl B K KP) :
  d5 Tryd.prog 26 [zP b] [(0, .cells [zU 110, zU 10, zU 114, zU 13, zU 116, zU 9].toArray te fre)] [HA.blk b (.cells [st s_0, zI s_1, w].toArray 42 (0, 0)), HA.row w 3 1 sl.length (sl.flatMap t0), pool B] (fun o => (∃ (v_0 : Int) (v_1 : Value) (d_1' : List UInt8) (d_2' : Int) (w_17' : Value) (d : List Int) (D : List (Nat × Obj)), K v_0 v_1 d_1' d_2' d D ∧ o = .ret (Value.agg [zI v_0, v_1].toArray) [HA.blk b (.cells [st d_1', zI d_2', w_17'].toArray 42 (0, 0)), HA.row w_17' 3 1 d.length (d.flatMap t0), pool D]) ∨ (∃ (pv : Value) (d_1' : List UInt8) (d_2' : Int) (w_17' : Value) (d : List Int) (D : List (Nat × Obj)), KP pv d_1' d_2' d D ∧ o = .pan [{ v := pv, recovered := false }] [HA.blk b (.cells [st d_1', zI d_2', w_17'].toArray 42 (0, 0)), HA.row w_17' 3 1 d.length (d.flatMap t0), pool D])) := by
 unfold an4 at h
 refine c8 (n := 39) (L0 := [(0, zP b)]) Tryd.func26 rfl rfl rfl rfl (fun w0 M Q hE => ?_)
 refine a6 (fun _ hK => ?_)
 refine a4 ?_
 refine WL.make (MV.alloc s9) rfl rfl rfl (fun b_1' => ?_)
 refine WL.nil ?_
 refine kg (hK [(0, zP b), (2, zP b_1')] _ ?_)
 refine a6 (fun _ hK_1' => ?_)
 refine a4 ?_
 refine wm ?_
 obtain ⟨o_1', h⟩ := h
 obtain ⟨o_2', h⟩ := h
 refine WL.pick (H' := [HA.blk b (.cells [st s_0, zI s_1, w].toArray 42 (0, 0)), HA.row w 3 1 sl.length (sl.flatMap t0), pool B, HA.blk b_1' (.cells [zI 0, Value.nilFunc].toArray 45 (0, 0))]) [1, 2, 3, 0] rfl rfl ?_
 refine WL.callS aj5 rfl (o_1' b te fre w sl B o_2') rfl ⟨.inr (List.mem_of_getElem? (i := 0) rfl), trivial⟩ rfl rfl (fun r H' hS => ?_) (fun c H' hS => ?_)
 ·rcases hS with ⟨sz, u, j, w_1', B_1', hc, ho⟩ | ⟨c, p, q, w_2', o, B_2', hc, ho⟩ <;> cases ho
  replace h := h.1 sz u j B_1' hc
  refine WL.make (MV.alloc s9) rfl rfl rfl (fun b_2' => ?_)
  obtain ⟨o_3', h⟩ := h
  refine WL.storeW (vs := [zI sz, u]) 0 rfl rfl rfl rfl rfl j8 rfl (d4 rfl (d4 o_3' m6)) rfl ?_
  refine WL.nil ?_
  refine kg (hK_1' [(0, zP b), (2, zP b_1'), (3, zP b_2')] _ ?_)
  refine a6 (fun _ hK_2' => ?_)
  refine d6 ?_
  obtain ⟨Inv, mu, h0, hr⟩ := h
  refine w9 (S := Int × Value × Int × Value × (List (Nat × Obj))) (fun σ => Inv σ.1 σ.2.1 σ.2.2.1 σ.2.2.2.2) (fun σ => mu σ.1 σ.2.1 σ.2.2.1 σ.2.2.2.2) (fun σ => [(0, zP b), (2, zP b_1'), (3, zP b_2')]) (fun σ => [HA.blk b_2' (.cells [zI σ.1, σ.2.1].toArray 45 (0, 0)), HA.blk b (.cells [st s_0, zI σ.2.2.1, σ.2.2.2.1].toArray 42 (0, 0)), HA.row σ.2.2.2.1 3 1 sl.length (sl.flatMap t0), pool σ.2.2.2.2, HA.blk b_1' (.cells [zI 0, Value.nilFunc].toArray 45 (0, 0))]) (sz, u, j, w_1', B_1') h0 ⟨rfl, rfl, rfl, trivial⟩ rfl ?_
  rintro ⟨out_0_1', out_1_1', s_1_2', w_12', c_6'⟩ hi K0_19' hK_19'
  have h := hr out_0_1' out_1_1' s_1_2' c_6' hi
  show WC _ _ _ _ [(0, zP b), (2, zP b_1'), (3, zP b_2')] [HA.blk b_2' (.cells [zI out_0_1', out_1_1'].toArray 45 (0, 0)), HA.blk b (.cells [st s_0, zI s_1_2', w_12'].toArray 42 (0, 0)), HA.row w_12' 3 1 sl.length (sl.flatMap t0), pool c_6', HA.blk b_1' (.cells [zI 0, Value.nilFunc].toArray 45 (0, 0))]
  refine a6 (fun _ hK_20' => ?_)
  refine a6 (fun _ hK_21' => ?_)
  refine a4 ?_
  refine wm ?_
  refine WL.call (A := []) aa9 rfl (aar b s_0 s_1_2' w_12') rfl ⟨.inl ⟨1, rfl⟩, trivial⟩ rfl rfl ?_
  refine wv (OV.not rfl) ?_
  refine WL.nil ?_
  refine kg (hK_21' [(0, zP b), (2, zP b_1'), (3, zP b_2'), (8, zB (!(decide ((s_0.length : Int) ≤ s_1_2'))))] _ ?_)
  refine b6 (b := !(decide ((s_0.length : Int) ≤ s_1_2'))) rfl (fun hb => ?_) (fun hb => ?_)
  ·replace h := j4 h hb
   refine b7 ?_
   refine kg (hK_20' [(0, zP b), (2, zP b_1'), (3, zP b_2')] _ ?_)
   refine d6 ?_
   refine a6 (fun _ hK_22' => ?_)
   refine a4 ?_
   refine wm ?_
   obtain ⟨o_32', h⟩ := h
   refine WL.call (A := []) aat rfl (aax b s_0 s_1_2' w_12' o_32') rfl ⟨.inl ⟨1, rfl⟩, trivial⟩ rfl rfl ?_
   refine WL.nil ?_
   refine kg (hK_22' [(0, zP b), (2, zP b_1'), (3, zP b_2'), (10, zU (nx s_0 s_1_2'))] _ ?_)
   refine d6 ?_
   refine a6 (fun _ hK_23' => ?_)
   refine a4 ?_
   refine wv (OV.eql rfl rfl) ?_
   refine wa ?_
   refine WL.nil ?_
   refine kg (hK_23' [(0, zP b), (2, zP b_1'), (3, zP b_2'), (10, zU (nx s_0 s_1_2')), (12, zB (decide (nx s_0 s_1_2' = 38)))] _ ?_)
   refine b6 (b := decide (nx s_0 s_1_2' = 38)) rfl (fun hb => ?_) (fun hb => ?_)
   ·replace h := j4 h hb
    refine a6 (fun _ hK_24' => ?_)
    refine a4 ?_
    refine wm ?_
    refine wv (OV.nilCheck rfl) ?_
    refine wv (OV.fieldAddr0 rfl d9) ?_
    refine wv (OV.load rfl (At.own 1 rfl) rfl b5) ?_
    obtain ⟨o_33', h⟩ := h
    refine wv (OV.add rfl rfl o_33') ?_
    refine wv (OV.nilCheck rfl) ?_
    refine wv (OV.fieldAddr0 rfl d9) ?_
    refine WL.store (vs := [zI (s_1_2' + 1)]) (cs' := [st s_0, zI (s_1_2' + 1), w_12']) 1 rfl rfl rfl rfl g9 (Nat.le_of_ble_eq_true rfl) rfl rfl rfl ?_
    refine WL.nil ?_
    refine kg (hK_24' [(0, zP b), (2, zP b_1'), (3, zP b_2')] _ ?_)
    refine x1 2 [0, 4] [HA.blk b_2' (.cells [zI out_0_1', out_1_1'].toArray 45 (0, 0)), HA.blk b_1' (.cells [zI 0, Value.nilFunc].toArray 45 (0, 0))] rfl rfl g8 (by kernel_rfl) (fun T_4' hT_4' => ?_)
    refine TW.val (OV.loadR rfl (At.own 0 rfl) i8) rfl rfl rfl ?_
    refine TW.val (OV.move rfl) rfl rfl rfl ?_
    refine TW.nil (hT_4' _ ?_)
    obtain ⟨o_35', h⟩ := h
    obtain ⟨o_36', h⟩ := h
    refine WLX.pick (H' := [HA.blk b (.cells [st s_0, zI (s_1_2' + 1), w_12'].toArray 42 (0, 0)), HA.row w_12' 3 1 sl.length (sl.flatMap t0), pool c_6', HA.blk b_2' (.cells [zI out_0_1', out_1_1'].toArray 45 (0, 0)), HA.blk b_1' (.cells [zI 0, Value.nilFunc].toArray 45 (0, 0))]) [1, 2, 3, 0, 4] rfl rfl ?_
    refine WLX.callS [0, 1] rfl (EN.fn aj5 rfl) rfl (o_35' b te fre w_12' sl c_6' o_36') rfl rfl ⟨.inr (List.mem_of_getElem? (i := 0) rfl), trivial⟩ rfl rfl (fun r H' hS => ?_) (fun c H' hS => ?_)
    ·rcases hS with ⟨sz_9', u_9', j_5', w_13', B_15', hc, ho⟩ | ⟨c_7', p_5', q_5', w_14', o_34', B_16', hc, ho⟩ <;> cases ho
     replace h := h.1 sz_9' u_9' j_5' B_15' hc
     obtain ⟨o_37', h⟩ := h
     refine WLX.pick (H' := [pool B_15', HA.blk b (.cells [st s_0, zI j_5', w_13'].toArray 42 (0, 0)), HA.row w_13' 3 1 sl.length (sl.flatMap t0), HA.blk b_2' (.cells [zI out_0_1', out_1_1'].toArray 45 (0, 0)), HA.blk b_1' (.cells [zI 0, Value.nilFunc].toArray 45 (0, 0))]) [2, 0, 1, 3, 4] rfl rfl ?_
     refine WLX.callS [2, 3] rfl (EN.fn abq rfl) rfl (abt Tr.and_op out_0_1' out_1_1' sz_9' u_9' B_15' o_37') rfl rfl trivial rfl rfl (fun r H' hS => ?_) (fun c H' hS => ?_)
     ·obtain ⟨sz_10', u_10', B_17', hc, ho⟩ := hS
      cases ho
      replace h := h sz_10' u_10' B_17' hc
      obtain ⟨o_38', h⟩ := h
      refine WLX.opZ (OpK.storeW (vs := [zI sz_10', u_10']) 3 rfl rfl rfl rfl rfl j8 rfl (d4 rfl (d4 o_38' m6))) rfl ?_
      refine WLX.nil ?_
      exact kh (hK_19' (sz_10', u_10', j_5', w_13', B_17') h.1 h.2) [3, 1, 2, 0, 4]
     ·obtain ⟨sz_10', u_10', B_17', hc, ho⟩ := hS
      cases ho
    ·rcases hS with ⟨sz_9', u_9', j_5', w_13', B_15', hc, ho⟩ | ⟨c_7', p_5', q_5', w_14', o_34', B_16', hc, ho⟩ <;> cases ho
     replace h := h.2 c_7' p_5' q_5' o_34' B_16' hc
     refine QX.strong ?_
     exact hE.pan [0, 1, 2] rfl rfl (.inr ⟨_, _, _, _, _, _, h, rfl⟩)
   ·replace h := j5 h hb
    refine a6 (fun _ hK_25' => ?_)
    refine a4 ?_
    refine wv (OV.eql rfl rfl) ?_
    refine wa ?_
    refine WL.nil ?_
    refine kg (hK_25' [(0, zP b), (2, zP b_1'), (3, zP b_2'), (25, zB (decide (nx s_0 s_1_2' = 45)))] _ ?_)
    refine b6 (b := decide (nx s_0 s_1_2' = 45)) rfl (fun hb => ?_) (fun hb => ?_)
    ·replace h := j4 h hb
     refine a6 (fun _ hK_26' => ?_)
     refine a4 ?_
     refine wm ?_
     refine wv (OV.nilCheck rfl) ?_
     refine wv (OV.fieldAddr0 rfl d9) ?_
     refine wv (OV.load rfl (At.own 1 rfl) rfl b5) ?_
     obtain ⟨o_39', h⟩ := h
     refine wv (OV.add rfl rfl o_39') ?_
     refine wv (OV.nilCheck rfl) ?_
     refine wv (OV.fieldAddr0 rfl d9) ?_
     refine WL.store (vs := [zI (s_1_2' + 1)]) (cs' := [st s_0, zI (s_1_2' + 1), w_12']) 1 rfl rfl rfl rfl g9 (Nat.le_of_ble_eq_true rfl) rfl rfl rfl ?_
     refine WL.nil ?_
     refine kg (hK_26' [(0, zP b), (2, zP b_1'), (3, zP b_2')] _ ?_)
     refine x1 2 [0, 4] [HA.blk b_2' (.cells [zI out_0_1', out_1_1'].toArray 45 (0, 0)), HA.blk b_1' (.cells [zI 0, Value.nilFunc].toArray 45 (0, 0))] rfl rfl g8 (by kernel_rfl) (fun T_5' hT_5' => ?_)
     refine TW.val (OV.loadR rfl (At.own 0 rfl) i8) rfl rfl rfl ?_
     refine TW.val (OV.move rfl) rfl rfl rfl ?_
     refine TW.nil (hT_5' _ ?_)
     obtain ⟨o_41', h⟩ := h
     obtain ⟨o_42', h⟩ := h
     refine WLX.pick (H' := [HA.blk b (.cells [st s_0, zI (s_1_2' + 1), w_12'].toArray 42 (0, 0)), HA.row w_12' 3 1 sl.length (sl.flatMap t0), pool c_6', HA.blk b_2' (.cells [zI out_0_1', out_1_1'].toArray 45 (0, 0)), HA.blk b_1' (.cells [zI 0, Value.nilFunc].toArray 45 (0, 0))]) [1, 2, 3, 0, 4] rfl rfl ?_
     refine WLX.callS [0, 1] rfl (EN.fn aj5 rfl) rfl (o_41' b te fre w_12' sl c_6' o_42') rfl rfl ⟨.inr (List.mem_of_getElem? (i := 0) rfl), trivial⟩ rfl rfl (fun r H' hS => ?_) (fun c H' hS => ?_)
     ·rcases hS with ⟨sz_11', u_11', j_6', w_15', B_18', hc, ho⟩ | ⟨c_8', p_6', q_6', w_16', o_40', B_19', hc, ho⟩ <;> cases ho
      replace h := h.1 sz_11' u_11' j_6' B_18' hc
      obtain ⟨o_43', h⟩ := h
      refine WLX.pick (H' := [pool B_18', HA.blk b (.cells [st s_0, zI j_6', w_15'].toArray 42 (0, 0)), HA.row w_15' 3 1 sl.length (sl.flatMap t0), HA.blk b_2' (.cells [zI out_0_1', out_1_1'].toArray 45 (0, 0)), HA.blk b_1' (.cells [zI 0, Value.nilFunc].toArray 45 (0, 0))]) [2, 0, 1, 3, 4] rfl rfl ?_
      refine WLX.callS [2, 3] rfl (EN.fn abq rfl) rfl (abt Tr.minus_op out_0_1' out_1_1' sz_11' u_11' B_18' o_43') rfl rfl trivial rfl rfl (fun r H' hS => ?_) (fun c H' hS => ?_)
      ·obtain ⟨sz_12', u_12', B_20', hc, ho⟩ := hS
       cases ho
       replace h := h sz_12' u_12' B_20' hc
       obtain ⟨o_44', h⟩ := h
       refine WLX.opZ (OpK.storeW (vs := [zI sz_12', u_12']) 3 rfl rfl rfl rfl rfl j8 rfl (d4 rfl (d4 o_44' m6))) rfl ?_
       refine WLX.nil ?_
       exact kh (hK_19' (sz_12', u_12', j_6', w_15', B_20') h.1 h.2) [3, 1, 2, 0, 4]
      ·obtain ⟨sz_12', u_12', B_20', hc, ho⟩ := hS
       cases ho
     ·rcases hS with ⟨sz_11', u_11', j_6', w_15', B_18', hc, ho⟩ | ⟨c_8', p_6', q_6', w_16', o_40', B_19', hc, ho⟩ <;> cases ho
      replace h := h.2 c_8' p_6' q_6' o_40' B_19' hc
      refine QX.strong ?_
      exact hE.pan [0, 1, 2] rfl rfl (.inr ⟨_, _, _, _, _, _, h, rfl⟩)
    ·replace h := j5 h hb
     refine a6 (fun _ hK_27' => ?_)
     refine a4 ?_
     refine wv (OV.loadR rfl (At.own 0 rfl) i8) ?_
     obtain ⟨o_45', h⟩ := h
     refine WL.storeW (vs := [zI out_0_1', out_1_1']) 4 rfl rfl rfl rfl rfl j8 rfl (d4 rfl (d4 o_45' m6)) rfl ?_
     refine WL.nil ?_
     refine kg (hK_27' [(2, zP b_1')] _ ?_)
     refine c9 ?_
     exact hE.ret [1, 2, 3] rfl rfl (.inl ⟨_, _, _, _, _, _, _, h, rfl⟩) (f9.of1 rfl (RV.row rfl (At.own 4 rfl) i8))
  ·replace h := j5 h hb
   refine s5 ?_
   refine kg (hK_2' [(2, zP b_1'), (3, zP b_2')] _ ?_)
   refine a6 (fun _ hK_28' => ?_)
   refine a4 ?_
   refine wv (OV.loadR rfl (At.own 0 rfl) i8) ?_
   obtain ⟨o_46', h⟩ := h
   refine WL.storeW (vs := [zI out_0_1', out_1_1']) 4 rfl rfl rfl rfl rfl j8 rfl (d4 rfl (d4 o_46' m6)) rfl ?_
   refine WL.nil ?_
   refine kg (hK_28' [(2, zP b_1')] _ ?_)
   refine c9 ?_
   exact hE.ret [1, 2, 3] rfl rfl (.inl ⟨_, _, _, _, _, _, _, h, rfl⟩) (f9.of1 rfl (RV.row rfl (At.own 4 rfl) i8))
 ·rcases hS with ⟨sz, u, j, w_1', B_1', hc, ho⟩ | ⟨c, p, q, w_2', o, B_2', hc, ho⟩ <;> cases ho
  replace h := h.2 c p q o B_2' hc
  exact hE.pan [0, 1, 2] rfl rfl (.inr ⟨_, _, _, _, _, _, h, rfl⟩)
theorem axo {t : List UInt8} {i : Int} (hA : ∀ j, i ≤ j → ag8 t j) : agx t i := by
 rintro b te fre w o B ⟨h0, h1, h2, h3⟩
 refine (ay7 b w te fre t i o B (KR (PR t .meet o.length i) t o i B) (KE (PR t .meet o.length i) t) ?_).weak ?_
 ·unfold an4
  refine ⟨hA i (by omega), ⟨h0, h1, h2, h3⟩, ?_, fun c p q o2 B2 hE => ⟨rfl, c, p, rfl, .meetE hE⟩⟩
  rintro n0 u0 j0 B0 ⟨g1, g2, g3, g4, x0, g5, g6⟩
  refine ⟨g2.2, fun n u j c => ac2 B c ∧ abl n u ∧ i ≤ j ∧ j ≤ t.length ∧ ∃ x, Is c n u x ∧ ∀ r, PR t (.meetL x) o.length j r → PR t .meet o.length i r,
   fun _ _ j _ => (t.length - j).toNat, ⟨g1, g2, g3, g4, x0, g6, fun r hr => .meet g5 hr⟩, ?_⟩
  rintro n u j c ⟨i1, i2, i3, i4, x, i5, i6⟩
  have hstop : ¬ (j < t.length ∧ (nx t j = 38 ∨ nx t j = 45)) → agb (PR t .meet o.length i) t i B c j n u := fun hs => ⟨i1, i2, i3, i4, x, i6 _ (.meetZ hs), i5⟩
  by_cases hl : (t.length : Int) ≤ j
  ·rw [if_neg (by simpa using hl)]
   exact ⟨i2.2, rfl, rfl, hstop (by omega)⟩
  rw [if_pos (by simpa using hl)]
  refine ⟨by omega, ?_⟩
  by_cases c1 : nx t j = 38
  ·rw [if_pos (by simpa using c1)]
   refine ⟨by unfold I64; omega, hA (j + 1) (by omega), ⟨by omega, by omega, h2, h3⟩, ?_, fun c2 p2 q2 o2 B2 hE => ⟨rfl, c2, p2, rfl, i6 _ (.meetLE (by omega) (.inl c1) hE)⟩⟩
   rintro n2 u2 k B2 ⟨q1, q2, q3, q4, y, q5, q6⟩
   refine ⟨⟨i2.1, q2.1⟩, ?_⟩
   rintro n3 u3 B3 ⟨z1, z2, z3⟩
   exact ⟨z2.2, ⟨(i1.trans q1).trans z1, z2, by omega, q4, .and x y, z3 x y (i5.more q1) q6, fun r hr => i6 r (.meetL (by omega) (.inl c1) q5 (by rw [ary, if_pos c1]; exact hr))⟩, by show (t.length - k).toNat < (t.length - j).toNat; omega⟩
  rw [if_neg (by simpa using c1)]
  by_cases c2 : nx t j = 45
  ·rw [if_pos (by simpa using c2)]
   refine ⟨by unfold I64; omega, hA (j + 1) (by omega), ⟨by omega, by omega, h2, h3⟩, ?_, fun c3 p2 q2 o2 B2 hE => ⟨rfl, c3, p2, rfl, i6 _ (.meetLE (by omega) (.inr c2) hE)⟩⟩
   rintro n2 u2 k B2 ⟨q1, q2, q3, q4, y, q5, q6⟩
   refine ⟨⟨i2.1, q2.1⟩, ?_⟩
   rintro n3 u3 B3 ⟨z1, z2, z3⟩
   exact ⟨z2.2, ⟨(i1.trans q1).trans z1, z2, by omega, q4, .minus x y, z3 x y (i5.more q1) q6, fun r hr => i6 r (.meetL (by omega) (.inr c2) q5 (by rw [ary, if_neg c1]; exact hr))⟩, by show (t.length - k).toNat < (t.length - j).toNat; omega⟩
  rw [if_neg (by simpa using c2)]
  exact ⟨i2.2, rfl, rfl, hstop (by omega)⟩
 ·rintro out (⟨n, u, t', j, w', o', D, ⟨rfl, rfl, hR⟩, rfl⟩ | ⟨v, t', q, w', o', D, ⟨rfl, c, p, rfl, hR⟩, rfl⟩)
  ·exact .inl ⟨n, u, j, w', D, hR, rfl⟩
  ·exact .inr ⟨c, p, q, w', o', D, hR, rfl⟩
def aqh (s_0 : List UInt8) (s_1 : Int) (sl : List Int) (B : List (Nat × Obj)) (K : Int → Value → (List UInt8) → Int → (List Int) → (List (Nat × Obj)) → Prop) (KP : Value → (List UInt8) → Int → (List Int) → (List (Nat × Obj)) → Prop) : Prop :=
 (agx s_0 s_1) ∧
 (0 ≤ s_1 ∧ s_1 ≤ (s_0.length : Int) ∧ s_0.length ≤ 1048576 ∧ sl.length ≤ 1000) ∧
 (∀ (sz : Int) (u : Value) (j : Int) (B_1' : List (Nat × Obj)), agb (PR s_0 .meet sl.length s_1) s_0 s_1 B B_1' j sz u →
  (u.oneCell' = true) ∧
  ∃ (Inv : Int → Value → Int → (List (Nat × Obj)) → Prop) (mu : Int → Value → Int → (List (Nat × Obj)) → Nat),
   Inv sz u j B_1' ∧ ∀ (out_0_1' : Int) (out_1_1' : Value) (s_1_2' : Int) (c_4' : List (Nat × Obj)), Inv out_0_1' out_1_1' s_1_2' c_4' →
    ((!(decide ((s_0.length : Int) ≤ s_1_2'))) = true → (0 ≤ s_1_2')) ∧
    (if ((!(decide ((s_0.length : Int) ≤ s_1_2'))) && (decide (nx s_0 s_1_2' = 124))) = true then
     (I64 (s_1_2' + 1)) ∧
     (agx s_0 (s_1_2' + 1)) ∧
     (0 ≤ (s_1_2' + 1) ∧ (s_1_2' + 1) ≤ (s_0.length : Int) ∧ s_0.length ≤ 1048576 ∧ sl.length ≤ 1000) ∧
     (∀ (sz_5' : Int) (u_5' : Value) (j_3' : Int) (B_9' : List (Nat × Obj)), agb (PR s_0 .meet sl.length (s_1_2' + 1)) s_0 (s_1_2' + 1) c_4' B_9' j_3' sz_5' u_5' →
      (y4 out_0_1' ∧ y4 sz_5') ∧
      (∀ (sz_6' : Int) (u_6' : Value) (B_11' : List (Nat × Obj)), agh Tr.alt B_9' B_11' out_0_1' out_1_1' sz_5' u_5' sz_6' u_6' →
       (u_6'.oneCell' = true) ∧
       Inv sz_6' u_6' j_3' B_11' ∧ mu sz_6' u_6' j_3' B_11' < mu out_0_1' out_1_1' s_1_2' c_4')) ∧
     (∀ (c_5' : Int) (p_3' : Int) (q_3' : Int) (o_23' : List Int) (B_10' : List (Nat × Obj)), PR s_0 .meet sl.length (s_1_2' + 1) (.error (c_5', p_3')) →
      KP (o3 c_5' p_3') s_0 q_3' o_23' B_10')
    else
     (out_1_1'.oneCell' = true) ∧
     K out_0_1' out_1_1' s_0 s_1_2' sl c_4')) ∧
 (∀ (c : Int) (p : Int) (q : Int) (o : List Int) (B_2' : List (Nat × Obj)), PR s_0 .meet sl.length s_1 (.error (c, p)) →
  KP (o3 c p) s_0 q o B_2')
theorem a0h (b : Nat) (w : Value) (te : TypeId) (fre : Nat × Nat) (s_0 : List UInt8) (s_1 : Int) (sl : List Int) (B : List (Nat × Obj)) (K : Int → Value → (List UInt8) → Int → (List Int) → (List (Nat × Obj)) → Prop) (KP : Value → (List UInt8) → Int → (List Int) → (List (Nat × Obj)) → Prop) (h : aqh s_0 s_1 sl B K KP) :
  d5 Tryd.prog 10 [zP b] [(0, .cells [zU 110, zU 10, zU 114, zU 13, zU 116, zU 9].toArray te fre)] [HA.blk b (.cells [st s_0, zI s_1, w].toArray 42 (0, 0)), HA.row w 3 1 sl.length (sl.flatMap t0), pool B] (fun o => (∃ (v_0 : Int) (v_1 : Value) (d_1' : List UInt8) (d_2' : Int) (w_11' : Value) (d : List Int) (D : List (Nat × Obj)), K v_0 v_1 d_1' d_2' d D ∧ o = .ret (Value.agg [zI v_0, v_1].toArray) [HA.blk b (.cells [st d_1', zI d_2', w_11'].toArray 42 (0, 0)), HA.row w_11' 3 1 d.length (d.flatMap t0), pool D]) ∨ (∃ (pv : Value) (d_1' : List UInt8) (d_2' : Int) (w_11' : Value) (d : List Int) (D : List (Nat × Obj)), KP pv d_1' d_2' d D ∧ o = .pan [{ v := pv, recovered := false }] [HA.blk b (.cells [st d_1', zI d_2', w_11'].toArray 42 (0, 0)), HA.row w_11' 3 1 d.length (d.flatMap t0), pool D])) := by
 unfold aqh at h
 refine c8 (n := 26) (L0 := [(0, zP b)]) Tryd.func10 rfl rfl rfl rfl (fun w0 M Q hE => ?_)
 refine a6 (fun _ hK => ?_)
 refine a4 ?_
 refine WL.make (MV.alloc s9) rfl rfl rfl (fun b_1' => ?_)
 refine WL.nil ?_
 refine kg (hK [(0, zP b), (2, zP b_1')] _ ?_)
 refine a6 (fun _ hK_1' => ?_)
 refine a4 ?_
 refine wm ?_
 obtain ⟨o_1', h⟩ := h
 obtain ⟨o_2', h⟩ := h
 refine WL.pick (H' := [HA.blk b (.cells [st s_0, zI s_1, w].toArray 42 (0, 0)), HA.row w 3 1 sl.length (sl.flatMap t0), pool B, HA.blk b_1' (.cells [zI 0, Value.nilFunc].toArray 45 (0, 0))]) [1, 2, 3, 0] rfl rfl ?_
 refine WL.callS apa rfl (o_1' b te fre w sl B o_2') rfl ⟨.inr (List.mem_of_getElem? (i := 0) rfl), trivial⟩ rfl rfl (fun r H' hS => ?_) (fun c H' hS => ?_)
 ·rcases hS with ⟨sz, u, j, w_1', B_1', hc, ho⟩ | ⟨c, p, q, w_2', o, B_2', hc, ho⟩ <;> cases ho
  replace h := h.1 sz u j B_1' hc
  refine WL.make (MV.alloc s9) rfl rfl rfl (fun b_2' => ?_)
  obtain ⟨o_3', h⟩ := h
  refine WL.storeW (vs := [zI sz, u]) 0 rfl rfl rfl rfl rfl j8 rfl (d4 rfl (d4 o_3' m6)) rfl ?_
  refine WL.nil ?_
  refine kg (hK_1' [(0, zP b), (2, zP b_1'), (3, zP b_2')] _ ?_)
  refine a6 (fun _ hK_2' => ?_)
  refine d6 ?_
  obtain ⟨Inv, mu, h0, hr⟩ := h
  refine w9 (S := Int × Value × Int × Value × (List (Nat × Obj))) (fun σ => Inv σ.1 σ.2.1 σ.2.2.1 σ.2.2.2.2) (fun σ => mu σ.1 σ.2.1 σ.2.2.1 σ.2.2.2.2) (fun σ => [(0, zP b), (2, zP b_1'), (3, zP b_2')]) (fun σ => [HA.blk b_2' (.cells [zI σ.1, σ.2.1].toArray 45 (0, 0)), HA.blk b (.cells [st s_0, zI σ.2.2.1, σ.2.2.2.1].toArray 42 (0, 0)), HA.row σ.2.2.2.1 3 1 sl.length (sl.flatMap t0), pool σ.2.2.2.2, HA.blk b_1' (.cells [zI 0, Value.nilFunc].toArray 45 (0, 0))]) (sz, u, j, w_1', B_1') h0 ⟨rfl, rfl, rfl, trivial⟩ rfl ?_
  rintro ⟨out_0_1', out_1_1', s_1_2', w_8', c_4'⟩ hi K0_11' hK_11'
  have h := hr out_0_1' out_1_1' s_1_2' c_4' hi
  show WC _ _ _ _ [(0, zP b), (2, zP b_1'), (3, zP b_2')] [HA.blk b_2' (.cells [zI out_0_1', out_1_1'].toArray 45 (0, 0)), HA.blk b (.cells [st s_0, zI s_1_2', w_8'].toArray 42 (0, 0)), HA.row w_8' 3 1 sl.length (sl.flatMap t0), pool c_4', HA.blk b_1' (.cells [zI 0, Value.nilFunc].toArray 45 (0, 0))]
  refine a6 (fun _ hK_12' => ?_)
  refine a6 (fun _ hK_13' => ?_)
  refine a4 ?_
  refine wm ?_
  refine WL.call (A := []) aa9 rfl (aar b s_0 s_1_2' w_8') rfl ⟨.inl ⟨1, rfl⟩, trivial⟩ rfl rfl ?_
  refine wv (OV.not rfl) ?_
  refine wm ?_
  obtain ⟨o_21', h⟩ := h
  refine WL.cut 4 [(0, zP b), (2, zP b_1'), (3, zP b_2'), (13, zB ((!(decide ((s_0.length : Int) ≤ s_1_2'))) && (decide (nx s_0 s_1_2' = 124))))] ?_ (fun K0_14' hK_14' => ?_)
  rotate_left
  ·refine WL.split (!(decide ((s_0.length : Int) ≤ s_1_2'))) (fun hb => ?_) (fun hb => ?_)
   ·have o_20' := o_21' hb
    refine WL.set 9 rfl (congrArg zB hb) ?_
    refine wm ?_
    refine WL.call (A := []) aat rfl (aax b s_0 s_1_2' w_8' o_20') rfl ⟨.inl ⟨1, rfl⟩, trivial⟩ rfl rfl ?_
    refine wv (OV.eql rfl rfl) ?_
    refine wv (OV.pickT rfl rfl) ?_
    refine WL.set 13 rfl (bT (v := decide (nx s_0 s_1_2' = 124)) hb) ?_
    exact WL.end_ (kg hK_14')
   ·refine WL.set 9 rfl (congrArg zB hb) ?_
    refine wk ?_
    refine wk ?_
    refine wk ?_
    refine wv (OV.pickF rfl rfl) ?_
    refine WL.set 13 rfl (bF (v := decide (nx s_0 s_1_2' = 124)) hb) ?_
    exact WL.end_ (kg hK_14')
  refine WL.nil ?_
  refine kg (hK_13' [(0, zP b), (2, zP b_1'), (3, zP b_2'), (13, zB ((!(decide ((s_0.length : Int) ≤ s_1_2'))) && (decide (nx s_0 s_1_2' = 124))))] _ ?_)
  refine b6 (b := (!(decide ((s_0.length : Int) ≤ s_1_2'))) && (decide (nx s_0 s_1_2' = 124))) rfl (fun hb => ?_) (fun hb => ?_)
  ·replace h := j4 h hb
   refine b7 ?_
   refine kg (hK_12' [(0, zP b), (2, zP b_1'), (3, zP b_2')] _ ?_)
   refine d6 ?_
   refine a6 (fun _ hK_15' => ?_)
   refine a4 ?_
   refine wm ?_
   refine wv (OV.nilCheck rfl) ?_
   refine wv (OV.fieldAddr0 rfl d9) ?_
   refine wv (OV.load rfl (At.own 1 rfl) rfl b5) ?_
   obtain ⟨o_22', h⟩ := h
   refine wv (OV.add rfl rfl o_22') ?_
   refine wv (OV.nilCheck rfl) ?_
   refine wv (OV.fieldAddr0 rfl d9) ?_
   refine WL.store (vs := [zI (s_1_2' + 1)]) (cs' := [st s_0, zI (s_1_2' + 1), w_8']) 1 rfl rfl rfl rfl g9 (Nat.le_of_ble_eq_true rfl) rfl rfl rfl ?_
   refine WL.nil ?_
   refine kg (hK_15' [(0, zP b), (2, zP b_1'), (3, zP b_2')] _ ?_)
   refine x1 2 [0, 4] [HA.blk b_2' (.cells [zI out_0_1', out_1_1'].toArray 45 (0, 0)), HA.blk b_1' (.cells [zI 0, Value.nilFunc].toArray 45 (0, 0))] rfl rfl g8 (by kernel_rfl) (fun T_2' hT_2' => ?_)
   refine TW.val (OV.loadR rfl (At.own 0 rfl) i8) rfl rfl rfl ?_
   refine TW.val (OV.move rfl) rfl rfl rfl ?_
   refine TW.nil (hT_2' _ ?_)
   obtain ⟨o_24', h⟩ := h
   obtain ⟨o_25', h⟩ := h
   refine WLX.pick (H' := [HA.blk b (.cells [st s_0, zI (s_1_2' + 1), w_8'].toArray 42 (0, 0)), HA.row w_8' 3 1 sl.length (sl.flatMap t0), pool c_4', HA.blk b_2' (.cells [zI out_0_1', out_1_1'].toArray 45 (0, 0)), HA.blk b_1' (.cells [zI 0, Value.nilFunc].toArray 45 (0, 0))]) [1, 2, 3, 0, 4] rfl rfl ?_
   refine WLX.callS [0, 1] rfl (EN.fn apa rfl) rfl (o_24' b te fre w_8' sl c_4' o_25') rfl rfl ⟨.inr (List.mem_of_getElem? (i := 0) rfl), trivial⟩ rfl rfl (fun r H' hS => ?_) (fun c H' hS => ?_)
   ·rcases hS with ⟨sz_5', u_5', j_3', w_9', B_9', hc, ho⟩ | ⟨c_5', p_3', q_3', w_10', o_23', B_10', hc, ho⟩ <;> cases ho
    replace h := h.1 sz_5' u_5' j_3' B_9' hc
    obtain ⟨o_26', h⟩ := h
    refine WLX.pick (H' := [pool B_9', HA.blk b (.cells [st s_0, zI j_3', w_9'].toArray 42 (0, 0)), HA.row w_9' 3 1 sl.length (sl.flatMap t0), HA.blk b_2' (.cells [zI out_0_1', out_1_1'].toArray 45 (0, 0)), HA.blk b_1' (.cells [zI 0, Value.nilFunc].toArray 45 (0, 0))]) [2, 0, 1, 3, 4] rfl rfl ?_
    refine WLX.callS [2, 3] rfl (EN.fn abq rfl) rfl (abt Tr.alt_op out_0_1' out_1_1' sz_5' u_5' B_9' o_26') rfl rfl trivial rfl rfl (fun r H' hS => ?_) (fun c H' hS => ?_)
    ·obtain ⟨sz_6', u_6', B_11', hc, ho⟩ := hS
     cases ho
     replace h := h sz_6' u_6' B_11' hc
     obtain ⟨o_27', h⟩ := h
     refine WLX.opZ (OpK.storeW (vs := [zI sz_6', u_6']) 3 rfl rfl rfl rfl rfl j8 rfl (d4 rfl (d4 o_27' m6))) rfl ?_
     refine WLX.nil ?_
     exact kh (hK_11' (sz_6', u_6', j_3', w_9', B_11') h.1 h.2) [3, 1, 2, 0, 4]
    ·obtain ⟨sz_6', u_6', B_11', hc, ho⟩ := hS
     cases ho
   ·rcases hS with ⟨sz_5', u_5', j_3', w_9', B_9', hc, ho⟩ | ⟨c_5', p_3', q_3', w_10', o_23', B_10', hc, ho⟩ <;> cases ho
    replace h := h.2 c_5' p_3' q_3' o_23' B_10' hc
    refine QX.strong ?_
    exact hE.pan [0, 1, 2] rfl rfl (.inr ⟨_, _, _, _, _, _, h, rfl⟩)
  ·replace h := j5 h hb
   refine s5 ?_
   refine kg (hK_2' [(2, zP b_1'), (3, zP b_2')] _ ?_)
   refine a6 (fun _ hK_16' => ?_)
   refine a4 ?_
   refine wv (OV.loadR rfl (At.own 0 rfl) i8) ?_
   obtain ⟨o_28', h⟩ := h
   refine WL.storeW (vs := [zI out_0_1', out_1_1']) 4 rfl rfl rfl rfl rfl j8 rfl (d4 rfl (d4 o_28' m6)) rfl ?_
   refine WL.nil ?_
   refine kg (hK_16' [(2, zP b_1')] _ ?_)
   refine c9 ?_
   exact hE.ret [1, 2, 3] rfl rfl (.inl ⟨_, _, _, _, _, _, _, h, rfl⟩) (f9.of1 rfl (RV.row rfl (At.own 4 rfl) i8))
 ·rcases hS with ⟨sz, u, j, w_1', B_1', hc, ho⟩ | ⟨c, p, q, w_2', o, B_2', hc, ho⟩ <;> cases ho
  replace h := h.2 c p q o B_2' hc
  exact hE.pan [0, 1, 2] rfl rfl (.inr ⟨_, _, _, _, _, _, h, rfl⟩)
theorem ayd {t : List UInt8} {i : Int} (hA : ∀ j, i ≤ j → agx t j) : ahg t i := by
 rintro b te fre w o B ⟨h0, h1, h2, h3⟩
 refine (a0h b w te fre t i o B (KR (PR t .alt o.length i) t o i B) (KE (PR t .alt o.length i) t) ?_).weak ?_
 ·unfold aqh
  refine ⟨hA i (by omega), ⟨h0, h1, h2, h3⟩, ?_, fun c p q o2 B2 hE => ⟨rfl, c, p, rfl, .altE hE⟩⟩
  rintro n0 u0 j0 B0 ⟨g1, g2, g3, g4, x0, g5, g6⟩
  refine ⟨g2.2, fun n u j c => ac2 B c ∧ abl n u ∧ i ≤ j ∧ j ≤ t.length ∧ ∃ x, Is c n u x ∧ ∀ r, PR t (.altL x) o.length j r → PR t .alt o.length i r,
   fun _ _ j _ => (t.length - j).toNat, ⟨g1, g2, g3, g4, x0, g6, fun r hr => .alt g5 hr⟩, ?_⟩
  rintro n u j c ⟨i1, i2, i3, i4, x, i5, i6⟩
  refine ⟨fun _ => by omega, ?_⟩
  by_cases hl : j < t.length ∧ nx t j = 124
  ·rw [if_pos (by simp; omega)]
   refine ⟨by unfold I64; omega, hA (j + 1) (by omega), ⟨by omega, by omega, h2, h3⟩, ?_, fun c2 p2 q2 o2 B2 hE => ⟨rfl, c2, p2, rfl, i6 _ (.altLE hl.1 hl.2 hE)⟩⟩
   rintro n2 u2 k B2 ⟨q1, q2, q3, q4, y, q5, q6⟩
   refine ⟨⟨i2.1, q2.1⟩, ?_⟩
   rintro n3 u3 B3 ⟨z1, z2, z3⟩
   exact ⟨z2.2, ⟨(i1.trans q1).trans z1, z2, by omega, q4, .alt x y, z3 x y (i5.more q1) q6, fun r hr => i6 r (.altL hl.1 hl.2 q5 hr)⟩, by show (t.length - k).toNat < (t.length - j).toNat; omega⟩
  ·rw [if_neg (by simp; omega)]
   exact ⟨i2.2, rfl, rfl, i1, i2, i3, i4, x, i6 _ (.altZ hl), i5⟩
 ·rintro out (⟨n, u, t', j, w', o', D, ⟨rfl, rfl, hR⟩, rfl⟩ | ⟨v, t', q, w', o', D, ⟨rfl, c, p, rfl, hR⟩, rfl⟩)
  ·exact .inl ⟨n, u, j, w', D, hR, rfl⟩
  ·exact .inr ⟨c, p, q, w', o', D, hR, rfl⟩
theorem avu (t : List UInt8) : ∀ (n : Nat) (i : Int), (t.length : Int) - i < n → ahg t i
 | 0, _, h => fun _ _ _ _ _ _ hb => by omega
 | n + 1, i, h => by
  have hA : ∀ j, i ≤ j → ajd t j := fun j hj => av6 (avu t n (j + 1) (by omega))
  have hR : ∀ j, i ≤ j → ag8 t j := fun j hj => azj fun k hk => hA k (by omega)
  have hM : ∀ j, i ≤ j → agx t j := fun j hj => axo fun k hk => hR k (by omega)
  exact ayd hM
theorem ajw (t : List UInt8) (i : Int) : ahg t i := avu t ((t.length : Int) - i + 1).toNat i (by omega)
end Go.Proofs.YtffhedoahdgniaaDoor
