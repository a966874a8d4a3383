/-
  Merged: TsV.
-/
import Derived.Test.YtgocbiiolmmonaaDoorPu4
set_option maxRecDepth 100000
namespace Go.Proofs.YtgocbiiolmmonaaDoor
open Go Go.RowKit
theorem p5 : g7 Tryd.prog 61 0 = some 0 := by kernel_rfl
theorem u9 : w9 Tryd.prog 56 = true := by kernel_rfl
theorem ahn : ae9 Tryd.prog 63 = some (r9 []) := by kernel_rfl
theorem v6 : MapT Tryd.prog 56 9 63 klS := ⟨Tryd.underlying56, Maps.string_keyed Tryd.underlying9, fun _ => trivial, al8⟩
theorem ad7 : ach Tryd.prog 63 = some [st []] := by kernel_rfl
theorem aeh : p8 Tryd.prog 63 1 = true := by kernel_rfl
theorem s7 : ach Tryd.prog 37 = some [zB false, zI 0, zI 0] := by kernel_rfl
theorem r8 : g7 Tryd.prog 59 0 = some 0 := by kernel_rfl
theorem r5 : g7 Tryd.prog 59 1 = some 1 := by kernel_rfl
theorem aat : w9 Tryd.prog 57 = true := by kernel_rfl
theorem adp : ae9 Tryd.prog 37 = some (f7 (false, 0, 0)) := by kernel_rfl
theorem x8 : MapT Tryd.prog 57 3 37 klI := ⟨Tryd.underlying57, Maps.int_keyed Tryd.underlying3, fun _ => trivial, amc⟩
theorem s8 : p8 Tryd.prog 37 3 = true := by kernel_rfl
theorem x6 : RowT Tryd.prog 37 3 := ⟨by kernel_rfl, by kernel_rfl⟩
theorem aah : g7 Tryd.prog 61 1 = some 1 := by kernel_rfl
theorem afn : n9 Tryd.prog 17 = true := by kernel_rfl
theorem abl : n9 Tryd.prog 15 = true := by kernel_rfl
theorem w4 : w9 Tryd.prog 40 = true := by kernel_rfl
theorem w3 : Program.concrete Tryd.prog 65 = true := by kernel_rfl
theorem aes : g7 Tryd.prog 63 0 = some 0 := by kernel_rfl
theorem aab : g7 Tryd.prog 61 2 = some 3 := by kernel_rfl
theorem acs : n9 Tryd.prog 16 = true := by kernel_rfl
theorem abt : g7 Tryd.prog 37 2 = some 2 := by kernel_rfl
theorem adm : p8 Tryd.prog 57 1 = true := by kernel_rfl
theorem acm : slB Tryd.prog 35 34 2 = true := by kernel_rfl
theorem ae6 : RowT Tryd.prog 34 2 := ⟨by kernel_rfl, by kernel_rfl⟩
theorem ad0 : ach Tryd.prog 34 = some [st [], st []] := by kernel_rfl
theorem ad5 : p8 Tryd.prog 34 2 = true := by kernel_rfl
theorem r3 : g7 Tryd.prog 34 0 = some 0 := by kernel_rfl
theorem ab0 : g7 Tryd.prog 34 1 = some 1 := by kernel_rfl
theorem ael : slB Tryd.prog 38 37 3 = true := by kernel_rfl
theorem aew : g7 Tryd.prog 37 0 = some 0 := by kernel_rfl
theorem abx : g7 Tryd.prog 37 1 = some 1 := by kernel_rfl
def af3 (name : List UInt8) (K : Bool → Prop) : Prop :=
 ∃ (Inv : Int → Prop) (mu : Int → Nat),
  Inv 0 ∧ ∀ (t6_1' : Int), Inv t6_1' →
   (if (decide (t6_1' < (name.length : Int))) = true then
    (0 ≤ t6_1' ∧ t6_1' < name.length) ∧
    ((decide (((name.getD t6_1'.toNat 0).toNat : Int) < 32)) = false → (0 ≤ t6_1' ∧ t6_1' < name.length)) ∧
    (if ((decide (((name.getD t6_1'.toNat 0).toNat : Int) < 32)) || (decide (126 < ((name.getD t6_1'.toNat 0).toNat : Int)))) = true then
     K false
    else
     (I64 (t6_1' + 1)) ∧
     Inv (t6_1' + 1) ∧ mu (t6_1' + 1) < mu t6_1')
   else
    K ((!decide (name = [])) && (decide ((name.length : Int) ≤ 32))))
theorem al0  (name : List UInt8) (K : Bool → Prop) (h : af3 name K) :
  i7 Tryd.prog 15 [st name] [] [] (fun o => (∃ (v : Bool), K v ∧ o = .ret (zB v) []) ∨ (False)) := by
 unfold af3 at h
 refine d8 (n := 27) (L0 := [(0, st name)]) Tryd.func15 rfl rfl rfl rfl (fun w0 M Q hE => ?_)
 refine a7 (fun _ hK => ?_)
 refine a6 ?_
 refine wA ?_
 refine WL.nil ?_
 refine kg (hK [(0, st name)] _ ?_)
 refine a7 (fun _ hK_1' => ?_)
 refine a7 (fun _ hK_2' => ?_)
 refine a6 ?_
 refine wm ?_
 refine wv (OV.len rfl d5) ?_
 refine wm ?_
 refine WL.nil ?_
 refine kg (hK_2' [(0, st name), (5, zI (name.length : Int)), (6, zI 0)] _ ?_)
 refine d7 ?_
 obtain ⟨Inv, mu, h0, hr⟩ := h
 refine abh (S := Int) (fun σ => Inv σ) (fun σ => mu σ) (fun σ => [(0, st name), (5, zI (name.length : Int)), (6, zI σ)]) (fun σ => []) 0 h0 ⟨rfl, rfl, rfl, trivial⟩ rfl ?_
 rintro t6_1' hi K0_17' hK_17'
 have h := hr t6_1' hi
 show WC _ _ _ _ [(0, st name), (5, zI (name.length : Int)), (6, zI t6_1')] []
 refine a7 (fun _ hK_18' => ?_)
 refine a6 ?_
 refine wv (OV.lss rfl rfl) ?_
 refine WL.nil ?_
 refine kg (hK_18' [(0, st name), (5, zI (name.length : Int)), (6, zI t6_1'), (7, zB (decide (t6_1' < (name.length : Int))))] _ ?_)
 refine a7 (fun _ hK_19' => ?_)
 refine d4 (b := decide (t6_1' < (name.length : Int))) rfl (fun hb => ?_) (fun hb => ?_)
 ·replace h := k9 h hb
  refine b8 ?_
  refine kg (hK_19' [(0, st name), (5, zI (name.length : Int)), (6, zI t6_1')] _ ?_)
  refine a7 (fun _ hK_20' => ?_)
  refine d7 ?_
  refine a7 (fun _ hK_21' => ?_)
  refine a6 ?_
  refine wm ?_
  refine wA ?_
  refine WL.nil ?_
  refine kg (hK_21' [(0, st name), (3, zI t6_1'), (5, zI (name.length : Int)), (6, zI t6_1')] _ ?_)
  refine a7 (fun _ hK_22' => ?_)
  refine a6 ?_
  refine wm ?_
  refine wm ?_
  obtain ⟨o_7', h⟩ := h
  refine wv (OV.index rfl rfl d5 o_7') ?_
  refine wv (OV.lss rfl rfl) ?_
  refine wm ?_
  obtain ⟨o_9', h⟩ := h
  refine WL.cut 5 [(0, st name), (5, zI (name.length : Int)), (6, zI t6_1'), (18, zB ((decide (((name.getD t6_1'.toNat 0).toNat : Int) < 32)) || (decide (126 < ((name.getD t6_1'.toNat 0).toNat : Int)))))] ?_ (fun K0_23' hK_23' => ?_)
  rotate_left
  ·refine WL.split (decide (((name.getD t6_1'.toNat 0).toNat : Int) < 32)) (fun hb => ?_) (fun hb => ?_)
   ·refine WL.set 13 rfl (congrArg zB hb) ?_
    refine wk ?_
    refine wk ?_
    refine wk ?_
    refine wk ?_
    refine wv (OV.pickT rfl rfl) ?_
    refine WL.set 18 rfl (oT (v := decide (126 < ((name.getD t6_1'.toNat 0).toNat : Int))) hb) ?_
    exact WL.end_ (kg hK_23')
   ·have o_8' := o_9' hb
    refine WL.set 13 rfl (congrArg zB hb) ?_
    refine wm ?_
    refine wm ?_
    refine wv (OV.index rfl rfl d5 o_8') ?_
    refine wv (OV.gtr rfl rfl) ?_
    refine wv (OV.pickF rfl rfl) ?_
    refine WL.set 18 rfl (oF (v := decide (126 < ((name.getD t6_1'.toNat 0).toNat : Int))) hb) ?_
    exact WL.end_ (kg hK_23')
  refine WL.nil ?_
  refine kg (hK_22' [(0, st name), (5, zI (name.length : Int)), (6, zI t6_1'), (18, zB ((decide (((name.getD t6_1'.toNat 0).toNat : Int) < 32)) || (decide (126 < ((name.getD t6_1'.toNat 0).toNat : Int)))))] _ ?_)
  refine d4 (b := (decide (((name.getD t6_1'.toNat 0).toNat : Int) < 32)) || (decide (126 < ((name.getD t6_1'.toNat 0).toNat : Int)))) rfl (fun hb => ?_) (fun hb => ?_)
  ·replace h := k9 h hb
   refine a7 (fun _ hK_24' => ?_)
   refine a6 ?_
   refine wA ?_
   refine WL.nil ?_
   refine kg (hK_24' [(2, zB false)] _ ?_)
   refine e7 ?_
   exact hE.ret [] rfl rfl (.inl ⟨_, h, rfl⟩) (j6.of1 rfl (RV.tmp rfl))
  ·replace h := l6 h hb
   refine b8 ?_
   refine kg (hK_20' [(0, st name), (5, zI (name.length : Int)), (6, zI t6_1')] _ ?_)
   refine a6 ?_
   obtain ⟨o_10', h⟩ := h
   refine wv (OV.add rfl rfl o_10') ?_
   refine wm ?_
   refine WL.nil ?_
   exact kh (hK_17' (t6_1' + 1) h.1 h.2) []
 ·replace h := l6 h hb
  refine u7 ?_
  refine kg (hK_1' [(0, st name)] _ ?_)
  refine a7 (fun _ hK_25' => ?_)
  refine a6 ?_
  refine wm ?_
  refine wv (OV.neqS rfl rfl) ?_
  refine wm ?_
  refine WL.cut 4 [(26, zB ((!decide (name = [])) && (decide ((name.length : Int) ≤ 32))))] ?_ (fun K0_26' hK_26' => ?_)
  rotate_left
  ·refine WL.split (!decide (name = [])) (fun hb => ?_) (fun hb => ?_)
   ·refine WL.set 22 rfl (congrArg zB hb) ?_
    refine wm ?_
    refine wv (OV.len rfl d5) ?_
    refine wv (OV.leq rfl rfl) ?_
    refine wv (OV.pickT rfl rfl) ?_
    refine WL.set 26 rfl (bT (v := decide ((name.length : Int) ≤ 32)) hb) ?_
    exact WL.end_ (kg hK_26')
   ·refine WL.set 22 rfl (congrArg zB hb) ?_
    refine wk ?_
    refine wk ?_
    refine wk ?_
    refine wv (OV.pickF rfl rfl) ?_
    refine WL.set 26 rfl (bF (v := decide ((name.length : Int) ≤ 32)) hb) ?_
    exact WL.end_ (kg hK_26')
  refine wA ?_
  refine WL.nil ?_
  refine kg (hK_25' [(2, zB ((!decide (name = [])) && (decide ((name.length : Int) ≤ 32))))] _ ?_)
  refine e7 ?_
  exact hE.ret [] rfl rfl (.inl ⟨_, h, rfl⟩) (j6.of1 rfl (RV.tmp rfl))
def ad2 (name : List UInt8) (K : Bool → Prop) : Prop :=
 (if ((decide (name = [])) || (decide (32 < (name.length : Int)))) = true then
  K false
 else
  ∃ (Inv : Int → Prop) (mu : Int → Nat),
   Inv 0 ∧ ∀ (i_1' : Int), Inv i_1' →
    (if (decide (i_1' < (name.length : Int))) = true then
     (0 ≤ i_1' ∧ i_1' < name.length) ∧
     ((decide (((name.getD i_1'.toNat 0).toNat : Int) < 32)) = false → (0 ≤ i_1' ∧ i_1' < name.length)) ∧
     (if ((decide (((name.getD i_1'.toNat 0).toNat : Int) < 32)) || (decide (126 < ((name.getD i_1'.toNat 0).toNat : Int)))) = true then
      K false
     else
      (I64 (i_1' + 1)) ∧
      Inv (i_1' + 1) ∧ mu (i_1' + 1) < mu i_1')
    else
     K true))
theorem alj  (name : List UInt8) (K : Bool → Prop) (h : ad2 name K) :
  i7 Tryd.prog 9 [st name] [] [] (fun o => (∃ (v : Bool), K v ∧ o = .ret (zB v) []) ∨ (False)) := by
 unfold ad2 at h
 refine d8 (n := 27) (L0 := [(0, st name)]) Tryd.func9 rfl rfl rfl rfl (fun w0 M Q hE => ?_)
 refine a7 (fun _ hK => ?_)
 refine a6 ?_
 refine wA ?_
 refine WL.nil ?_
 refine kg (hK [(0, st name)] _ ?_)
 refine a7 (fun _ hK_1' => ?_)
 refine a7 (fun _ hK_2' => ?_)
 refine a6 ?_
 refine wm ?_
 refine wv (OV.eqlS rfl rfl) ?_
 refine wm ?_
 refine WL.cut 4 [(0, st name), (10, zB ((decide (name = [])) || (decide (32 < (name.length : Int)))))] ?_ (fun K0_3' hK_3' => ?_)
 rotate_left
 ·refine WL.split (decide (name = [])) (fun hb => ?_) (fun hb => ?_)
  ·refine WL.set 6 rfl (congrArg zB hb) ?_
   refine wk ?_
   refine wk ?_
   refine wk ?_
   refine wv (OV.pickT rfl rfl) ?_
   refine WL.set 10 rfl (oT (v := decide (32 < (name.length : Int))) hb) ?_
   exact WL.end_ (kg hK_3')
  ·refine WL.set 6 rfl (congrArg zB hb) ?_
   refine wm ?_
   refine wv (OV.len rfl d5) ?_
   refine wv (OV.gtr rfl rfl) ?_
   refine wv (OV.pickF rfl rfl) ?_
   refine WL.set 10 rfl (oF (v := decide (32 < (name.length : Int))) hb) ?_
   exact WL.end_ (kg hK_3')
 refine WL.nil ?_
 refine kg (hK_2' [(0, st name), (10, zB ((decide (name = [])) || (decide (32 < (name.length : Int)))))] _ ?_)
 refine d4 (b := (decide (name = [])) || (decide (32 < (name.length : Int)))) rfl (fun hb => ?_) (fun hb => ?_)
 ·replace h := k9 h hb
  refine a7 (fun _ hK_4' => ?_)
  refine a6 ?_
  refine wA ?_
  refine WL.nil ?_
  refine kg (hK_4' [(2, zB false)] _ ?_)
  refine e7 ?_
  exact hE.ret [] rfl rfl (.inl ⟨_, h, rfl⟩) (j6.of1 rfl (RV.tmp rfl))
 ·replace h := l6 h hb
  refine b8 ?_
  refine kg (hK_1' [(0, st name)] _ ?_)
  refine a7 (fun _ hK_5' => ?_)
  refine a7 (fun _ hK_6' => ?_)
  refine a6 ?_
  refine wA ?_
  refine WL.nil ?_
  refine kg (hK_6' [(0, st name), (3, zI 0)] _ ?_)
  refine d7 ?_
  obtain ⟨Inv, mu, h0, hr⟩ := h
  refine abh (S := Int) (fun σ => Inv σ) (fun σ => mu σ) (fun σ => [(0, st name), (3, zI σ)]) (fun σ => []) 0 h0 ⟨rfl, rfl, trivial⟩ rfl ?_
  rintro i_1' hi K0_19' hK_19'
  have h := hr i_1' hi
  show WC _ _ _ _ [(0, st name), (3, zI i_1')] []
  refine a7 (fun _ hK_20' => ?_)
  refine a7 (fun _ hK_21' => ?_)
  refine a6 ?_
  refine wm ?_
  refine wm ?_
  refine wv (OV.len rfl d5) ?_
  refine wv (OV.lss rfl rfl) ?_
  refine WL.nil ?_
  refine kg (hK_21' [(0, st name), (3, zI i_1'), (14, zB (decide (i_1' < (name.length : Int))))] _ ?_)
  refine d4 (b := decide (i_1' < (name.length : Int))) rfl (fun hb => ?_) (fun hb => ?_)
  ·replace h := k9 h hb
   refine b8 ?_
   refine kg (hK_20' [(0, st name), (3, zI i_1')] _ ?_)
   refine a7 (fun _ hK_22' => ?_)
   refine d7 ?_
   refine a7 (fun _ hK_23' => ?_)
   refine a6 ?_
   refine wm ?_
   refine wm ?_
   obtain ⟨o_8', h⟩ := h
   refine wv (OV.index rfl rfl d5 o_8') ?_
   refine wv (OV.lss rfl rfl) ?_
   refine wm ?_
   obtain ⟨o_10', h⟩ := h
   refine WL.cut 5 [(0, st name), (3, zI i_1'), (26, zB ((decide (((name.getD i_1'.toNat 0).toNat : Int) < 32)) || (decide (126 < ((name.getD i_1'.toNat 0).toNat : Int)))))] ?_ (fun K0_24' hK_24' => ?_)
   rotate_left
   ·refine WL.split (decide (((name.getD i_1'.toNat 0).toNat : Int) < 32)) (fun hb => ?_) (fun hb => ?_)
    ·refine WL.set 21 rfl (congrArg zB hb) ?_
     refine wk ?_
     refine wk ?_
     refine wk ?_
     refine wk ?_
     refine wv (OV.pickT rfl rfl) ?_
     refine WL.set 26 rfl (oT (v := decide (126 < ((name.getD i_1'.toNat 0).toNat : Int))) hb) ?_
     exact WL.end_ (kg hK_24')
    ·have o_9' := o_10' hb
     refine WL.set 21 rfl (congrArg zB hb) ?_
     refine wm ?_
     refine wm ?_
     refine wv (OV.index rfl rfl d5 o_9') ?_
     refine wv (OV.gtr rfl rfl) ?_
     refine wv (OV.pickF rfl rfl) ?_
     refine WL.set 26 rfl (oF (v := decide (126 < ((name.getD i_1'.toNat 0).toNat : Int))) hb) ?_
     exact WL.end_ (kg hK_24')
   refine WL.nil ?_
   refine kg (hK_23' [(0, st name), (3, zI i_1'), (26, zB ((decide (((name.getD i_1'.toNat 0).toNat : Int) < 32)) || (decide (126 < ((name.getD i_1'.toNat 0).toNat : Int)))))] _ ?_)
   refine d4 (b := (decide (((name.getD i_1'.toNat 0).toNat : Int) < 32)) || (decide (126 < ((name.getD i_1'.toNat 0).toNat : Int)))) rfl (fun hb => ?_) (fun hb => ?_)
   ·replace h := k9 h hb
    refine a7 (fun _ hK_25' => ?_)
    refine a6 ?_
    refine wA ?_
    refine WL.nil ?_
    refine kg (hK_25' [(2, zB false)] _ ?_)
    refine e7 ?_
    exact hE.ret [] rfl rfl (.inl ⟨_, h, rfl⟩) (j6.of1 rfl (RV.tmp rfl))
   ·replace h := l6 h hb
    refine b8 ?_
    refine kg (hK_22' [(0, st name), (3, zI i_1')] _ ?_)
    refine a6 ?_
    refine wm ?_
    obtain ⟨o_11', h⟩ := h
    refine wv (OV.add rfl rfl o_11') ?_
    refine wA ?_
    refine WL.nil ?_
    exact kh (hK_19' (i_1' + 1) h.1 h.2) []
  ·replace h := l6 h hb
   refine u7 ?_
   refine KX.go (hK_5' [] _ ?_) trivial
   refine a7 (fun _ hK_26' => ?_)
   refine a6 ?_
   refine wA ?_
   refine WL.nil ?_
   refine kg (hK_26' [(2, zB true)] _ ?_)
   refine e7 ?_
   exact hE.ret [] rfl rfl (.inl ⟨_, h, rfl⟩) (j6.of1 rfl (RV.tmp rfl))
def l8 (s : Bs) : Bool := (!decide (s = [])) && decide (s.length ≤ 32) && s.all fun c => decide (32 ≤ c.toNat) && decide (c.toNat ≤ 126)
theorem afh {s : Bs} {i : Int} (h0 : 0 ≤ i) (h : i < s.length) (hb : ((s.getD i.toNat 0).toNat : Int) < 32 ∨ 126 < ((s.getD i.toNat 0).toNat : Int)) : l8 s = false := by
 have hm : s.getD i.toNat 0 ∈ s := by
  rw [List.getD_eq_getElem?_getD, List.getElem?_eq_getElem (by omega)]; exact List.getElem_mem _
 have : (s.all fun c => decide (32 ≤ c.toNat) && decide (c.toNat ≤ 126)) = false := by
  rw [List.all_eq_false]
  refine ⟨_, hm, ?_⟩
  simp only [Bool.and_eq_true, decide_eq_true_eq]
  omega
 unfold l8
 rw [this, Bool.and_false]
theorem afb {s : Bs} (h : ∀ n : Nat, n < s.length → ¬ (((s.getD n 0).toNat : Int) < 32 ∨ 126 < ((s.getD n 0).toNat : Int))) : l8 s = ((!decide (s = [])) && decide ((s.length : Int) ≤ 32)) := by
 have : (s.all fun c => decide (32 ≤ c.toNat) && decide (c.toNat ≤ 126)) = true := by
  rw [List.all_eq_true]
  intro c hc
  obtain ⟨n, hn, rfl⟩ := List.getElem_of_mem hc
  have := h n hn
  rw [List.getD_eq_getElem?_getD, List.getElem?_eq_getElem hn] at this
  simp only [Option.getD_some] at this
  simp only [Bool.and_eq_true, decide_eq_true_eq]
  omega
 unfold l8
 rw [this, Bool.and_true]
 congr 1
 exact decide_eq_decide.2 (by omega)
theorem abo (s : Bs) (hl : s.length ≤ 140737488355328) : i7 Tryd.prog 15 [st s] [] [] (Ret (.bool (l8 s)) []) := by
 refine i7.one (e := fun v => .bool v) (al0 s (fun v => v = l8 s) ?_)
 unfold af3
 refine ⟨fun i => 0 ≤ i ∧ i ≤ s.length ∧ ∀ n : Nat, (n : Int) < i → ¬ (((s.getD n 0).toNat : Int) < 32 ∨ 126 < ((s.getD n 0).toNat : Int)), fun i => (s.length - i).toNat, ⟨by omega, by omega, fun n hn => by omega⟩, fun i ⟨i0, i1, i2⟩ => ?_⟩
 by_cases hi : i < (s.length : Int)
 ·rw [if_pos (decide_eq_true hi)]
  refine ⟨⟨i0, hi⟩, fun _ => ⟨i0, hi⟩, ?_⟩
  by_cases hb : ((s.getD i.toNat 0).toNat : Int) < 32 ∨ 126 < ((s.getD i.toNat 0).toNat : Int)
  ·rw [if_pos (by simpa using hb)]
   exact (afh i0 hi hb).symm
  ·rw [if_neg (by simpa using hb)]
   refine ⟨by unfold I64; omega, ⟨by omega, by omega, fun n hn => ?_⟩, by dsimp only; omega⟩
   by_cases hni : (n : Int) < i
   ·exact i2 n hni
   ·obtain rfl : n = i.toNat := by omega
    exact hb
 ·rw [if_neg (by rw [decide_eq_true_eq]; exact hi)]
  exact (afb fun n hn => i2 n (by omega)).symm
theorem aeb (s : Bs) (hl : s.length ≤ 140737488355328) : i7 Tryd.prog 9 [st s] [] [] (Ret (.bool (l8 s)) []) := by
 refine i7.one (e := fun v => .bool v) (alj s (fun v => v = l8 s) ?_)
 unfold ad2
 by_cases h0 : s = [] ∨ 32 < (s.length : Int)
 ·rw [if_pos (by simpa using h0)]
  unfold l8
  rcases h0 with h0 | h0
  ·simp [h0]
  ·rw [decide_eq_false (show ¬ s.length ≤ 32 by omega)]; simp
 ·rw [if_neg (by simpa using h0)]
  refine ⟨fun i => 0 ≤ i ∧ i ≤ s.length ∧ ∀ n : Nat, (n : Int) < i → ¬ (((s.getD n 0).toNat : Int) < 32 ∨ 126 < ((s.getD n 0).toNat : Int)), fun i => (s.length - i).toNat, ⟨by omega, by omega, fun n hn => by omega⟩, fun i ⟨i0, i1, i2⟩ => ?_⟩
  by_cases hi : i < (s.length : Int)
  ·rw [if_pos (decide_eq_true hi)]
   refine ⟨⟨i0, hi⟩, fun _ => ⟨i0, hi⟩, ?_⟩
   by_cases hb : ((s.getD i.toNat 0).toNat : Int) < 32 ∨ 126 < ((s.getD i.toNat 0).toNat : Int)
   ·rw [if_pos (by simpa using hb)]
    exact (afh i0 hi hb).symm
   ·rw [if_neg (by simpa using hb)]
    refine ⟨by unfold I64; omega, ⟨by omega, by omega, fun n hn => ?_⟩, by dsimp only; omega⟩
    by_cases hni : (n : Int) < i
    ·exact i2 n hni
    ·obtain rfl : n = i.toNat := by omega
     exact hb
  ·rw [if_neg (by rw [decide_eq_true_eq]; exact hi)]
   rw [not_or] at h0
   have := afb fun n hn => i2 n (by omega)
   rw [this, decide_eq_false h0.1, decide_eq_true (show (s.length : Int) ≤ 32 by omega)]; rfl
def s9 (fm : List (Bs × Bs)) (nm : Bs) : Bool := (lk fm nm).isSome || decide (((szM fm : Nat) : Int) < 64)
abbrev aej (sb m1 m2 m3 : Nat) (rc wc : Int) (fm : List (Bs × Bs)) (rf wf : List (Int × Fl)) : List HA :=
 [.blk sb (.cells [Value.map (some m1), zI rc, Value.map (some m2), zI wc, Value.map (some m3)].toArray 61 (0, 0)), mapE Tryd.prog 9 m1 (prL klS r9 fm), mapE Tryd.prog 3 m2 (prL klI f7 rf), mapE Tryd.prog 3 m3 (prL klI f7 wf)]
def ain (rc : Int) (wc : Int) (fm : List (Bs × Bs)) (rf : List (Int × Fl)) (wf : List (Int × Fl)) (name : List UInt8) (K : Bool → Int → Int → (List (Bs × Bs)) → (List (Int × Fl)) → (List (Int × Fl)) → Prop) : Prop :=
 (name.length ≤ 140737488355328) ∧
 K (((lk fm name).isSome) || (decide (((szM fm : Nat) : Int) < 64))) rc wc fm rf wf
theorem alz (sb : Nat) (mb1 : Nat) (mb2 : Nat) (mb3 : Nat) (rc : Int) (wc : Int) (fm : List (Bs × Bs)) (rf : List (Int × Fl)) (wf : List (Int × Fl)) (name : List UInt8) (K : Bool → Int → Int → (List (Bs × Bs)) → (List (Int × Fl)) → (List (Int × Fl)) → Prop) (h : ain rc wc fm rf wf name K) :
  i7 Tryd.prog 16 [zP sb, st name] [] [HA.blk sb (.cells [Value.map (some mb1), zI rc, Value.map (some mb2), zI wc, Value.map (some mb3)].toArray 61 (0, 0)), mapE Tryd.prog 9 mb1 (prL klS r9 fm), mapE Tryd.prog 3 mb2 (prL klI f7 rf), mapE Tryd.prog 3 mb3 (prL klI f7 wf)] (fun o => (∃ (v : Bool) (d : Int) (d_1' : Int) (D : List (Bs × Bs)) (D_1' : List (Int × Fl)) (D_2' : List (Int × Fl)), K v d d_1' D D_1' D_2' ∧ o = .ret (zB v) [HA.blk sb (.cells [Value.map (some mb1), zI d, Value.map (some mb2), zI d_1', Value.map (some mb3)].toArray 61 (0, 0)), mapE Tryd.prog 9 mb1 (prL klS r9 D), mapE Tryd.prog 3 mb2 (prL klI f7 D_1'), mapE Tryd.prog 3 mb3 (prL klI f7 D_2')]) ∨ (False)) := by
 unfold ain at h
 refine d8 (n := 25) (L0 := [(0, zP sb), (1, st name)]) Tryd.func16 rfl rfl rfl rfl (fun w0 M Q hE => ?_)
 refine a7 (fun _ hK => ?_)
 refine a6 ?_
 refine wA ?_
 refine WL.nil ?_
 refine kg (hK [(0, zP sb), (1, st name)] _ ?_)
 refine a7 (fun _ hK_1' => ?_)
 refine a6 ?_
 refine wm ?_
 refine wv (OV.nilCheck rfl) ?_
 refine wv (OV.fieldAddr0 rfl p5) ?_
 refine wv (OV.load rfl (At.own 0 rfl) rfl u9) ?_
 refine wm ?_
 obtain ⟨o, h⟩ := h
 refine wv (OV.lookOk (z0 := []) 1 rfl rfl rfl v6 (abn d5 o) ahn) ?_
 refine wm ?_
 refine wv (OV.extract 0 rfl rfl) ?_
 refine wv (OV.extract 1 rfl rfl) ?_
 refine WL.make (MV.alloc ad7) rfl rfl rfl (fun b => ?_)
 refine WL.store (vs := [st ((lk fm name).getD [])]) (cs' := [st ((lk fm name).getD [])]) 0 rfl rfl rfl rfl aeh (Nat.le_of_ble_eq_true rfl) rfl rfl rfl ?_
 refine wA ?_
 refine WL.nil ?_
 refine kg (hK_1' [(0, zP sb), (6, zB ((lk fm name).isSome))] _ ?_)
 refine a7 (fun _ hK_2' => ?_)
 refine a6 ?_
 refine wm ?_
 refine wm ?_
 refine WL.cut 7 [(24, zB (((lk fm name).isSome) || (decide (((szM fm : Nat) : Int) < 64))))] ?_ (fun K0_3' hK_3' => ?_)
 rotate_left
 ·refine WL.split ((lk fm name).isSome) (fun hb => ?_) (fun hb => ?_)
  ·refine WL.set 17 rfl (congrArg zB hb) ?_
   refine wk ?_
   refine wk ?_
   refine wk ?_
   refine wk ?_
   refine wk ?_
   refine wk ?_
   refine wv (OV.pickT rfl rfl) ?_
   refine WL.set 24 rfl (oT (v := decide (((szM fm : Nat) : Int) < 64)) hb) ?_
   exact WL.end_ (kg hK_3')
  ·refine WL.set 17 rfl (congrArg zB hb) ?_
   refine wm ?_
   refine wv (OV.nilCheck rfl) ?_
   refine wv (OV.fieldAddr0 rfl p5) ?_
   refine wv (OV.load rfl (At.own 1 rfl) rfl u9) ?_
   refine wv (OV.lenMap 2 rfl rfl v6) ?_
   refine wv (OV.lss rfl rfl) ?_
   refine wv (OV.pickF rfl rfl) ?_
   refine WL.set 24 rfl (oF (v := decide (((szM fm : Nat) : Int) < 64)) hb) ?_
   exact WL.end_ (kg hK_3')
 refine wA ?_
 refine WL.nil ?_
 refine kg (hK_2' [(4, zB (((lk fm name).isSome) || (decide (((szM fm : Nat) : Int) < 64))))] _ ?_)
 refine e7 ?_
 exact hE.ret [1, 2, 3, 4] rfl rfl (.inl ⟨_, _, _, _, _, _, h, rfl⟩) (j6.of1 rfl (RV.tmp rfl))
def ahp (rc : Int) (wc : Int) (fm : List (Bs × Bs)) (rf : List (Int × Fl)) (wf : List (Int × Fl)) (K : Bool → Int → Int → Bool → Int → Int → (List (Bs × Bs)) → (List (Int × Fl)) → (List (Int × Fl)) → Prop) : Prop :=
 (I64 (rc + 1)) ∧
 (I64 (rc + 1)) ∧
 K (((lk rf (rc + 1)).getD (false, 0, 0)).1) (((lk rf (rc + 1)).getD (false, 0, 0)).2.1) (((lk rf (rc + 1)).getD (false, 0, 0)).2.2) ((lk rf (rc + 1)).isSome) (rc + 1) wc fm rf wf
theorem ak3 (sb : Nat) (mb1 : Nat) (mb2 : Nat) (mb3 : Nat) (rc : Int) (wc : Int) (fm : List (Bs × Bs)) (rf : List (Int × Fl)) (wf : List (Int × Fl)) (K : Bool → Int → Int → Bool → Int → Int → (List (Bs × Bs)) → (List (Int × Fl)) → (List (Int × Fl)) → Prop) (h : ahp rc wc fm rf wf K) :
  i7 Tryd.prog 17 [Value.pointer (some ⟨sb, 1, none⟩)] [] [HA.blk sb (.cells [Value.map (some mb1), zI rc, Value.map (some mb2), zI wc, Value.map (some mb3)].toArray 61 (0, 0)), mapE Tryd.prog 9 mb1 (prL klS r9 fm), mapE Tryd.prog 3 mb2 (prL klI f7 rf), mapE Tryd.prog 3 mb3 (prL klI f7 wf)] (fun o => (∃ (v_0 : Bool) (v_1 : Int) (v_2 : Int) (v_1' : Bool) (d : Int) (d_1' : Int) (D : List (Bs × Bs)) (D_1' : List (Int × Fl)) (D_2' : List (Int × Fl)), K v_0 v_1 v_2 v_1' d d_1' D D_1' D_2' ∧ o = .ret (Value.tuple #[Value.agg [zB v_0, zI v_1, zI v_2].toArray, zB v_1']) [HA.blk sb (.cells [Value.map (some mb1), zI d, Value.map (some mb2), zI d_1', Value.map (some mb3)].toArray 61 (0, 0)), mapE Tryd.prog 9 mb1 (prL klS r9 D), mapE Tryd.prog 3 mb2 (prL klI f7 D_1'), mapE Tryd.prog 3 mb3 (prL klI f7 D_2')]) ∨ (False)) := by
 unfold ahp at h
 refine d8 (n := 27) (L0 := [(0, Value.pointer (some ⟨sb, 1, none⟩))]) Tryd.func17 rfl rfl rfl rfl (fun w0 M Q hE => ?_)
 refine a7 (fun _ hK => ?_)
 refine a6 ?_
 refine WL.make (MV.alloc s7) rfl rfl rfl (fun b => ?_)
 refine wA ?_
 refine WL.nil ?_
 refine kg (hK [(0, Value.pointer (some ⟨sb, 1, none⟩)), (2, zP b)] _ ?_)
 refine a7 (fun _ hK_1' => ?_)
 refine a6 ?_
 refine wm ?_
 refine wv (OV.nilCheck rfl) ?_
 refine wv (OV.fieldAddr rfl r8) ?_
 refine wv (OV.load rfl (At.own 1 rfl) rfl d6) ?_
 obtain ⟨o, h⟩ := h
 refine wv (OV.add rfl rfl o) ?_
 refine wv (OV.nilCheck rfl) ?_
 refine wv (OV.fieldAddr rfl r8) ?_
 refine WL.store (vs := [zI (rc + 1)]) (cs' := [Value.map (some mb1), zI (rc + 1), Value.map (some mb2), zI wc, Value.map (some mb3)]) 1 rfl rfl rfl rfl m6 (Nat.le_of_ble_eq_true rfl) rfl rfl rfl ?_
 refine WL.nil ?_
 refine kg (hK_1' [(0, Value.pointer (some ⟨sb, 1, none⟩)), (2, zP b)] _ ?_)
 refine a7 (fun _ hK_2' => ?_)
 refine ad4 [(12, .cells [zB false, zI 0, zI 0].toArray 37 (0, 0))] [(13, 12, .cells [zB (((lk rf (rc + 1)).getD (false, 0, 0)).1), zI (((lk rf (rc + 1)).getD (false, 0, 0)).2.1), zI (((lk rf (rc + 1)).getD (false, 0, 0)).2.2)].toArray 37 (0, 0))] m5 (by kernel_rfl) rfl rfl (fun T hT => ?_)
 refine FS.val (fun _ => OV.move rfl) rfl rfl (fun _ => rfl) rfl rfl ?_
 refine FS.val (fun _ => OV.nilCheck rfl) rfl rfl (fun _ => rfl) rfl rfl ?_
 refine FS.val (fun _ => OV.fieldAddr rfl r5) rfl rfl (fun _ => rfl) rfl rfl ?_
 refine FS.val (fun _ => OV.load rfl (At.own 1 rfl) rfl aat) rfl rfl (fun _ => rfl) rfl rfl ?_
 refine FS.val (fun _ => OV.move rfl) rfl rfl (fun _ => rfl) rfl rfl ?_
 refine FS.val (fun _ => OV.nilCheck rfl) rfl rfl (fun _ => rfl) rfl rfl ?_
 refine FS.val (fun _ => OV.fieldAddr rfl r8) rfl rfl (fun _ => rfl) rfl rfl ?_
 refine FS.val (fun _ => OV.load rfl (At.own 1 rfl) rfl d6) rfl rfl (fun _ => rfl) rfl rfl ?_
 obtain ⟨o_1', h⟩ := h
 refine FS.val (fun _ => OV.lookOk (z0 := (false, 0, 0)) 3 rfl rfl rfl x8 (adg Tryd.underlying3 o_1') adp) rfl rfl (fun _ => rfl) rfl rfl ?_
 refine FS.val (fun _ => OV.move rfl) rfl rfl (fun _ => rfl) rfl rfl ?_
 refine FS.val (fun _ => OV.extract 0 rfl rfl) rfl rfl (fun _ => rfl) rfl rfl ?_
 refine FS.val (fun _ => OV.extract 1 rfl rfl) rfl rfl (fun _ => rfl) rfl rfl ?_
 refine FS.make (fun _ => MV.alloc s7) rfl rfl (fun _ => rfl) rfl rfl ?_
 refine FS.storeW (cs := [zB false, zI 0, zI 0]) (vs := [zB (((lk rf (rc + 1)).getD (false, 0, 0)).1), zI (((lk rf (rc + 1)).getD (false, 0, 0)).2.1), zI (((lk rf (rc + 1)).getD (false, 0, 0)).2.2)]) (n := 3) (fun _ => rfl) (fun _ => rfl) rfl rfl rfl rfl rfl rfl s8 rfl rfl (fun _ => rfl) ?_
 refine FS.val (fun _ => OV.assign rfl) rfl rfl (fun _ => rfl) rfl rfl ?_
 refine FS.weak (L' := fun γ => [(2, zP b), (4, Value.pointer (some ⟨(γ 12), 0, none⟩)), (5, zB ((lk rf (rc + 1)).isSome))]) (fun γ => ⟨rfl, rfl, rfl, trivial⟩) (FS.nil (hT (fun γ => [(2, zP b), (4, Value.pointer (some ⟨(γ 12), 0, none⟩)), (5, zB ((lk rf (rc + 1)).isSome))]) (fun γ => ?_)))
 show QX _ _ _ [(2, zP b), (4, Value.pointer (some ⟨(γ 12), 0, none⟩)), (5, zB ((lk rf (rc + 1)).isSome))] [HA.blk (γ 12) (.cells [zB (((lk rf (rc + 1)).getD (false, 0, 0)).1), zI (((lk rf (rc + 1)).getD (false, 0, 0)).2.1), zI (((lk rf (rc + 1)).getD (false, 0, 0)).2.2)].toArray 37 (0, 0)), HA.blk b (.cells [zB false, zI 0, zI 0].toArray 37 (0, 0)), HA.blk sb (.cells [Value.map (some mb1), zI (rc + 1), Value.map (some mb2), zI wc, Value.map (some mb3)].toArray 61 (0, 0)), mapE Tryd.prog 9 mb1 (prL klS r9 fm), mapE Tryd.prog 3 mb2 (prL klI f7 rf), mapE Tryd.prog 3 mb3 (prL klI f7 wf)]
 generalize γ 12 = b_1'
 refine kg (hK_2' [(2, zP b), (4, zP b_1'), (5, zB ((lk rf (rc + 1)).isSome))] _ ?_)
 refine a7 (fun _ hK_3' => ?_)
 refine a6 ?_
 refine wv (OV.loadR rfl (At.own 0 rfl) x6) ?_
 refine wm ?_
 refine WL.storeW (vs := [zB (((lk rf (rc + 1)).getD (false, 0, 0)).1), zI (((lk rf (rc + 1)).getD (false, 0, 0)).2.1), zI (((lk rf (rc + 1)).getD (false, 0, 0)).2.2)]) 1 rfl rfl rfl rfl rfl s8 rfl rfl rfl ?_
 refine wA ?_
 refine WL.nil ?_
 refine kg (hK_3' [(2, zP b), (3, zB ((lk rf (rc + 1)).isSome))] _ ?_)
 refine e7 ?_
 exact hE.ret [2, 3, 4, 5] rfl rfl (.inl ⟨_, _, _, _, _, _, _, _, _, h, rfl⟩) (j6.of2 rfl (RV.row rfl (At.own 1 rfl) x6) (RV.tmp rfl))
def agl (rc : Int) (wc : Int) (fm : List (Bs × Bs)) (rf : List (Int × Fl)) (wf : List (Int × Fl)) (K : Bool → Int → Int → Bool → Int → Int → (List (Bs × Bs)) → (List (Int × Fl)) → (List (Int × Fl)) → Prop) : Prop :=
 (I64 (wc + 1)) ∧
 (I64 (wc + 1)) ∧
 K (((lk wf (wc + 1)).getD (false, 0, 0)).1) (((lk wf (wc + 1)).getD (false, 0, 0)).2.1) (((lk wf (wc + 1)).getD (false, 0, 0)).2.2) ((lk wf (wc + 1)).isSome) rc (wc + 1) fm rf wf
theorem ak1 (sb : Nat) (mb1 : Nat) (mb2 : Nat) (mb3 : Nat) (rc : Int) (wc : Int) (fm : List (Bs × Bs)) (rf : List (Int × Fl)) (wf : List (Int × Fl)) (K : Bool → Int → Int → Bool → Int → Int → (List (Bs × Bs)) → (List (Int × Fl)) → (List (Int × Fl)) → Prop) (h : agl rc wc fm rf wf K) :
  i7 Tryd.prog 17 [Value.pointer (some ⟨sb, 3, none⟩)] [] [HA.blk sb (.cells [Value.map (some mb1), zI rc, Value.map (some mb2), zI wc, Value.map (some mb3)].toArray 61 (0, 0)), mapE Tryd.prog 9 mb1 (prL klS r9 fm), mapE Tryd.prog 3 mb2 (prL klI f7 rf), mapE Tryd.prog 3 mb3 (prL klI f7 wf)] (fun o => (∃ (v_0 : Bool) (v_1 : Int) (v_2 : Int) (v_1' : Bool) (d : Int) (d_1' : Int) (D : List (Bs × Bs)) (D_1' : List (Int × Fl)) (D_2' : List (Int × Fl)), K v_0 v_1 v_2 v_1' d d_1' D D_1' D_2' ∧ o = .ret (Value.tuple #[Value.agg [zB v_0, zI v_1, zI v_2].toArray, zB v_1']) [HA.blk sb (.cells [Value.map (some mb1), zI d, Value.map (some mb2), zI d_1', Value.map (some mb3)].toArray 61 (0, 0)), mapE Tryd.prog 9 mb1 (prL klS r9 D), mapE Tryd.prog 3 mb2 (prL klI f7 D_1'), mapE Tryd.prog 3 mb3 (prL klI f7 D_2')]) ∨ (False)) := by
 unfold agl at h
 refine d8 (n := 27) (L0 := [(0, Value.pointer (some ⟨sb, 3, none⟩))]) Tryd.func17 rfl rfl rfl rfl (fun w0 M Q hE => ?_)
 refine a7 (fun _ hK => ?_)
 refine a6 ?_
 refine WL.make (MV.alloc s7) rfl rfl rfl (fun b => ?_)
 refine wA ?_
 refine WL.nil ?_
 refine kg (hK [(0, Value.pointer (some ⟨sb, 3, none⟩)), (2, zP b)] _ ?_)
 refine a7 (fun _ hK_1' => ?_)
 refine a6 ?_
 refine wm ?_
 refine wv (OV.nilCheck rfl) ?_
 refine wv (OV.fieldAddr rfl r8) ?_
 refine wv (OV.load rfl (At.own 1 rfl) rfl d6) ?_
 obtain ⟨o, h⟩ := h
 refine wv (OV.add rfl rfl o) ?_
 refine wv (OV.nilCheck rfl) ?_
 refine wv (OV.fieldAddr rfl r8) ?_
 refine WL.store (vs := [zI (wc + 1)]) (cs' := [Value.map (some mb1), zI rc, Value.map (some mb2), zI (wc + 1), Value.map (some mb3)]) 1 rfl rfl rfl rfl m6 (Nat.le_of_ble_eq_true rfl) rfl rfl rfl ?_
 refine WL.nil ?_
 refine kg (hK_1' [(0, Value.pointer (some ⟨sb, 3, none⟩)), (2, zP b)] _ ?_)
 refine a7 (fun _ hK_2' => ?_)
 refine ad4 [(12, .cells [zB false, zI 0, zI 0].toArray 37 (0, 0))] [(13, 12, .cells [zB (((lk wf (wc + 1)).getD (false, 0, 0)).1), zI (((lk wf (wc + 1)).getD (false, 0, 0)).2.1), zI (((lk wf (wc + 1)).getD (false, 0, 0)).2.2)].toArray 37 (0, 0))] m5 (by kernel_rfl) rfl rfl (fun T hT => ?_)
 refine FS.val (fun _ => OV.move rfl) rfl rfl (fun _ => rfl) rfl rfl ?_
 refine FS.val (fun _ => OV.nilCheck rfl) rfl rfl (fun _ => rfl) rfl rfl ?_
 refine FS.val (fun _ => OV.fieldAddr rfl r5) rfl rfl (fun _ => rfl) rfl rfl ?_
 refine FS.val (fun _ => OV.load rfl (At.own 1 rfl) rfl aat) rfl rfl (fun _ => rfl) rfl rfl ?_
 refine FS.val (fun _ => OV.move rfl) rfl rfl (fun _ => rfl) rfl rfl ?_
 refine FS.val (fun _ => OV.nilCheck rfl) rfl rfl (fun _ => rfl) rfl rfl ?_
 refine FS.val (fun _ => OV.fieldAddr rfl r8) rfl rfl (fun _ => rfl) rfl rfl ?_
 refine FS.val (fun _ => OV.load rfl (At.own 1 rfl) rfl d6) rfl rfl (fun _ => rfl) rfl rfl ?_
 obtain ⟨o_1', h⟩ := h
 refine FS.val (fun _ => OV.lookOk (z0 := (false, 0, 0)) 4 rfl rfl rfl x8 (adg Tryd.underlying3 o_1') adp) rfl rfl (fun _ => rfl) rfl rfl ?_
 refine FS.val (fun _ => OV.move rfl) rfl rfl (fun _ => rfl) rfl rfl ?_
 refine FS.val (fun _ => OV.extract 0 rfl rfl) rfl rfl (fun _ => rfl) rfl rfl ?_
 refine FS.val (fun _ => OV.extract 1 rfl rfl) rfl rfl (fun _ => rfl) rfl rfl ?_
 refine FS.make (fun _ => MV.alloc s7) rfl rfl (fun _ => rfl) rfl rfl ?_
 refine FS.storeW (cs := [zB false, zI 0, zI 0]) (vs := [zB (((lk wf (wc + 1)).getD (false, 0, 0)).1), zI (((lk wf (wc + 1)).getD (false, 0, 0)).2.1), zI (((lk wf (wc + 1)).getD (false, 0, 0)).2.2)]) (n := 3) (fun _ => rfl) (fun _ => rfl) rfl rfl rfl rfl rfl rfl s8 rfl rfl (fun _ => rfl) ?_
 refine FS.val (fun _ => OV.assign rfl) rfl rfl (fun _ => rfl) rfl rfl ?_
 refine FS.weak (L' := fun γ => [(2, zP b), (4, Value.pointer (some ⟨(γ 12), 0, none⟩)), (5, zB ((lk wf (wc + 1)).isSome))]) (fun γ => ⟨rfl, rfl, rfl, trivial⟩) (FS.nil (hT (fun γ => [(2, zP b), (4, Value.pointer (some ⟨(γ 12), 0, none⟩)), (5, zB ((lk wf (wc + 1)).isSome))]) (fun γ => ?_)))
 show QX _ _ _ [(2, zP b), (4, Value.pointer (some ⟨(γ 12), 0, none⟩)), (5, zB ((lk wf (wc + 1)).isSome))] [HA.blk (γ 12) (.cells [zB (((lk wf (wc + 1)).getD (false, 0, 0)).1), zI (((lk wf (wc + 1)).getD (false, 0, 0)).2.1), zI (((lk wf (wc + 1)).getD (false, 0, 0)).2.2)].toArray 37 (0, 0)), HA.blk b (.cells [zB false, zI 0, zI 0].toArray 37 (0, 0)), HA.blk sb (.cells [Value.map (some mb1), zI rc, Value.map (some mb2), zI (wc + 1), Value.map (some mb3)].toArray 61 (0, 0)), mapE Tryd.prog 9 mb1 (prL klS r9 fm), mapE Tryd.prog 3 mb2 (prL klI f7 rf), mapE Tryd.prog 3 mb3 (prL klI f7 wf)]
 generalize γ 12 = b_1'
 refine kg (hK_2' [(2, zP b), (4, zP b_1'), (5, zB ((lk wf (wc + 1)).isSome))] _ ?_)
 refine a7 (fun _ hK_3' => ?_)
 refine a6 ?_
 refine wv (OV.loadR rfl (At.own 0 rfl) x6) ?_
 refine wm ?_
 refine WL.storeW (vs := [zB (((lk wf (wc + 1)).getD (false, 0, 0)).1), zI (((lk wf (wc + 1)).getD (false, 0, 0)).2.1), zI (((lk wf (wc + 1)).getD (false, 0, 0)).2.2)]) 1 rfl rfl rfl rfl rfl s8 rfl rfl rfl ?_
 refine wA ?_
 refine WL.nil ?_
 refine kg (hK_3' [(2, zP b), (3, zB ((lk wf (wc + 1)).isSome))] _ ?_)
 refine e7 ?_
 exact hE.ret [2, 3, 4, 5] rfl rfl (.inl ⟨_, _, _, _, _, _, _, _, _, h, rfl⟩) (j6.of2 rfl (RV.row rfl (At.own 1 rfl) x6) (RV.tmp rfl))
section
variable (sb m1 m2 m3 : Nat) (rc wc : Int) (fm : List (Bs × Bs)) (rf wf : List (Int × Fl))
theorem acp (nm : Bs) (h : nm.length ≤ 140737488355328) : i7 Tryd.prog 16 [.pointer (some ⟨sb, 0, none⟩), st nm] [] (aej sb m1 m2 m3 rc wc fm rf wf) (Ret (.bool (s9 fm nm)) (aej sb m1 m2 m3 rc wc fm rf wf)) := by
 refine (alz sb m1 m2 m3 rc wc fm rf wf nm (fun v a b c d e => v = s9 fm nm ∧ a = rc ∧ b = wc ∧ c = fm ∧ d = rf ∧ e = wf) ?_).weak ?_
 ·exact ⟨h, rfl, rfl, rfl, rfl, rfl, rfl⟩
 ·rintro o (⟨v, a, b, c, d, e, ⟨rfl, rfl, rfl, rfl, rfl, rfl⟩, rfl⟩ | h)
  ·rfl
  ·cases h
theorem aii (h : 0 ≤ rc ∧ rc ≤ 1000000) : i7 Tryd.prog 17 [.pointer (some ⟨sb, 1, none⟩)] [] (aej sb m1 m2 m3 rc wc fm rf wf)
  (Ret (.tuple #[f7 ((lk rf (rc + 1)).getD (false, 0, 0)), .bool (lk rf (rc + 1)).isSome]) (aej sb m1 m2 m3 (rc + 1) wc fm rf wf)) := by
 refine (ak3 sb m1 m2 m3 rc wc fm rf wf (fun f1 f2 f3 ok a b c d e => (f1, f2, f3) = (lk rf (rc + 1)).getD (false, 0, 0) ∧ ok = (lk rf (rc + 1)).isSome ∧ a = rc + 1 ∧ b = wc ∧ c = fm ∧ d = rf ∧ e = wf) ?_).weak ?_
 ·exact ⟨by unfold I64; omega, by unfold I64; omega, rfl, rfl, rfl, rfl, rfl, rfl, rfl⟩
 ·rintro o (⟨f1, f2, f3, ok, a, b, c, d, e, ⟨h1, rfl, rfl, rfl, rfl, rfl, rfl⟩, rfl⟩ | h)
  ·rw [← h1]; rfl
  ·cases h
theorem aib (h : 0 ≤ wc ∧ wc ≤ 1000000) : i7 Tryd.prog 17 [.pointer (some ⟨sb, 3, none⟩)] [] (aej sb m1 m2 m3 rc wc fm rf wf)
  (Ret (.tuple #[f7 ((lk wf (wc + 1)).getD (false, 0, 0)), .bool (lk wf (wc + 1)).isSome]) (aej sb m1 m2 m3 rc (wc + 1) fm rf wf)) := by
 refine (ak1 sb m1 m2 m3 rc wc fm rf wf (fun f1 f2 f3 ok a b c d e => (f1, f2, f3) = (lk wf (wc + 1)).getD (false, 0, 0) ∧ ok = (lk wf (wc + 1)).isSome ∧ a = rc ∧ b = wc + 1 ∧ c = fm ∧ d = rf ∧ e = wf) ?_).weak ?_
 ·exact ⟨by unfold I64; omega, by unfold I64; omega, rfl, rfl, rfl, rfl, rfl, rfl, rfl⟩
 ·rintro o (⟨f1, f2, f3, ok, a, b, c, d, e, ⟨h1, rfl, rfl, rfl, rfl, rfl, rfl⟩, rfl⟩ | h)
  ·rw [← h1]; rfl
  ·cases h
end
def j3 (fm : List (Bs × Bs)) (rf : List (Int × Fl)) (rc : Int) (nm : Bs) : Bs × Bool :=
 if l8 nm = false then ([], true) else if (lk rf (rc + 1)).isSome then ([], true) else if (lk fm nm).isSome = false then ([], true) else ((lk fm nm).getD [], false)
def b9 (fm : List (Bs × Bs)) (wf : List (Int × Fl)) (wc : Int) (nm data : Bs) : List (Bs × Bs) × Bool :=
 if l8 nm = false then (fm, true) else if s9 fm nm = false then (fm, true)
 else if (lk wf (wc + 1)).isSome then (if 0 ≤ ((lk wf (wc + 1)).getD (false, 0, 0)).2.2 then (nm, data.take (min ((lk wf (wc + 1)).getD (false, 0, 0)).2.2 (data.length : Int)).toNat) :: fm else fm, true)
 else ((nm, data) :: fm, false)
def agm (rc wc : Int) (fm : List (Bs × Bs)) : Prop := (0 ≤ rc ∧ rc ≤ 1000000) ∧ (0 ≤ wc ∧ wc ≤ 1000000) ∧ fm.length ≤ 1000000
def aga (rc : Int) (wc : Int) (fm : List (Bs × Bs)) (rf : List (Int × Fl)) (wf : List (Int × Fl)) (name : List UInt8) (ev0 : Value) (ev1 : Value) (_ : Value) (ev3 : Value) (K : (List UInt8) → Value → Int → Int → (List (Bs × Bs)) → (List (Int × Fl)) → (List (Int × Fl)) → Prop) : Prop :=
 ∃ (J0 : Prop),
  (∀ (_ : Unit), J0 →
   (0 ≤ rc ∧ rc ≤ 1000000) ∧
   (name.length ≤ 140737488355328) ∧
   (name.length ≤ 140737488355328) ∧
   (if (!(l8 name)) = true then
    (ev3.oneCell' = true) ∧
    ∀ (b_2' : Nat), K [] (Value.iface 65 (zP b_2')) (rc + 1) wc fm rf wf
   else
    (if ((lk rf (rc + 1)).isSome) = true then
     (ev1.oneCell' = true) ∧
     ∀ (b_3' : Nat), K [] (Value.iface 65 (zP b_3')) (rc + 1) wc fm rf wf
    else
     (if (!((lk fm name).isSome)) = true then
      (ev0.oneCell' = true) ∧
      ∀ (b_4' : Nat), K [] (Value.iface 65 (zP b_4')) (rc + 1) wc fm rf wf
     else
      K ((lk fm name).getD []) Value.nilIface (rc + 1) wc fm rf wf)))) ∧
  J0
theorem alv (sb : Nat) (mb1 : Nat) (mb2 : Nat) (mb3 : Nat) (te3 : TypeId) (fre3 : Nat × Nat) (te4 : TypeId) (fre4 : Nat × Nat) (te5 : TypeId) (fre5 : Nat × Nat) (te6 : TypeId) (fre6 : Nat × Nat) (rc : Int) (wc : Int) (fm : List (Bs × Bs)) (rf : List (Int × Fl)) (wf : List (Int × Fl)) (name : List UInt8) (ev0 : Value) (ev1 : Value) (ev2 : Value) (ev3 : Value) (K : (List UInt8) → Value → Int → Int → (List (Bs × Bs)) → (List (Int × Fl)) → (List (Int × Fl)) → Prop) (h : aga rc wc fm rf wf name ev0 ev1 ev2 ev3 K) :
  i7 Tryd.prog 8 [zP sb, st name] [(3, .cells [ev0].toArray te3 fre3), (2, .cells [ev1].toArray te4 fre4), (0, .cells [ev2].toArray te5 fre5), (1, .cells [ev3].toArray te6 fre6)] [HA.blk sb (.cells [Value.map (some mb1), zI rc, Value.map (some mb2), zI wc, Value.map (some mb3)].toArray 61 (0, 0)), mapE Tryd.prog 9 mb1 (prL klS r9 fm), mapE Tryd.prog 3 mb2 (prL klI f7 rf), mapE Tryd.prog 3 mb3 (prL klI f7 wf)] (fun o => (∃ (v : List UInt8) (v_1' : Value) (d : Int) (d_1' : Int) (D : List (Bs × Bs)) (D_1' : List (Int × Fl)) (D_2' : List (Int × Fl)), K v v_1' d d_1' D D_1' D_2' ∧ o = .ret (Value.tuple #[st v, v_1']) [HA.blk sb (.cells [Value.map (some mb1), zI d, Value.map (some mb2), zI d_1', Value.map (some mb3)].toArray 61 (0, 0)), mapE Tryd.prog 9 mb1 (prL klS r9 D), mapE Tryd.prog 3 mb2 (prL klI f7 D_1'), mapE Tryd.prog 3 mb3 (prL klI f7 D_2')]) ∨ (False)) := by
 unfold aga at h
 refine d8 (n := 55) (L0 := [(0, zP sb), (1, st name)]) Tryd.func8 rfl rfl rfl rfl (fun w0 M Q hE => ?_)
 refine a7 (fun _ hK => ?_)
 refine a6 ?_
 refine wA ?_
 refine wA ?_
 refine WL.nil ?_
 refine kg (hK [(0, zP sb), (1, st name)] _ ?_)
 obtain ⟨J0, hJ, h⟩ := h
 refine q7 (X := Unit) (fun _ => J0) (fun _ => [(0, zP sb), (1, st name)]) (fun _ => [HA.blk sb (.cells [Value.map (some mb1), zI rc, Value.map (some mb2), zI wc, Value.map (some mb3)].toArray 61 (0, 0)), mapE Tryd.prog 9 mb1 (prL klS r9 fm), mapE Tryd.prog 3 mb2 (prL klI f7 rf), mapE Tryd.prog 3 mb3 (prL klI f7 wf)]) ?_ (fun K0_2' hK_2' => ?_)
 ·rintro _ hj
  replace h := hJ () hj
  show WC _ _ _ _ [(0, zP sb), (1, st name)] [HA.blk sb (.cells [Value.map (some mb1), zI rc, Value.map (some mb2), zI wc, Value.map (some mb3)].toArray 61 (0, 0)), mapE Tryd.prog 9 mb1 (prL klS r9 fm), mapE Tryd.prog 3 mb2 (prL klI f7 rf), mapE Tryd.prog 3 mb3 (prL klI f7 wf)]
  refine a7 (fun _ hK_3' => ?_)
  refine a6 ?_
  refine wm ?_
  refine wv (OV.nilCheck rfl) ?_
  refine wv (OV.fieldAddr0 rfl aah) ?_
  obtain ⟨o, h⟩ := h
  refine WL.call afn rfl (aii sb mb1 mb2 mb3 rc wc fm rf wf o) rfl trivial rfl rfl ?_
  refine wm ?_
  refine wv (OV.extract 0 rfl rfl) ?_
  refine wv (OV.extract 1 rfl rfl) ?_
  refine WL.make (MV.alloc s7) rfl rfl rfl (fun b => ?_)
  refine WL.storeW (vs := [zB (((lk rf (rc + 1)).getD (false, 0, 0)).1), zI (((lk rf (rc + 1)).getD (false, 0, 0)).2.1), zI (((lk rf (rc + 1)).getD (false, 0, 0)).2.2)]) 0 rfl rfl rfl rfl rfl s8 rfl rfl rfl ?_
  refine wA ?_
  refine WL.nil ?_
  refine kg (hK_3' [(0, zP sb), (1, st name), (7, zB ((lk rf (rc + 1)).isSome))] _ ?_)
  refine a7 (fun _ hK_4' => ?_)
  refine a6 ?_
  refine wm ?_
  refine wv (OV.nilCheck rfl) ?_
  refine wv (OV.fieldAddr0 rfl p5) ?_
  refine wv (OV.load rfl (At.own 1 rfl) rfl u9) ?_
  refine wm ?_
  obtain ⟨o_1', h⟩ := h
  refine wv (OV.lookOk (z0 := []) 2 rfl rfl rfl v6 (abn d5 o_1') ahn) ?_
  refine wm ?_
  refine wv (OV.extract 0 rfl rfl) ?_
  refine wv (OV.extract 1 rfl rfl) ?_
  refine WL.make (MV.alloc ad7) rfl rfl rfl (fun b_1' => ?_)
  refine WL.store (vs := [st ((lk fm name).getD [])]) (cs' := [st ((lk fm name).getD [])]) 0 rfl rfl rfl rfl aeh (Nat.le_of_ble_eq_true rfl) rfl rfl rfl ?_
  refine wA ?_
  refine WL.nil ?_
  refine kg (hK_4' [(1, st name), (7, zB ((lk rf (rc + 1)).isSome)), (8, zP b_1'), (9, zB ((lk fm name).isSome))] _ ?_)
  refine a7 (fun _ hK_5' => ?_)
  refine d7 ?_
  refine a7 (fun _ hK_6' => ?_)
  refine a6 ?_
  refine wm ?_
  obtain ⟨o_2', h⟩ := h
  refine WL.call (A := []) abl rfl (abo name o_2') rfl trivial rfl rfl ?_
  refine wv (OV.not rfl) ?_
  refine wA ?_
  refine WL.nil ?_
  refine kg (hK_6' [(1, st name), (7, zB ((lk rf (rc + 1)).isSome)), (8, zP b_1'), (9, zB ((lk fm name).isSome)), (29, zB (!(l8 name)))] _ ?_)
  refine d4 (b := !(l8 name)) rfl (fun hb => ?_) (fun hb => ?_)
  ·replace h := k9 h hb
   refine a7 (fun _ hK_7' => ?_)
   refine adq [0, 1, 2, 5] [3, 4, 6] [0, 1, 2, 3, 4, 5] [HA.blk b_1' (.cells [st ((lk fm name).getD [])].toArray 63 (0, 0)), HA.blk b (.cells [zB (((lk rf (rc + 1)).getD (false, 0, 0)).1), zI (((lk rf (rc + 1)).getD (false, 0, 0)).2.1), zI (((lk rf (rc + 1)).getD (false, 0, 0)).2.2)].toArray 37 (0, 0)), HA.blk sb (.cells [Value.map (some mb1), zI (rc + 1), Value.map (some mb2), zI wc, Value.map (some mb3)].toArray 61 (0, 0)), mapE Tryd.prog 9 mb1 (prL klS r9 fm), mapE Tryd.prog 3 mb2 (prL klI f7 rf), mapE Tryd.prog 3 mb3 (prL klI f7 wf)] rfl rfl m5 (by kernel_rfl) (fun T hT => ?_)
   refine TW.val (OV.move rfl) rfl rfl rfl ?_
   refine TW.val (OV.load rfl (At.ro 3 rfl) rfl w4) rfl rfl rfl ?_
   obtain ⟨o_3', h⟩ := h
   refine TW.val (OV.buildC (qs := [(0, [st ([114, 101, 97, 100] : List UInt8)]), (1, [st name]), (2, [ev3])]) (cs := [st ([114, 101, 97, 100] : List UInt8), st name, ev3]) rfl ⟨rfl, rfl, ⟨rfl, rfl, ⟨rfl, w5 o_3', trivial⟩⟩⟩ rfl) rfl rfl rfl ?_
   refine TW.val (OV.assign rfl) rfl rfl rfl ?_
   refine TW.nil (hT _ ?_)
   refine WLX.make (MV.box (cs := [st ([114, 101, 97, 100] : List UInt8), st name, ev3]) rfl rfl) [1, 2, 3, 4, 5, 6] rfl (fun _ => rfl) rfl rfl rfl (fun b_2' => ?_)
   refine WLX.op [1, 2, 3, 4, 5, 6] rfl rfl (OpK.val (OV.iface rfl w3) rfl rfl) rfl ?_
   refine WLX.opZ (OpK.val (OV.assign rfl) rfl rfl) rfl ?_
   refine WLX.nil ?_
   refine kg (hK_7' [(4, st []), (5, Value.iface 65 (zP b_2'))] _ ?_)
   refine e7 ?_
   exact hE.ret [3, 4, 5, 6] rfl rfl (.inl ⟨_, _, _, _, _, _, _, (h b_2'), rfl⟩) (j6.of2 rfl (RV.tmp rfl) (RV.tmp rfl))
  ·replace h := l6 h hb
   refine a7 (fun _ hK_8' => ?_)
   refine a6 ?_
   refine wm ?_
   refine wA ?_
   refine WL.nil ?_
   refine kg (hK_8' [(1, st name), (8, zP b_1'), (9, zB ((lk fm name).isSome)), (38, zB ((lk rf (rc + 1)).isSome))] _ ?_)
   refine d4 (b := (lk rf (rc + 1)).isSome) rfl (fun hb => ?_) (fun hb => ?_)
   ·replace h := k9 h hb
    refine a7 (fun _ hK_9' => ?_)
    refine adq [0, 1, 2, 5] [3, 4, 6] [0, 1, 2, 3, 4, 5] [HA.blk b_1' (.cells [st ((lk fm name).getD [])].toArray 63 (0, 0)), HA.blk b (.cells [zB (((lk rf (rc + 1)).getD (false, 0, 0)).1), zI (((lk rf (rc + 1)).getD (false, 0, 0)).2.1), zI (((lk rf (rc + 1)).getD (false, 0, 0)).2.2)].toArray 37 (0, 0)), HA.blk sb (.cells [Value.map (some mb1), zI (rc + 1), Value.map (some mb2), zI wc, Value.map (some mb3)].toArray 61 (0, 0)), mapE Tryd.prog 9 mb1 (prL klS r9 fm), mapE Tryd.prog 3 mb2 (prL klI f7 rf), mapE Tryd.prog 3 mb3 (prL klI f7 wf)] rfl rfl m5 (by kernel_rfl) (fun T_1' hT_1' => ?_)
    refine TW.val (OV.move rfl) rfl rfl rfl ?_
    refine TW.val (OV.load rfl (At.ro 1 rfl) rfl w4) rfl rfl rfl ?_
    obtain ⟨o_4', h⟩ := h
    refine TW.val (OV.buildC (qs := [(0, [st ([114, 101, 97, 100] : List UInt8)]), (1, [st name]), (2, [ev1])]) (cs := [st ([114, 101, 97, 100] : List UInt8), st name, ev1]) rfl ⟨rfl, rfl, ⟨rfl, rfl, ⟨rfl, w5 o_4', trivial⟩⟩⟩ rfl) rfl rfl rfl ?_
    refine TW.val (OV.assign rfl) rfl rfl rfl ?_
    refine TW.nil (hT_1' _ ?_)
    refine WLX.make (MV.box (cs := [st ([114, 101, 97, 100] : List UInt8), st name, ev1]) rfl rfl) [1, 2, 3, 4, 5, 6] rfl (fun _ => rfl) rfl rfl rfl (fun b_3' => ?_)
    refine WLX.op [1, 2, 3, 4, 5, 6] rfl rfl (OpK.val (OV.iface rfl w3) rfl rfl) rfl ?_
    refine WLX.opZ (OpK.val (OV.assign rfl) rfl rfl) rfl ?_
    refine WLX.nil ?_
    refine kg (hK_9' [(4, st []), (5, Value.iface 65 (zP b_3'))] _ ?_)
    refine e7 ?_
    exact hE.ret [3, 4, 5, 6] rfl rfl (.inl ⟨_, _, _, _, _, _, _, (h b_3'), rfl⟩) (j6.of2 rfl (RV.tmp rfl) (RV.tmp rfl))
   ·replace h := l6 h hb
    refine a7 (fun _ hK_10' => ?_)
    refine a6 ?_
    refine wm ?_
    refine wv (OV.not rfl) ?_
    refine wA ?_
    refine WL.nil ?_
    refine kg (hK_10' [(1, st name), (8, zP b_1'), (45, zB (!((lk fm name).isSome)))] _ ?_)
    refine d4 (b := !((lk fm name).isSome)) rfl (fun hb => ?_) (fun hb => ?_)
    ·replace h := k9 h hb
     refine a7 (fun _ hK_11' => ?_)
     refine adq [0, 1, 2, 5] [3, 4, 6] [0, 1, 2, 3, 4, 5] [HA.blk b_1' (.cells [st ((lk fm name).getD [])].toArray 63 (0, 0)), HA.blk b (.cells [zB (((lk rf (rc + 1)).getD (false, 0, 0)).1), zI (((lk rf (rc + 1)).getD (false, 0, 0)).2.1), zI (((lk rf (rc + 1)).getD (false, 0, 0)).2.2)].toArray 37 (0, 0)), HA.blk sb (.cells [Value.map (some mb1), zI (rc + 1), Value.map (some mb2), zI wc, Value.map (some mb3)].toArray 61 (0, 0)), mapE Tryd.prog 9 mb1 (prL klS r9 fm), mapE Tryd.prog 3 mb2 (prL klI f7 rf), mapE Tryd.prog 3 mb3 (prL klI f7 wf)] rfl rfl m5 (by kernel_rfl) (fun T_2' hT_2' => ?_)
     refine TW.val (OV.move rfl) rfl rfl rfl ?_
     refine TW.val (OV.load rfl (At.ro 0 rfl) rfl w4) rfl rfl rfl ?_
     obtain ⟨o_5', h⟩ := h
     refine TW.val (OV.buildC (qs := [(0, [st ([114, 101, 97, 100] : List UInt8)]), (1, [st name]), (2, [ev0])]) (cs := [st ([114, 101, 97, 100] : List UInt8), st name, ev0]) rfl ⟨rfl, rfl, ⟨rfl, rfl, ⟨rfl, w5 o_5', trivial⟩⟩⟩ rfl) rfl rfl rfl ?_
     refine TW.val (OV.assign rfl) rfl rfl rfl ?_
     refine TW.nil (hT_2' _ ?_)
     refine WLX.make (MV.box (cs := [st ([114, 101, 97, 100] : List UInt8), st name, ev0]) rfl rfl) [1, 2, 3, 4, 5, 6] rfl (fun _ => rfl) rfl rfl rfl (fun b_4' => ?_)
     refine WLX.op [1, 2, 3, 4, 5, 6] rfl rfl (OpK.val (OV.iface rfl w3) rfl rfl) rfl ?_
     refine WLX.opZ (OpK.val (OV.assign rfl) rfl rfl) rfl ?_
     refine WLX.nil ?_
     refine kg (hK_11' [(4, st []), (5, Value.iface 65 (zP b_4'))] _ ?_)
     refine e7 ?_
     exact hE.ret [3, 4, 5, 6] rfl rfl (.inl ⟨_, _, _, _, _, _, _, (h b_4'), rfl⟩) (j6.of2 rfl (RV.tmp rfl) (RV.tmp rfl))
    ·replace h := l6 h hb
     refine b8 ?_
     refine kg (hK_5' [(8, zP b_1')] _ ?_)
     refine a7 (fun _ hK_12' => ?_)
     refine a6 ?_
     refine wv (OV.fieldAddr0 rfl aes) ?_
     refine wv (OV.load rfl (At.own 0 rfl) rfl d3) ?_
     refine wA ?_
     refine wA ?_
     refine WL.nil ?_
     refine kg (hK_12' [(4, st ((lk fm name).getD [])), (5, Value.nilIface)] _ ?_)
     refine e7 ?_
     exact hE.ret [2, 3, 4, 5] rfl rfl (.inl ⟨_, _, _, _, _, _, _, h, rfl⟩) (j6.of2 rfl (RV.tmp rfl) (RV.tmp rfl))
 ·skip
  refine a7 (fun _ hK_13' => ?_)
  refine a6 ?_
  refine wm ?_
  refine wv (OV.eqlPN rfl rfl Tryd.underlying31) ?_
  refine WL.nil ?_
  refine kg (hK_13' [(0, zP sb), (1, st name), (11, zB false)] _ ?_)
  refine j1 rfl ?_
  refine b8 ?_
  exact kh (hK_2' () h) [0, 1, 2, 3]
def aeq (rc : Int) (wc : Int) (fm : List (Bs × Bs)) (rf : List (Int × Fl)) (wf : List (Int × Fl)) (name : List UInt8) (data : List UInt8) (_ : Value) (ev1 : Value) (ev2 : Value) (ev3 : Value) (K : Value → Int → Int → (List (Bs × Bs)) → (List (Int × Fl)) → (List (Int × Fl)) → Prop) : Prop :=
 (0 ≤ wc ∧ wc ≤ 1000000) ∧
 (name.length ≤ 140737488355328) ∧
 (if (!(l8 name)) = true then
  (ev3.oneCell' = true) ∧
  ∀ (b_1' : Nat), K (Value.iface 65 (zP b_1')) rc (wc + 1) fm rf wf
 else
  (name.length ≤ 140737488355328) ∧
  (if (!(s9 fm name)) = true then
   (ev2.oneCell' = true) ∧
   ∀ (b_2' : Nat), K (Value.iface 65 (zP b_2')) rc (wc + 1) fm rf wf
  else
   (if ((lk wf (wc + 1)).isSome) = true then
    ∃ (J0 : (List (Bs × Bs)) → Prop),
     (∀ (m : List (Bs × Bs)), J0 m →
      (ev1.oneCell' = true) ∧
      ∀ (b_3' : Nat), K (Value.iface 65 (zP b_3')) rc (wc + 1) m rf wf) ∧
     (if (decide (0 ≤ ((lk wf (wc + 1)).getD (false, 0, 0)).2.2)) = true then
      (0 ≤ (min (((lk wf (wc + 1)).getD (false, 0, 0)).2.2) (data.length : Int)) ∧ (min (((lk wf (wc + 1)).getD (false, 0, 0)).2.2) (data.length : Int)) ≤ data.length) ∧
      (name.length ≤ 140737488355328) ∧
      (fm.length < 140737488355328) ∧
      J0 ((name, data.take (min (((lk wf (wc + 1)).getD (false, 0, 0)).2.2) (data.length : Int)).toNat) :: fm)
     else
      J0 fm)
   else
    (name.length ≤ 140737488355328) ∧
    (fm.length < 140737488355328) ∧
    K Value.nilIface rc (wc + 1) ((name, data) :: fm) rf wf)))
theorem akl (sb : Nat) (mb1 : Nat) (mb2 : Nat) (mb3 : Nat) (te3 : TypeId) (fre3 : Nat × Nat) (te4 : TypeId) (fre4 : Nat × Nat) (te5 : TypeId) (fre5 : Nat × Nat) (te6 : TypeId) (fre6 : Nat × Nat) (rc : Int) (wc : Int) (fm : List (Bs × Bs)) (rf : List (Int × Fl)) (wf : List (Int × Fl)) (name : List UInt8) (data : List UInt8) (ev0 : Value) (ev1 : Value) (ev2 : Value) (ev3 : Value) (K : Value → Int → Int → (List (Bs × Bs)) → (List (Int × Fl)) → (List (Int × Fl)) → Prop) (h : aeq rc wc fm rf wf name data ev0 ev1 ev2 ev3 K) :
  i7 Tryd.prog 7 [zP sb, st name, st data] [(3, .cells [ev0].toArray te3 fre3), (2, .cells [ev1].toArray te4 fre4), (0, .cells [ev2].toArray te5 fre5), (1, .cells [ev3].toArray te6 fre6)] [HA.blk sb (.cells [Value.map (some mb1), zI rc, Value.map (some mb2), zI wc, Value.map (some mb3)].toArray 61 (0, 0)), mapE Tryd.prog 9 mb1 (prL klS r9 fm), mapE Tryd.prog 3 mb2 (prL klI f7 rf), mapE Tryd.prog 3 mb3 (prL klI f7 wf)] (fun o => (∃ (v : Value) (d : Int) (d_1' : Int) (D : List (Bs × Bs)) (D_1' : List (Int × Fl)) (D_2' : List (Int × Fl)), K v d d_1' D D_1' D_2' ∧ o = .ret (v) [HA.blk sb (.cells [Value.map (some mb1), zI d, Value.map (some mb2), zI d_1', Value.map (some mb3)].toArray 61 (0, 0)), mapE Tryd.prog 9 mb1 (prL klS r9 D), mapE Tryd.prog 3 mb2 (prL klI f7 D_1'), mapE Tryd.prog 3 mb3 (prL klI f7 D_2')]) ∨ (False)) := by
 unfold aeq at h
 refine d8 (n := 79) (L0 := [(0, zP sb), (1, st name), (2, st data)]) Tryd.func7 rfl rfl rfl rfl (fun w0 M Q hE => ?_)
 refine a7 (fun _ hK => ?_)
 refine a6 ?_
 refine wA ?_
 refine WL.nil ?_
 refine kg (hK [(0, zP sb), (1, st name), (2, st data)] _ ?_)
 refine a7 (fun _ hK_1' => ?_)
 refine a7 (fun _ hK_2' => ?_)
 refine a6 ?_
 refine wm ?_
 refine wv (OV.eqlPN rfl rfl Tryd.underlying31) ?_
 refine WL.nil ?_
 refine kg (hK_2' [(0, zP sb), (1, st name), (2, st data), (10, zB false)] _ ?_)
 refine j1 rfl ?_
 refine b8 ?_
 refine kg (hK_1' [(0, zP sb), (1, st name), (2, st data)] _ ?_)
 refine a7 (fun _ hK_3' => ?_)
 refine a6 ?_
 refine wm ?_
 refine wv (OV.nilCheck rfl) ?_
 refine wv (OV.fieldAddr0 rfl aab) ?_
 obtain ⟨o, h⟩ := h
 refine WL.call afn rfl (aib sb mb1 mb2 mb3 rc wc fm rf wf o) rfl trivial rfl rfl ?_
 refine wm ?_
 refine wv (OV.extract 0 rfl rfl) ?_
 refine wv (OV.extract 1 rfl rfl) ?_
 refine WL.make (MV.alloc s7) rfl rfl rfl (fun b => ?_)
 refine WL.storeW (vs := [zB (((lk wf (wc + 1)).getD (false, 0, 0)).1), zI (((lk wf (wc + 1)).getD (false, 0, 0)).2.1), zI (((lk wf (wc + 1)).getD (false, 0, 0)).2.2)]) 0 rfl rfl rfl rfl rfl s8 rfl rfl rfl ?_
 refine wA ?_
 refine WL.nil ?_
 refine kg (hK_3' [(0, zP sb), (1, st name), (2, st data), (7, zP b), (8, zB ((lk wf (wc + 1)).isSome))] _ ?_)
 refine a7 (fun _ hK_4' => ?_)
 refine d7 ?_
 refine a7 (fun _ hK_5' => ?_)
 refine a6 ?_
 refine wm ?_
 obtain ⟨o_1', h⟩ := h
 refine WL.call (A := []) abl rfl (abo name o_1') rfl trivial rfl rfl ?_
 refine wv (OV.not rfl) ?_
 refine wA ?_
 refine WL.nil ?_
 refine kg (hK_5' [(0, zP sb), (1, st name), (2, st data), (7, zP b), (8, zB ((lk wf (wc + 1)).isSome)), (30, zB (!(l8 name)))] _ ?_)
 refine d4 (b := !(l8 name)) rfl (fun hb => ?_) (fun hb => ?_)
 ·replace h := k9 h hb
  refine a7 (fun _ hK_6' => ?_)
  refine a6 ?_
  refine wm ?_
  refine wv (OV.load rfl (At.ro 3 rfl) rfl w4) ?_
  obtain ⟨o_2', h⟩ := h
  refine wv (OV.buildC (qs := [(0, [st ([119, 114, 105, 116, 101] : List UInt8)]), (1, [st name]), (2, [ev3])]) (cs := [st ([119, 114, 105, 116, 101] : List UInt8), st name, ev3]) rfl ⟨rfl, rfl, ⟨rfl, rfl, ⟨rfl, w5 o_2', trivial⟩⟩⟩ rfl) ?_
  refine WL.make (MV.box (cs := [st ([119, 114, 105, 116, 101] : List UInt8), st name, ev3]) rfl rfl) rfl rfl rfl (fun b_1' => ?_)
  refine wv (OV.iface rfl w3) ?_
  refine wA ?_
  refine WL.nil ?_
  refine kg (hK_6' [(6, Value.iface 65 (zP b_1'))] _ ?_)
  refine e7 ?_
  exact hE.ret [2, 3, 4, 5] rfl rfl (.inl ⟨_, _, _, _, _, _, (h b_1'), rfl⟩) (j6.of1 rfl (RV.tmp rfl))
 ·replace h := l6 h hb
  refine a7 (fun _ hK_7' => ?_)
  refine a6 ?_
  refine wm ?_
  refine wm ?_
  obtain ⟨o_3', h⟩ := h
  refine WL.pick (H' := [HA.blk sb (.cells [Value.map (some mb1), zI rc, Value.map (some mb2), zI (wc + 1), Value.map (some mb3)].toArray 61 (0, 0)), mapE Tryd.prog 9 mb1 (prL klS r9 fm), mapE Tryd.prog 3 mb2 (prL klI f7 rf), mapE Tryd.prog 3 mb3 (prL klI f7 wf), HA.blk b (.cells [zB (((lk wf (wc + 1)).getD (false, 0, 0)).1), zI (((lk wf (wc + 1)).getD (false, 0, 0)).2.1), zI (((lk wf (wc + 1)).getD (false, 0, 0)).2.2)].toArray 37 (0, 0))]) [1, 2, 3, 4, 0] rfl rfl ?_
  refine WL.call acs rfl (acp sb mb1 mb2 mb3 rc (wc + 1) fm rf wf name o_3') rfl trivial rfl rfl ?_
  refine wv (OV.not rfl) ?_
  refine wA ?_
  refine WL.nil ?_
  refine kg (hK_7' [(0, zP sb), (1, st name), (2, st data), (7, zP b), (8, zB ((lk wf (wc + 1)).isSome)), (39, zB (!(s9 fm name)))] _ ?_)
  refine d4 (b := !(s9 fm name)) rfl (fun hb => ?_) (fun hb => ?_)
  ·replace h := k9 h hb
   refine a7 (fun _ hK_8' => ?_)
   refine a6 ?_
   refine wm ?_
   refine wv (OV.load rfl (At.ro 2 rfl) rfl w4) ?_
   obtain ⟨o_4', h⟩ := h
   refine wv (OV.buildC (qs := [(0, [st ([119, 114, 105, 116, 101] : List UInt8)]), (1, [st name]), (2, [ev2])]) (cs := [st ([119, 114, 105, 116, 101] : List UInt8), st name, ev2]) rfl ⟨rfl, rfl, ⟨rfl, rfl, ⟨rfl, w5 o_4', trivial⟩⟩⟩ rfl) ?_
   refine WL.make (MV.box (cs := [st ([119, 114, 105, 116, 101] : List UInt8), st name, ev2]) rfl rfl) rfl rfl rfl (fun b_2' => ?_)
   refine wv (OV.iface rfl w3) ?_
   refine wA ?_
   refine WL.nil ?_
   refine kg (hK_8' [(6, Value.iface 65 (zP b_2'))] _ ?_)
   refine e7 ?_
   exact hE.ret [1, 2, 3, 4] rfl rfl (.inl ⟨_, _, _, _, _, _, (h b_2'), rfl⟩) (j6.of1 rfl (RV.tmp rfl))
  ·replace h := l6 h hb
   refine a7 (fun _ hK_9' => ?_)
   refine a6 ?_
   refine wm ?_
   refine wA ?_
   refine WL.nil ?_
   refine kg (hK_9' [(0, zP sb), (1, st name), (2, st data), (7, zP b), (49, zB ((lk wf (wc + 1)).isSome))] _ ?_)
   refine d4 (b := (lk wf (wc + 1)).isSome) rfl (fun hb => ?_) (fun hb => ?_)
   ·replace h := k9 h hb
    obtain ⟨J0, hJ, h⟩ := h
    refine q7 (X := (List (Bs × Bs))) (fun σ => J0 σ) (fun σ => [(1, st name)]) (fun σ => [HA.blk sb (.cells [Value.map (some mb1), zI rc, Value.map (some mb2), zI (wc + 1), Value.map (some mb3)].toArray 61 (0, 0)), mapE Tryd.prog 9 mb1 (prL klS r9 σ), mapE Tryd.prog 3 mb2 (prL klI f7 rf), mapE Tryd.prog 3 mb3 (prL klI f7 wf)]) ?_ (fun K0_11' hK_11' => ?_)
    ·rintro m hj
     replace h := hJ m hj
     show WC _ _ _ _ [(1, st name)] [HA.blk sb (.cells [Value.map (some mb1), zI rc, Value.map (some mb2), zI (wc + 1), Value.map (some mb3)].toArray 61 (0, 0)), mapE Tryd.prog 9 mb1 (prL klS r9 m), mapE Tryd.prog 3 mb2 (prL klI f7 rf), mapE Tryd.prog 3 mb3 (prL klI f7 wf)]
     refine a7 (fun _ hK_12' => ?_)
     refine a6 ?_
     refine wm ?_
     refine wv (OV.load rfl (At.ro 1 rfl) rfl w4) ?_
     obtain ⟨o_8', h⟩ := h
     refine wv (OV.buildC (qs := [(0, [st ([119, 114, 105, 116, 101] : List UInt8)]), (1, [st name]), (2, [ev1])]) (cs := [st ([119, 114, 105, 116, 101] : List UInt8), st name, ev1]) rfl ⟨rfl, rfl, ⟨rfl, rfl, ⟨rfl, w5 o_8', trivial⟩⟩⟩ rfl) ?_
     refine WL.make (MV.box (cs := [st ([119, 114, 105, 116, 101] : List UInt8), st name, ev1]) rfl rfl) rfl rfl rfl (fun b_3' => ?_)
     refine wv (OV.iface rfl w3) ?_
     refine wA ?_
     refine WL.nil ?_
     refine kg (hK_12' [(6, Value.iface 65 (zP b_3'))] _ ?_)
     refine e7 ?_
     exact hE.ret [1, 2, 3, 4] rfl rfl (.inl ⟨_, _, _, _, _, _, (h b_3'), rfl⟩) (j6.of1 rfl (RV.tmp rfl))
    ·skip
     refine a7 (fun _ hK_13' => ?_)
     refine a6 ?_
     refine wv (OV.fieldAddr0 rfl abt) ?_
     refine wv (OV.load rfl (At.own 4 rfl) rfl d6) ?_
     refine wv (OV.geq rfl rfl) ?_
     refine WL.nil ?_
     refine kg (hK_13' [(0, zP sb), (1, st name), (2, st data), (7, zP b), (53, zB (decide (0 ≤ ((lk wf (wc + 1)).getD (false, 0, 0)).2.2)))] _ ?_)
     refine d4 (b := decide (0 ≤ ((lk wf (wc + 1)).getD (false, 0, 0)).2.2)) rfl (fun hb => ?_) (fun hb => ?_)
     ·replace h := k9 h hb
      refine t8 13 [] m5 (by kernel_rfl) rfl (fun T_1' hT_1' => ?_)
      refine fv (fun _ => OV.move rfl) ?_
      refine fv (fun _ => OV.nilCheck rfl) ?_
      refine fv (fun _ => OV.fieldAddr0 rfl p5) ?_
      refine fv (fun _ => OV.load rfl (At.own 0 rfl) rfl u9) ?_
      refine fv (fun _ => OV.move rfl) ?_
      refine fv (fun _ => OV.move rfl) ?_
      refine fv (fun _ => OV.fieldAddr0 rfl abt) ?_
      refine fv (fun _ => OV.load rfl (At.own 4 rfl) rfl d6) ?_
      refine fv (fun _ => OV.move rfl) ?_
      refine fv (fun _ => OV.len rfl d5) ?_
      refine fv (fun _ => OV.minI rfl rfl) ?_
      obtain ⟨o_9', h⟩ := h
      refine fv (fun _ => OV.sliceH rfl rfl d5 o_9') ?_
      refine fv (fun _ => OV.build rfl (cs := [st (data.take (min (((lk wf (wc + 1)).getD (false, 0, 0)).2.2) (data.length : Int)).toNat)]) rfl) ?_
      refine FL.weak (L' := fun γ => [(1, st name), (57, Value.map (some mb1)), (58, st name), (66, Value.agg [st (data.take (min (((lk wf (wc + 1)).getD (false, 0, 0)).2.2) (data.length : Int)).toNat)].toArray)]) (fun γ => ⟨rfl, rfl, rfl, rfl, trivial⟩) (FL.nil (hT_1' (fun γ => [(1, st name), (57, Value.map (some mb1)), (58, st name), (66, Value.agg [st (data.take (min (((lk wf (wc + 1)).getD (false, 0, 0)).2.2) (data.length : Int)).toNat)].toArray)]) (fun γ => ?_)))
      obtain ⟨o_10', h⟩ := h
      obtain ⟨o_11', h⟩ := h
      refine WL.mapPut (u := data.take (min (((lk wf (wc + 1)).getD (false, 0, 0)).2.2) (data.length : Int)).toNat) 1 rfl rfl rfl rfl v6 (abn d5 o_10') o_11' rfl ?_
      refine WL.nil ?_
      exact kh (hK_11' ((name, data.take (min (((lk wf (wc + 1)).getD (false, 0, 0)).2.2) (data.length : Int)).toNat) :: fm) h) [0, 1, 2, 3]
     ·replace h := l6 h hb
      refine b8 ?_
      exact kh (hK_11' fm h) [0, 1, 2, 3]
   ·replace h := l6 h hb
    refine b8 ?_
    refine kg (hK_4' [(0, zP sb), (1, st name), (2, st data)] _ ?_)
    refine a7 (fun _ hK_14' => ?_)
    refine a6 ?_
    refine wm ?_
    refine wv (OV.nilCheck rfl) ?_
    refine wv (OV.fieldAddr0 rfl p5) ?_
    refine wv (OV.load rfl (At.own 0 rfl) rfl u9) ?_
    refine wm ?_
    refine wm ?_
    refine wv (OV.build rfl (cs := [st data]) rfl) ?_
    obtain ⟨o_12', h⟩ := h
    obtain ⟨o_13', h⟩ := h
    refine WL.mapPut (u := data) 1 rfl rfl rfl rfl v6 (abn d5 o_12') o_13' rfl ?_
    refine WL.nil ?_
    refine KX.go (hK_14' [] _ ?_) trivial
    refine a7 (fun _ hK_15' => ?_)
    refine a6 ?_
    refine wA ?_
    refine WL.nil ?_
    refine kg (hK_15' [(6, Value.nilIface)] _ ?_)
    refine e7 ?_
    exact hE.ret [0, 1, 2, 3] rfl rfl (.inl ⟨_, _, _, _, _, _, h, rfl⟩) (j6.of1 rfl (RV.tmp rfl))
abbrev af6 (te3 : TypeId) (fre3 : Nat × Nat) (e0 : Value) (te4 : TypeId) (fre4 : Nat × Nat) (e1 : Value) (te5 : TypeId) (fre5 : Nat × Nat) (e2 : Value) (te6 : TypeId) (fre6 : Nat × Nat) (e3 : Value) : List (Nat × Obj) :=
 [(3, .cells [e0].toArray te3 fre3), (2, .cells [e1].toArray te4 fre4), (0, .cells [e2].toArray te5 fre5), (1, .cells [e3].toArray te6 fre6)]
abbrev n4 (a : Addr) : Value := .iface 138 (.pointer (some a))
section
variable (te3 : TypeId) (fre3 : Nat × Nat) (q0 : Addr) (te4 : TypeId) (fre4 : Nat × Nat) (q1 : Addr) (te5 : TypeId) (fre5 : Nat × Nat) (q2 : Addr) (te6 : TypeId) (fre6 : Nat × Nat) (q3 : Addr) (sb m1 m2 m3 : Nat) (rc wc : Int) (fm : List (Bs × Bs)) (rf wf : List (Int × Fl))
theorem act (nm : Bs) (h : agm rc wc fm ∧ nm.length ≤ 140737488355328) : i7 Tryd.prog 8 [.pointer (some ⟨sb, 0, none⟩), st nm] (af6 te3 fre3 (n4 q0) te4 fre4 (n4 q1) te5 fre5 (n4 q2) te6 fre6 (n4 q3)) (aej sb m1 m2 m3 rc wc fm rf wf)
  (fun o => ∃ x : Option Value, x.isSome = (j3 fm rf rc nm).2 ∧ o = .ret (.tuple #[st (j3 fm rf rc nm).1, ab9 x]) (aej sb m1 m2 m3 (rc + 1) wc fm rf wf)) := by
 refine (alv sb m1 m2 m3 te3 fre3 te4 fre4 te5 fre5 te6 fre6 rc wc fm rf wf nm (n4 q0) (n4 q1) (n4 q2) (n4 q3) (fun v er a b c d e => (∃ x : Option Value, x.isSome = (j3 fm rf rc nm).2 ∧ er = ab9 x) ∧ v = (j3 fm rf rc nm).1 ∧ a = rc + 1 ∧ b = wc ∧ c = fm ∧ d = rf ∧ e = wf) ?_).weak ?_
 ·obtain ⟨⟨h1, h2, h3⟩, hn⟩ := h
  unfold aga j3
  refine ⟨True, fun _ _ => ⟨h1, hn, hn, ?_⟩, trivial⟩
  cases hg : l8 nm with
  | false => exact ⟨rfl, fun b => ⟨⟨some _, rfl, rfl⟩, rfl, rfl, rfl, rfl, rfl, rfl⟩⟩
  | true =>
   rw [if_neg (show ¬ (!true) = true by decide), if_neg (show ¬ true = false by decide)]
   by_cases hf : (lk rf (rc + 1)).isSome = true
   ·rw [if_pos hf, if_pos hf]
    exact ⟨rfl, fun b => ⟨⟨some _, rfl, rfl⟩, rfl, rfl, rfl, rfl, rfl, rfl⟩⟩
   ·rw [if_neg hf, if_neg hf]
    cases hl : (lk fm nm).isSome with
    | false => exact ⟨rfl, fun b => ⟨⟨some _, rfl, rfl⟩, rfl, rfl, rfl, rfl, rfl, rfl⟩⟩
    | true => exact ⟨⟨none, rfl, rfl⟩, rfl, rfl, rfl, rfl, rfl, rfl⟩
 ·rintro o (⟨v, er, a, b, c, d, e, ⟨⟨x, hx, rfl⟩, rfl, rfl, rfl, rfl, rfl, rfl⟩, rfl⟩ | h)
  ·exact ⟨x, hx, rfl⟩
  ·cases h
theorem aem (nm data : Bs) (h : agm rc wc fm ∧ nm.length ≤ 140737488355328 ∧ data.length ≤ 140737488355328) : i7 Tryd.prog 7 [.pointer (some ⟨sb, 0, none⟩), st nm, st data] (af6 te3 fre3 (n4 q0) te4 fre4 (n4 q1) te5 fre5 (n4 q2) te6 fre6 (n4 q3)) (aej sb m1 m2 m3 rc wc fm rf wf)
  (fun o => ∃ x : Option Value, x.isSome = (b9 fm wf wc nm data).2 ∧ o = .ret (ab9 x) (aej sb m1 m2 m3 rc (wc + 1) (b9 fm wf wc nm data).1 rf wf)) := by
 refine (akl sb m1 m2 m3 te3 fre3 te4 fre4 te5 fre5 te6 fre6 rc wc fm rf wf nm data (n4 q0) (n4 q1) (n4 q2) (n4 q3) (fun er a b c d e => (∃ x : Option Value, x.isSome = (b9 fm wf wc nm data).2 ∧ er = ab9 x) ∧ a = rc ∧ b = wc + 1 ∧ c = (b9 fm wf wc nm data).1 ∧ d = rf ∧ e = wf) ?_).weak ?_
 ·obtain ⟨⟨h1, h2, h3⟩, hn, hd⟩ := h
  unfold aeq b9
  refine ⟨h2, hn, ?_⟩
  cases hg : l8 nm with
  | false => exact ⟨rfl, fun b => ⟨⟨some _, rfl, rfl⟩, rfl, rfl, rfl, rfl, rfl⟩⟩
  | true =>
   rw [if_neg (show ¬ (!true) = true by decide), if_neg (show ¬ true = false by decide)]
   refine ⟨hn, ?_⟩
   cases hr : s9 fm nm with
   | false => exact ⟨rfl, fun b => ⟨⟨some _, rfl, rfl⟩, rfl, rfl, rfl, rfl, rfl⟩⟩
   | true =>
    rw [if_neg (show ¬ (!true) = true by decide), if_neg (show ¬ true = false by decide)]
    by_cases hf : (lk wf (wc + 1)).isSome = true
    ·rw [if_pos hf, if_pos hf]
     refine ⟨fun m => m = if 0 ≤ ((lk wf (wc + 1)).getD (false, 0, 0)).2.2 then (nm, data.take (min ((lk wf (wc + 1)).getD (false, 0, 0)).2.2 (data.length : Int)).toNat) :: fm else fm, fun m hm => ⟨rfl, fun b => ⟨⟨some _, rfl, rfl⟩, rfl, rfl, hm, rfl, rfl⟩⟩, ?_⟩
     by_cases hk : 0 ≤ ((lk wf (wc + 1)).getD (false, 0, 0)).2.2
     ·rw [if_pos (decide_eq_true hk)]
      exact ⟨⟨by omega, by omega⟩, hn, by omega, by rw [if_pos hk]⟩
     ·rw [if_neg (by rw [decide_eq_true_eq]; exact hk)]
      rw [if_neg hk]
    ·rw [if_neg hf, if_neg hf]
     exact ⟨hn, by omega, ⟨none, rfl, rfl⟩, rfl, rfl, rfl, rfl, rfl⟩
 ·rintro o (⟨er, a, b, c, d, e, ⟨⟨x, hx, rfl⟩, rfl, rfl, rfl, rfl, rfl⟩, rfl⟩ | h)
  ·exact ⟨x, hx, rfl⟩
  ·cases h
end
def fm0 : List (Bs × Bs) := [([111, 116, 104, 101, 114], [115, 116, 97, 121, 115]), ([108], [111, 108, 100])]
def wf0 (keep : Int) : List (Int × Fl) := [(2, (true, 2, keep))]
def ah8 (keep : Int) (K : Int → Int → (List (Bs × Bs)) → (List (Int × Fl)) → (List (Int × Fl)) → Prop) : Prop :=
 ∃ (J0 : (List (Bs × Bs)) → Prop),
  (∀ (l : List (Bs × Bs)), J0 l →
   ∃ (J0_1' : (List (Bs × Bs)) → Prop),
    (∀ (l_1' : List (Bs × Bs)), J0_1' l_1' →
     ∃ (J0_3' : (List (Int × Fl)) → Prop),
      (∀ (l_2' : List (Int × Fl)), J0_3' l_2' →
       K 0 0 l_1' ([] : List (Int × Fl)) l_2') ∧
      ∃ (J0_4' : Prop),
       (∀ (_ : Unit), J0_4' →
        (I64 (2 : Int)) ∧
        (if (!((lk ([] : List (Int × Fl)) (2 : Int)).isSome)) = true then
         (I64 (2 : Int)) ∧
         (([] : List (Int × Fl)).length < 140737488355328) ∧
         J0_3' ((2, (true, 2, keep)) :: ([] : List (Int × Fl)))
        else
         J0_3' [])) ∧
       J0_4') ∧
    (([111, 116, 104, 101, 114] : List UInt8).length ≤ 140737488355328) ∧
    ((l8 ([111, 116, 104, 101, 114] : List UInt8)) = true → (([111, 116, 104, 101, 114] : List UInt8).length ≤ 140737488355328)) ∧
    (if ((l8 ([111, 116, 104, 101, 114] : List UInt8)) && (s9 l ([111, 116, 104, 101, 114] : List UInt8))) = true then
     (([111, 116, 104, 101, 114] : List UInt8).length ≤ 140737488355328) ∧
     (l.length < 140737488355328) ∧
     J0_1' ((([111, 116, 104, 101, 114] : List UInt8), ([115, 116, 97, 121, 115] : List UInt8)) :: l)
    else
     J0_1' l)) ∧
  (([108] : List UInt8).length ≤ 140737488355328) ∧
  ((l8 ([108] : List UInt8)) = true → (([108] : List UInt8).length ≤ 140737488355328)) ∧
  (if ((l8 ([108] : List UInt8)) && (s9 ([] : List (Bs × Bs)) ([108] : List UInt8))) = true then
   (([108] : List UInt8).length ≤ 140737488355328) ∧
   (([] : List (Bs × Bs)).length < 140737488355328) ∧
   J0 ((([108] : List UInt8), ([111, 108, 100] : List UInt8)) :: ([] : List (Bs × Bs)))
  else
   J0 [])
theorem am0 (fb : Nat) (gb : Nat) (keep : Int) (K : Int → Int → (List (Bs × Bs)) → (List (Int × Fl)) → (List (Int × Fl)) → Prop) (h : ah8 keep K) :
  i7 Tryd.prog 6 [Value.slice (some ⟨fb, 0, none⟩) 2 2, Value.slice (some ⟨gb, 0, none⟩) 1 1] [(fb, .cells [st ([108] : List UInt8), st ([111, 108, 100] : List UInt8), st ([111, 116, 104, 101, 114] : List UInt8), st ([115, 116, 97, 121, 115] : List UInt8)].toArray 34 (0, 0)), (gb, .cells [zB true, zI 2, zI keep].toArray 37 (0, 0))] [] (fun o => (∃ (hb0 : Nat) (hb1 : Nat) (hb2 : Nat) (hb3 : Nat) (hd : Int) (hd_1' : Int) (hd_2' : List (Bs × Bs)) (hd_3' : List (Int × Fl)) (hd_4' : List (Int × Fl)), K hd hd_1' hd_2' hd_3' hd_4' ∧ o = .ret (zP hb0) [HA.blk hb0 (.cells [Value.map (some hb1), zI hd, Value.map (some hb2), zI hd_1', Value.map (some hb3)].toArray 61 (0, 0)), mapE Tryd.prog 9 hb1 (prL klS r9 hd_2'), mapE Tryd.prog 3 hb2 (prL klI f7 hd_3'), mapE Tryd.prog 3 hb3 (prL klI f7 hd_4')]) ∨ (False)) := by
 unfold ah8 at h
 refine d8 (n := 84) (L0 := [(0, Value.slice (some ⟨fb, 0, none⟩) 2 2), (1, Value.slice (some ⟨gb, 0, none⟩) 1 1)]) Tryd.func6 rfl rfl rfl rfl (fun w0 M Q hE => ?_)
 refine a7 (fun _ hK => ?_)
 refine a6 ?_
 refine wA ?_
 refine WL.nil ?_
 refine kg (hK [(0, Value.slice (some ⟨fb, 0, none⟩) 2 2), (1, Value.slice (some ⟨gb, 0, none⟩) 1 1)] _ ?_)
 refine a7 (fun _ hK_1' => ?_)
 refine a6 ?_
 refine WL.newMap v6 r9 rfl rfl (fun b => ?_)
 refine wv (OV.build rfl (cs := [Value.map (some b), zI 0, Value.map none, zI 0, Value.map none]) rfl) ?_
 refine WL.make (MV.box (cs := [Value.map (some b), zI 0, Value.map none, zI 0, Value.map none]) rfl rfl) rfl rfl rfl (fun b_1' => ?_)
 refine wA ?_
 refine WL.nil ?_
 refine kg (hK_1' [(0, Value.slice (some ⟨fb, 0, none⟩) 2 2), (1, Value.slice (some ⟨gb, 0, none⟩) 1 1), (5, zP b_1')] _ ?_)
 refine a7 (fun _ hK_2' => ?_)
 refine a6 ?_
 refine wm ?_
 refine wm ?_
 refine WL.newMap x8 f7 rfl rfl (fun b_2' => ?_)
 refine WL.newMap x8 f7 rfl rfl (fun b_3' => ?_)
 refine wv (OV.nilCheck rfl) ?_
 refine wv (OV.fieldAddr0 rfl aah) ?_
 refine wv (OV.fieldAddr rfl r5) ?_
 refine WL.store (vs := [Value.map (some b_2')]) (cs' := [Value.map (some b), zI 0, Value.map (some b_2'), zI 0, Value.map none]) 2 rfl rfl rfl rfl adm (Nat.le_of_ble_eq_true rfl) rfl rfl rfl ?_
 refine wv (OV.nilCheck rfl) ?_
 refine wv (OV.fieldAddr0 rfl aab) ?_
 refine wv (OV.fieldAddr rfl r5) ?_
 refine WL.store (vs := [Value.map (some b_3')]) (cs' := [Value.map (some b), zI 0, Value.map (some b_2'), zI 0, Value.map (some b_3')]) 2 rfl rfl rfl rfl adm (Nat.le_of_ble_eq_true rfl) rfl rfl rfl ?_
 refine WL.nil ?_
 refine kg (hK_2' [(0, Value.slice (some ⟨fb, 0, none⟩) 2 2), (1, Value.slice (some ⟨gb, 0, none⟩) 1 1), (5, zP b_1')] _ ?_)
 refine a7 (fun _ hK_3' => ?_)
 refine a7 (fun _ hK_4' => ?_)
 refine a6 ?_
 refine wm ?_
 refine wv (OV.lenS rfl acm) ?_
 refine wm ?_
 refine WL.nil ?_
 refine kg (hK_4' [(1, Value.slice (some ⟨gb, 0, none⟩) 1 1), (5, zP b_1'), (26, Value.slice (some ⟨fb, 0, none⟩) 2 2), (27, zI 2), (28, zI 0)] _ ?_)
 refine d7 ?_
 refine abi 3 ?_
 refine RC.succ (fun K0_5' hK_5' => ?_)
 refine a7 (fun _ hK_6' => ?_)
 refine a6 ?_
 refine wv (OV.lss rfl rfl) ?_
 refine WL.nil ?_
 refine kg (hK_6' [(1, Value.slice (some ⟨gb, 0, none⟩) 1 1), (5, zP b_1'), (26, Value.slice (some ⟨fb, 0, none⟩) 2 2), (27, zI 2), (28, zI 0), (29, zB true)] _ ?_)
 refine a7 (fun _ hK_7' => ?_)
 refine j2 rfl ?_
 refine b8 ?_
 refine kg (hK_7' [(1, Value.slice (some ⟨gb, 0, none⟩) 1 1), (5, zP b_1'), (26, Value.slice (some ⟨fb, 0, none⟩) 2 2), (27, zI 2), (28, zI 0)] _ ?_)
 obtain ⟨J0, hJ, h⟩ := h
 refine q7 (X := (List (Bs × Bs))) (fun σ => J0 σ) (fun σ => [(1, Value.slice (some ⟨gb, 0, none⟩) 1 1), (5, zP b_1'), (26, Value.slice (some ⟨fb, 0, none⟩) 2 2), (27, zI 2), (28, zI 0)]) (fun σ => [mapE Tryd.prog 3 b_3' (prL klI f7 ([] : List (Int × Fl))), mapE Tryd.prog 3 b_2' (prL klI f7 ([] : List (Int × Fl))), HA.blk b_1' (.cells [Value.map (some b), zI 0, Value.map (some b_2'), zI 0, Value.map (some b_3')].toArray 61 (0, 0)), mapE Tryd.prog 9 b (prL klS r9 σ)]) ?_ (fun K0_11' hK_11' => ?_)
 ·rintro l hj
  replace h := hJ l hj
  show WC _ _ _ _ [(1, Value.slice (some ⟨gb, 0, none⟩) 1 1), (5, zP b_1'), (26, Value.slice (some ⟨fb, 0, none⟩) 2 2), (27, zI 2), (28, zI 0)] [mapE Tryd.prog 3 b_3' (prL klI f7 ([] : List (Int × Fl))), mapE Tryd.prog 3 b_2' (prL klI f7 ([] : List (Int × Fl))), HA.blk b_1' (.cells [Value.map (some b), zI 0, Value.map (some b_2'), zI 0, Value.map (some b_3')].toArray 61 (0, 0)), mapE Tryd.prog 9 b (prL klS r9 l)]
  refine a6 ?_
  refine wv (OV.add rfl rfl ⟨by decide, by decide⟩) ?_
  refine wm ?_
  refine WL.nil ?_
  refine kg (hK_5' [(1, Value.slice (some ⟨gb, 0, none⟩) 1 1), (5, zP b_1'), (26, Value.slice (some ⟨fb, 0, none⟩) 2 2), (27, zI 2), (28, zI 1)] _ ?_)
  refine RC.succ (fun K0_12' hK_12' => ?_)
  refine a7 (fun _ hK_13' => ?_)
  refine a6 ?_
  refine wv (OV.lss rfl rfl) ?_
  refine WL.nil ?_
  refine kg (hK_13' [(1, Value.slice (some ⟨gb, 0, none⟩) 1 1), (5, zP b_1'), (26, Value.slice (some ⟨fb, 0, none⟩) 2 2), (27, zI 2), (28, zI 1), (29, zB true)] _ ?_)
  refine a7 (fun _ hK_14' => ?_)
  refine j2 rfl ?_
  refine b8 ?_
  refine kg (hK_14' [(1, Value.slice (some ⟨gb, 0, none⟩) 1 1), (5, zP b_1'), (26, Value.slice (some ⟨fb, 0, none⟩) 2 2), (27, zI 2), (28, zI 1)] _ ?_)
  obtain ⟨J0_1', hJ_1', h⟩ := h
  refine q7 (X := (List (Bs × Bs))) (fun σ => J0_1' σ) (fun σ => [(1, Value.slice (some ⟨gb, 0, none⟩) 1 1), (5, zP b_1'), (26, Value.slice (some ⟨fb, 0, none⟩) 2 2), (27, zI 2), (28, zI 1)]) (fun σ => [mapE Tryd.prog 3 b_3' (prL klI f7 ([] : List (Int × Fl))), mapE Tryd.prog 3 b_2' (prL klI f7 ([] : List (Int × Fl))), HA.blk b_1' (.cells [Value.map (some b), zI 0, Value.map (some b_2'), zI 0, Value.map (some b_3')].toArray 61 (0, 0)), mapE Tryd.prog 9 b (prL klS r9 σ)]) ?_ (fun K0_18' hK_18' => ?_)
  ·rintro l_1' hj
   replace h := hJ_1' l_1' hj
   show WC _ _ _ _ [(1, Value.slice (some ⟨gb, 0, none⟩) 1 1), (5, zP b_1'), (26, Value.slice (some ⟨fb, 0, none⟩) 2 2), (27, zI 2), (28, zI 1)] [mapE Tryd.prog 3 b_3' (prL klI f7 ([] : List (Int × Fl))), mapE Tryd.prog 3 b_2' (prL klI f7 ([] : List (Int × Fl))), HA.blk b_1' (.cells [Value.map (some b), zI 0, Value.map (some b_2'), zI 0, Value.map (some b_3')].toArray 61 (0, 0)), mapE Tryd.prog 9 b (prL klS r9 l_1')]
   refine a6 ?_
   refine wv (OV.add rfl rfl ⟨by decide, by decide⟩) ?_
   refine wm ?_
   refine WL.nil ?_
   refine kg (hK_12' [(1, Value.slice (some ⟨gb, 0, none⟩) 1 1), (5, zP b_1'), (26, Value.slice (some ⟨fb, 0, none⟩) 2 2), (27, zI 2), (28, zI 2)] _ ?_)
   refine RC.succ (fun K0_19' hK_19' => ?_)
   refine a7 (fun _ hK_20' => ?_)
   refine a6 ?_
   refine wv (OV.lss rfl rfl) ?_
   refine WL.nil ?_
   refine kg (hK_20' [(1, Value.slice (some ⟨gb, 0, none⟩) 1 1), (5, zP b_1'), (26, Value.slice (some ⟨fb, 0, none⟩) 2 2), (27, zI 2), (28, zI 2), (29, zB false)] _ ?_)
   refine a7 (fun _ hK_21' => ?_)
   refine j1 rfl ?_
   refine u7 ?_
   refine kg (hK_3' [(1, Value.slice (some ⟨gb, 0, none⟩) 1 1), (5, zP b_1')] _ ?_)
   refine a7 (fun _ hK_22' => ?_)
   refine a7 (fun _ hK_23' => ?_)
   refine a6 ?_
   refine wm ?_
   refine wv (OV.lenS rfl ael) ?_
   refine wm ?_
   refine WL.nil ?_
   refine kg (hK_23' [(5, zP b_1'), (51, Value.slice (some ⟨gb, 0, none⟩) 1 1), (52, zI 1), (53, zI 0)] _ ?_)
   refine d7 ?_
   refine abi 2 ?_
   refine RC.succ (fun K0_24' hK_24' => ?_)
   refine a7 (fun _ hK_25' => ?_)
   refine a6 ?_
   refine wv (OV.lss rfl rfl) ?_
   refine WL.nil ?_
   refine kg (hK_25' [(5, zP b_1'), (51, Value.slice (some ⟨gb, 0, none⟩) 1 1), (52, zI 1), (53, zI 0), (54, zB true)] _ ?_)
   refine a7 (fun _ hK_26' => ?_)
   refine j2 rfl ?_
   refine b8 ?_
   refine kg (hK_26' [(5, zP b_1'), (51, Value.slice (some ⟨gb, 0, none⟩) 1 1), (52, zI 1), (53, zI 0)] _ ?_)
   obtain ⟨J0_3', hJ_3', h⟩ := h
   refine q7 (X := (List (Int × Fl))) (fun σ => J0_3' σ) (fun σ => [(5, zP b_1'), (51, Value.slice (some ⟨gb, 0, none⟩) 1 1), (52, zI 1), (53, zI 0)]) (fun σ => [mapE Tryd.prog 3 b_3' (prL klI f7 σ), mapE Tryd.prog 3 b_2' (prL klI f7 ([] : List (Int × Fl))), HA.blk b_1' (.cells [Value.map (some b), zI 0, Value.map (some b_2'), zI 0, Value.map (some b_3')].toArray 61 (0, 0)), mapE Tryd.prog 9 b (prL klS r9 l_1')]) ?_ (fun K0_34' hK_34' => ?_)
   ·rintro l_2' hj
    replace h := hJ_3' l_2' hj
    show WC _ _ _ _ [(5, zP b_1'), (51, Value.slice (some ⟨gb, 0, none⟩) 1 1), (52, zI 1), (53, zI 0)] [mapE Tryd.prog 3 b_3' (prL klI f7 l_2'), mapE Tryd.prog 3 b_2' (prL klI f7 ([] : List (Int × Fl))), HA.blk b_1' (.cells [Value.map (some b), zI 0, Value.map (some b_2'), zI 0, Value.map (some b_3')].toArray 61 (0, 0)), mapE Tryd.prog 9 b (prL klS r9 l_1')]
    refine a6 ?_
    refine wv (OV.add rfl rfl ⟨by decide, by decide⟩) ?_
    refine wm ?_
    refine WL.nil ?_
    refine kg (hK_24' [(5, zP b_1'), (51, Value.slice (some ⟨gb, 0, none⟩) 1 1), (52, zI 1), (53, zI 1)] _ ?_)
    refine RC.succ (fun K0_35' hK_35' => ?_)
    refine a7 (fun _ hK_36' => ?_)
    refine a6 ?_
    refine wv (OV.lss rfl rfl) ?_
    refine WL.nil ?_
    refine kg (hK_36' [(5, zP b_1'), (51, Value.slice (some ⟨gb, 0, none⟩) 1 1), (52, zI 1), (53, zI 1), (54, zB false)] _ ?_)
    refine a7 (fun _ hK_37' => ?_)
    refine j1 rfl ?_
    refine u7 ?_
    refine kg (hK_22' [(5, zP b_1')] _ ?_)
    refine a7 (fun _ hK_38' => ?_)
    refine a6 ?_
    refine wm ?_
    refine wA ?_
    refine WL.nil ?_
    refine kg (hK_38' [(4, zP b_1')] _ ?_)
    refine e7 ?_
    exact hE.ret [2, 3, 1, 0] rfl rfl (.inl ⟨_, _, _, _, _, _, _, _, _, h, rfl⟩) (j6.of1 rfl (RV.tmp rfl))
   ·skip
    refine d7 ?_
    refine a7 (fun _ hK_39' => ?_)
    refine a6 ?_
    refine wv (OV.indexSl rfl rfl ael (by decide) rfl) ?_
    refine wv (OV.loadR rfl (At.ro 1 rfl) x6) ?_
    refine WL.make (MV.alloc s7) rfl rfl rfl (fun b_8' => ?_)
    refine WL.storeW (vs := [zB true, zI 2, zI keep]) 0 rfl rfl rfl rfl rfl s8 rfl rfl rfl ?_
    refine WL.nil ?_
    refine kg (hK_39' [(5, zP b_1'), (9, zP b_8'), (51, Value.slice (some ⟨gb, 0, none⟩) 1 1), (52, zI 1), (53, zI 0)] _ ?_)
    refine a7 (fun _ hK_40' => ?_)
    refine a6 ?_
    refine wm ?_
    refine wv (OV.nilCheck rfl) ?_
    refine wv (OV.fieldAddr0 rfl aah) ?_
    refine wv (OV.fieldAddr rfl r5) ?_
    refine wv (OV.load rfl (At.own 3 rfl) rfl aat) ?_
    refine wA ?_
    refine WL.nil ?_
    refine kg (hK_40' [(5, zP b_1'), (9, zP b_8'), (10, Value.map (some b_2')), (51, Value.slice (some ⟨gb, 0, none⟩) 1 1), (52, zI 1), (53, zI 0)] _ ?_)
    obtain ⟨J0_4', hJ_4', h⟩ := h
    refine q7 (X := Unit) (fun _ => J0_4') (fun _ => [(5, zP b_1'), (9, zP b_8'), (10, Value.map (some b_3')), (51, Value.slice (some ⟨gb, 0, none⟩) 1 1), (52, zI 1), (53, zI 0)]) (fun _ => [HA.blk b_8' (.cells [zB true, zI 2, zI keep].toArray 37 (0, 0)), mapE Tryd.prog 3 b_3' (prL klI f7 ([] : List (Int × Fl))), mapE Tryd.prog 3 b_2' (prL klI f7 ([] : List (Int × Fl))), HA.blk b_1' (.cells [Value.map (some b), zI 0, Value.map (some b_2'), zI 0, Value.map (some b_3')].toArray 61 (0, 0)), mapE Tryd.prog 9 b (prL klS r9 l_1')]) ?_ (fun K0_42' hK_42' => ?_)
    ·rintro _ hj
     replace h := hJ_4' () hj
     show WC _ _ _ _ [(5, zP b_1'), (9, zP b_8'), (10, Value.map (some b_3')), (51, Value.slice (some ⟨gb, 0, none⟩) 1 1), (52, zI 1), (53, zI 0)] [HA.blk b_8' (.cells [zB true, zI 2, zI keep].toArray 37 (0, 0)), mapE Tryd.prog 3 b_3' (prL klI f7 ([] : List (Int × Fl))), mapE Tryd.prog 3 b_2' (prL klI f7 ([] : List (Int × Fl))), HA.blk b_1' (.cells [Value.map (some b), zI 0, Value.map (some b_2'), zI 0, Value.map (some b_3')].toArray 61 (0, 0)), mapE Tryd.prog 9 b (prL klS r9 l_1')]
     refine a7 (fun _ hK_43' => ?_)
     refine a6 ?_
     refine wm ?_
     refine wv (OV.fieldAddr0 rfl abx) ?_
     refine wv (OV.load rfl (At.own 0 rfl) rfl d6) ?_
     obtain ⟨o_13', h⟩ := h
     refine wv (OV.lookOk (z0 := (false, 0, 0)) 1 rfl rfl rfl x8 (adg Tryd.underlying3 o_13') adp) ?_
     refine wm ?_
     refine wv (OV.extract 0 rfl rfl) ?_
     refine wv (OV.extract 1 rfl rfl) ?_
     refine WL.make (MV.alloc s7) rfl rfl rfl (fun b_9' => ?_)
     refine WL.storeW (vs := [zB (((lk ([] : List (Int × Fl)) (2 : Int)).getD (false, 0, 0)).1), zI (((lk ([] : List (Int × Fl)) (2 : Int)).getD (false, 0, 0)).2.1), zI (((lk ([] : List (Int × Fl)) (2 : Int)).getD (false, 0, 0)).2.2)]) 0 rfl rfl rfl rfl rfl s8 rfl rfl rfl ?_
     refine wA ?_
     refine WL.nil ?_
     refine kg (hK_43' [(5, zP b_1'), (9, zP b_8'), (10, Value.map (some b_3')), (12, zB ((lk ([] : List (Int × Fl)) (2 : Int)).isSome)), (51, Value.slice (some ⟨gb, 0, none⟩) 1 1), (52, zI 1), (53, zI 0)] _ ?_)
     refine a7 (fun _ hK_44' => ?_)
     refine a6 ?_
     refine wm ?_
     refine wv (OV.not rfl) ?_
     refine WL.nil ?_
     refine kg (hK_44' [(5, zP b_1'), (9, zP b_8'), (10, Value.map (some b_3')), (51, Value.slice (some ⟨gb, 0, none⟩) 1 1), (52, zI 1), (53, zI 0), (77, zB (!((lk ([] : List (Int × Fl)) (2 : Int)).isSome)))] _ ?_)
     refine d4 (b := !((lk ([] : List (Int × Fl)) (2 : Int)).isSome)) rfl (fun hb => ?_) (fun hb => ?_)
     ·replace h := k9 h hb
      refine a6 ?_
      refine wm ?_
      refine wv (OV.fieldAddr0 rfl abx) ?_
      refine wv (OV.load rfl (At.own 1 rfl) rfl d6) ?_
      refine wv (OV.loadR rfl (At.own 1 rfl) x6) ?_
      obtain ⟨o_14', h⟩ := h
      obtain ⟨o_15', h⟩ := h
      refine WL.mapPut (u := (true, 2, keep)) 2 rfl rfl rfl rfl x8 (adg Tryd.underlying3 o_14') o_15' rfl ?_
      refine WL.nil ?_
      exact kh (hK_34' ((2, (true, 2, keep)) :: ([] : List (Int × Fl))) h) [2, 3, 4, 5]
     ·replace h := l6 h hb
      refine b8 ?_
      exact kh (hK_34' [] h) [2, 3, 4, 5]
    ·skip
     refine a7 (fun _ hK_45' => ?_)
     refine a6 ?_
     refine wv (OV.fieldAddr0 rfl aew) ?_
     refine wv (OV.load rfl (At.own 0 rfl) rfl afe) ?_
     refine WL.nil ?_
     refine kg (hK_45' [(5, zP b_1'), (9, zP b_8'), (10, Value.map (some b_2')), (51, Value.slice (some ⟨gb, 0, none⟩) 1 1), (52, zI 1), (53, zI 0), (63, zB true)] _ ?_)
     refine j2 rfl ?_
     refine a6 ?_
     refine wm ?_
     refine wv (OV.nilCheck rfl) ?_
     refine wv (OV.fieldAddr0 rfl aab) ?_
     refine wv (OV.fieldAddr rfl r5) ?_
     refine wv (OV.load rfl (At.own 3 rfl) rfl aat) ?_
     refine wA ?_
     refine WL.nil ?_
     exact kh (hK_42' () h) [0, 1, 2, 3, 4]
  ·skip
   refine d7 ?_
   refine a7 (fun _ hK_46' => ?_)
   refine a6 ?_
   refine wv (OV.indexSl rfl rfl acm (by decide) rfl) ?_
   refine wv (OV.loadM (vs := [st ([111, 116, 104, 101, 114] : List UInt8), st ([115, 116, 97, 121, 115] : List UInt8)]) rfl (At.ro 0 rfl) rfl ae6) ?_
   refine WL.make (MV.alloc ad0) rfl rfl rfl (fun b_10' => ?_)
   refine WL.storeW (vs := [st ([111, 116, 104, 101, 114] : List UInt8), st ([115, 116, 97, 121, 115] : List UInt8)]) 0 rfl rfl rfl rfl rfl ad5 rfl rfl rfl ?_
   refine WL.nil ?_
   refine kg (hK_46' [(1, Value.slice (some ⟨gb, 0, none⟩) 1 1), (5, zP b_1'), (7, zP b_10'), (26, Value.slice (some ⟨fb, 0, none⟩) 2 2), (27, zI 2), (28, zI 1)] _ ?_)
   refine a7 (fun _ hK_47' => ?_)
   refine a6 ?_
   refine wv (OV.fieldAddr0 rfl r3) ?_
   refine wv (OV.load rfl (At.own 0 rfl) rfl d3) ?_
   obtain ⟨o_16', h⟩ := h
   refine WL.call (A := []) abl rfl (abo ([111, 116, 104, 101, 114] : List UInt8) o_16') rfl trivial rfl rfl ?_
   refine wm ?_
   obtain ⟨o_18', h⟩ := h
   refine WL.cut 5 [(1, Value.slice (some ⟨gb, 0, none⟩) 1 1), (5, zP b_1'), (7, zP b_10'), (26, Value.slice (some ⟨fb, 0, none⟩) 2 2), (27, zI 2), (28, zI 1), (40, zB ((l8 ([111, 116, 104, 101, 114] : List UInt8)) && (s9 l ([111, 116, 104, 101, 114] : List UInt8))))] ?_ (fun K0_48' hK_48' => ?_)
   rotate_left
   ·refine WL.split (l8 ([111, 116, 104, 101, 114] : List UInt8)) (fun hb => ?_) (fun hb => ?_)
    ·have o_17' := o_18' hb
     refine WL.set 35 rfl (congrArg zB hb) ?_
     refine wm ?_
     refine wv (OV.fieldAddr0 rfl r3) ?_
     refine wv (OV.load rfl (At.own 0 rfl) rfl d3) ?_
     refine WL.pick (H' := [HA.blk b_1' (.cells [Value.map (some b), zI 0, Value.map (some b_2'), zI 0, Value.map (some b_3')].toArray 61 (0, 0)), mapE Tryd.prog 9 b (prL klS r9 l), mapE Tryd.prog 3 b_2' (prL klI f7 ([] : List (Int × Fl))), mapE Tryd.prog 3 b_3' (prL klI f7 ([] : List (Int × Fl))), HA.blk b_10' (.cells [st ([111, 116, 104, 101, 114] : List UInt8), st ([115, 116, 97, 121, 115] : List UInt8)].toArray 34 (0, 0))]) [3, 4, 2, 1, 0] rfl rfl ?_
     refine WL.call acs rfl (acp b_1' b b_2' b_3' 0 0 l ([] : List (Int × Fl)) ([] : List (Int × Fl)) ([111, 116, 104, 101, 114] : List UInt8) o_17') rfl trivial rfl rfl ?_
     refine wv (OV.pickT rfl rfl) ?_
     refine WL.set 40 rfl (bT (v := s9 l ([111, 116, 104, 101, 114] : List UInt8)) hb) ?_
     exact WL.end_ (kh hK_48' [4, 3, 2, 0, 1])
    ·refine WL.set 35 rfl (congrArg zB hb) ?_
     refine wk ?_
     refine wk ?_
     refine wk ?_
     refine wk ?_
     refine wv (OV.pickF rfl rfl) ?_
     refine WL.set 40 rfl (bF (v := s9 l ([111, 116, 104, 101, 114] : List UInt8)) hb) ?_
     exact WL.end_ (kg hK_48')
   refine WL.nil ?_
   refine kg (hK_47' [(1, Value.slice (some ⟨gb, 0, none⟩) 1 1), (5, zP b_1'), (7, zP b_10'), (26, Value.slice (some ⟨fb, 0, none⟩) 2 2), (27, zI 2), (28, zI 1), (40, zB ((l8 ([111, 116, 104, 101, 114] : List UInt8)) && (s9 l ([111, 116, 104, 101, 114] : List UInt8))))] _ ?_)
   refine d4 (b := (l8 ([111, 116, 104, 101, 114] : List UInt8)) && (s9 l ([111, 116, 104, 101, 114] : List UInt8))) rfl (fun hb => ?_) (fun hb => ?_)
   ·replace h := k9 h hb
    refine t8 9 [] m5 (by kernel_rfl) rfl (fun T_2' hT_2' => ?_)
    refine fv (fun _ => OV.move rfl) ?_
    refine fv (fun _ => OV.nilCheck rfl) ?_
    refine fv (fun _ => OV.fieldAddr0 rfl p5) ?_
    refine fv (fun _ => OV.load rfl (At.own 3 rfl) rfl u9) ?_
    refine fv (fun _ => OV.fieldAddr0 rfl r3) ?_
    refine fv (fun _ => OV.load rfl (At.own 0 rfl) rfl d3) ?_
    refine fv (fun _ => OV.fieldAddr0 rfl ab0) ?_
    refine fv (fun _ => OV.load rfl (At.own 0 rfl) rfl d3) ?_
    refine fv (fun _ => OV.build rfl (cs := [st ([115, 116, 97, 121, 115] : List UInt8)]) rfl) ?_
    refine FL.weak (L' := fun γ => [(1, Value.slice (some ⟨gb, 0, none⟩) 1 1), (5, zP b_1'), (26, Value.slice (some ⟨fb, 0, none⟩) 2 2), (27, zI 2), (28, zI 1), (44, Value.map (some b)), (46, st ([111, 116, 104, 101, 114] : List UInt8)), (49, Value.agg [st ([115, 116, 97, 121, 115] : List UInt8)].toArray)]) (fun γ => ⟨rfl, rfl, rfl, rfl, rfl, rfl, rfl, rfl, trivial⟩) (FL.nil (hT_2' (fun γ => [(1, Value.slice (some ⟨gb, 0, none⟩) 1 1), (5, zP b_1'), (26, Value.slice (some ⟨fb, 0, none⟩) 2 2), (27, zI 2), (28, zI 1), (44, Value.map (some b)), (46, st ([111, 116, 104, 101, 114] : List UInt8)), (49, Value.agg [st ([115, 116, 97, 121, 115] : List UInt8)].toArray)]) (fun γ => ?_)))
    obtain ⟨o_19', h⟩ := h
    obtain ⟨o_20', h⟩ := h
    refine WL.mapPut (u := ([115, 116, 97, 121, 115] : List UInt8)) 4 rfl rfl rfl rfl v6 (abn d5 o_19') o_20' rfl ?_
    refine WL.nil ?_
    exact kh (hK_18' ((([111, 116, 104, 101, 114] : List UInt8), ([115, 116, 97, 121, 115] : List UInt8)) :: l) h) [1, 2, 3, 4]
   ·replace h := l6 h hb
    refine b8 ?_
    exact kh (hK_18' l h) [1, 2, 3, 4]
 ·skip
  refine d7 ?_
  refine a7 (fun _ hK_49' => ?_)
  refine a6 ?_
  refine wv (OV.indexSl rfl rfl acm (by decide) rfl) ?_
  refine wv (OV.loadM (vs := [st ([108] : List UInt8), st ([111, 108, 100] : List UInt8)]) rfl (At.ro 0 rfl) rfl ae6) ?_
  refine WL.make (MV.alloc ad0) rfl rfl rfl (fun b_11' => ?_)
  refine WL.storeW (vs := [st ([108] : List UInt8), st ([111, 108, 100] : List UInt8)]) 0 rfl rfl rfl rfl rfl ad5 rfl rfl rfl ?_
  refine WL.nil ?_
  refine kg (hK_49' [(1, Value.slice (some ⟨gb, 0, none⟩) 1 1), (5, zP b_1'), (7, zP b_11'), (26, Value.slice (some ⟨fb, 0, none⟩) 2 2), (27, zI 2), (28, zI 0)] _ ?_)
  refine a7 (fun _ hK_50' => ?_)
  refine a6 ?_
  refine wv (OV.fieldAddr0 rfl r3) ?_
  refine wv (OV.load rfl (At.own 0 rfl) rfl d3) ?_
  obtain ⟨o_21', h⟩ := h
  refine WL.call (A := []) abl rfl (abo ([108] : List UInt8) o_21') rfl trivial rfl rfl ?_
  refine wm ?_
  obtain ⟨o_23', h⟩ := h
  refine WL.cut 5 [(1, Value.slice (some ⟨gb, 0, none⟩) 1 1), (5, zP b_1'), (7, zP b_11'), (26, Value.slice (some ⟨fb, 0, none⟩) 2 2), (27, zI 2), (28, zI 0), (40, zB ((l8 ([108] : List UInt8)) && (s9 ([] : List (Bs × Bs)) ([108] : List UInt8))))] ?_ (fun K0_51' hK_51' => ?_)
  rotate_left
  ·refine WL.split (l8 ([108] : List UInt8)) (fun hb => ?_) (fun hb => ?_)
   ·have o_22' := o_23' hb
    refine WL.set 35 rfl (congrArg zB hb) ?_
    refine wm ?_
    refine wv (OV.fieldAddr0 rfl r3) ?_
    refine wv (OV.load rfl (At.own 0 rfl) rfl d3) ?_
    refine WL.pick (H' := [HA.blk b_1' (.cells [Value.map (some b), zI 0, Value.map (some b_2'), zI 0, Value.map (some b_3')].toArray 61 (0, 0)), mapE Tryd.prog 9 b (prL klS r9 ([] : List (Bs × Bs))), mapE Tryd.prog 3 b_2' (prL klI f7 ([] : List (Int × Fl))), mapE Tryd.prog 3 b_3' (prL klI f7 ([] : List (Int × Fl))), HA.blk b_11' (.cells [st ([108] : List UInt8), st ([111, 108, 100] : List UInt8)].toArray 34 (0, 0))]) [3, 4, 2, 1, 0] rfl rfl ?_
    refine WL.call acs rfl (acp b_1' b b_2' b_3' 0 0 ([] : List (Bs × Bs)) ([] : List (Int × Fl)) ([] : List (Int × Fl)) ([108] : List UInt8) o_22') rfl trivial rfl rfl ?_
    refine wv (OV.pickT rfl rfl) ?_
    refine WL.set 40 rfl (bT (v := s9 ([] : List (Bs × Bs)) ([108] : List UInt8)) hb) ?_
    exact WL.end_ (kh hK_51' [4, 3, 2, 0, 1])
   ·refine WL.set 35 rfl (congrArg zB hb) ?_
    refine wk ?_
    refine wk ?_
    refine wk ?_
    refine wk ?_
    refine wv (OV.pickF rfl rfl) ?_
    refine WL.set 40 rfl (bF (v := s9 ([] : List (Bs × Bs)) ([108] : List UInt8)) hb) ?_
    exact WL.end_ (kg hK_51')
  refine WL.nil ?_
  refine kg (hK_50' [(1, Value.slice (some ⟨gb, 0, none⟩) 1 1), (5, zP b_1'), (7, zP b_11'), (26, Value.slice (some ⟨fb, 0, none⟩) 2 2), (27, zI 2), (28, zI 0), (40, zB ((l8 ([108] : List UInt8)) && (s9 ([] : List (Bs × Bs)) ([108] : List UInt8))))] _ ?_)
  refine d4 (b := (l8 ([108] : List UInt8)) && (s9 ([] : List (Bs × Bs)) ([108] : List UInt8))) rfl (fun hb => ?_) (fun hb => ?_)
  ·replace h := k9 h hb
   refine t8 9 [] m5 (by kernel_rfl) rfl (fun T_3' hT_3' => ?_)
   refine fv (fun _ => OV.move rfl) ?_
   refine fv (fun _ => OV.nilCheck rfl) ?_
   refine fv (fun _ => OV.fieldAddr0 rfl p5) ?_
   refine fv (fun _ => OV.load rfl (At.own 3 rfl) rfl u9) ?_
   refine fv (fun _ => OV.fieldAddr0 rfl r3) ?_
   refine fv (fun _ => OV.load rfl (At.own 0 rfl) rfl d3) ?_
   refine fv (fun _ => OV.fieldAddr0 rfl ab0) ?_
   refine fv (fun _ => OV.load rfl (At.own 0 rfl) rfl d3) ?_
   refine fv (fun _ => OV.build rfl (cs := [st ([111, 108, 100] : List UInt8)]) rfl) ?_
   refine FL.weak (L' := fun γ => [(1, Value.slice (some ⟨gb, 0, none⟩) 1 1), (5, zP b_1'), (26, Value.slice (some ⟨fb, 0, none⟩) 2 2), (27, zI 2), (28, zI 0), (44, Value.map (some b)), (46, st ([108] : List UInt8)), (49, Value.agg [st ([111, 108, 100] : List UInt8)].toArray)]) (fun γ => ⟨rfl, rfl, rfl, rfl, rfl, rfl, rfl, rfl, trivial⟩) (FL.nil (hT_3' (fun γ => [(1, Value.slice (some ⟨gb, 0, none⟩) 1 1), (5, zP b_1'), (26, Value.slice (some ⟨fb, 0, none⟩) 2 2), (27, zI 2), (28, zI 0), (44, Value.map (some b)), (46, st ([108] : List UInt8)), (49, Value.agg [st ([111, 108, 100] : List UInt8)].toArray)]) (fun γ => ?_)))
   obtain ⟨o_24', h⟩ := h
   obtain ⟨o_25', h⟩ := h
   refine WL.mapPut (u := ([111, 108, 100] : List UInt8)) 4 rfl rfl rfl rfl v6 (abn d5 o_24') o_25' rfl ?_
   refine WL.nil ?_
   exact kh (hK_11' ((([108] : List UInt8), ([111, 108, 100] : List UInt8)) :: ([] : List (Bs × Bs))) h) [1, 2, 3, 4]
  ·replace h := l6 h hb
   refine b8 ?_
   exact kh (hK_11' [] h) [1, 2, 3, 4]
theorem ajx (fb gb : Nat) (keep : Int) (_h : I64 keep) : i7 Tryd.prog 6 [.slice (some ⟨fb, 0, none⟩) 2 2, .slice (some ⟨gb, 0, none⟩) 1 1]
  [(fb, .cells [st ([108] : Bs), st ([111, 108, 100] : Bs), st ([111, 116, 104, 101, 114] : Bs), st ([115, 116, 97, 121, 115] : Bs)].toArray 34 (0, 0)), (gb, .cells [zB true, zI 2, zI keep].toArray 37 (0, 0))] []
  (fun o => ∃ sb m1 m2 m3 : Nat, o = .ret (.pointer (some ⟨sb, 0, none⟩)) (aej sb m1 m2 m3 0 0 fm0 [] (wf0 keep))) := by
 refine (am0 fb gb keep (fun a b c d e => a = 0 ∧ b = 0 ∧ c = fm0 ∧ d = [] ∧ e = wf0 keep) ?_).weak ?_
 ·unfold ah8
  refine ⟨fun l => l = [([108], [111, 108, 100])], fun l hl => ?_, ?_⟩
  ·subst hl
   refine ⟨fun l => l = fm0, fun l hl => ?_, ?_⟩
   ·subst hl
    refine ⟨fun l => l = wf0 keep, fun l hl => ⟨rfl, rfl, rfl, rfl, hl⟩, True, fun _ _ => ⟨by unfold I64; omega, ?_⟩, trivial⟩
    rw [if_pos (by decide)]
    exact ⟨by unfold I64; omega, by decide, rfl⟩
   ·refine ⟨by decide, fun _ => by decide, ?_⟩
    rw [if_pos (by decide)]
    exact ⟨by decide, by decide, rfl⟩
  ·refine ⟨by decide, fun _ => by decide, ?_⟩
   rw [if_pos (by decide)]
   exact ⟨by decide, by decide, rfl⟩
 ·rintro o (⟨sb, m1, m2, m3, a, b, c, d, e, ⟨rfl, rfl, rfl, rfl, rfl⟩, rfl⟩ | h)
  ·exact ⟨sb, m1, m2, m3, rfl⟩
  ·cases h
end Go.Proofs.YtgocbiiolmmonaaDoor
