/-
  Merged: RxQ, RxR, RxL, Gwu, RxB, RxW, RxLawParses.
-/
import Derived.Test.YtohnchdnkbadaaaDoorPa10
set_option maxRecDepth 100000
namespace Go.Proofs.YtohnchdnkbadaaaDoor
open Go Go.RowKit
theorem aq6 : o6 Tryd.prog 160 = true := by kernel_rfl
theorem ag0 : abw Tryd.prog 24 = true := by kernel_rfl
theorem afh : Program.stoodInHeld Tryd.prog 26 = false := by kernel_rfl
theorem aij : Program.eqGuardType Tryd.prog Tryd.prog.depth 26 = false := by kernel_rfl
theorem z8 : l9 Tryd.prog 76 2 = some 2 := by kernel_rfl
theorem acg : abw Tryd.prog 74 = true := by kernel_rfl
theorem aly : s8 Tryd.prog 74 1 = true := by kernel_rfl
theorem am7 : o6 Tryd.prog 37 = true := by kernel_rfl
theorem ara : o6 Tryd.prog 146 = true := by kernel_rfl
theorem aro : o6 Tryd.prog 145 = true := by kernel_rfl
theorem ags : o6 Tryd.prog 113 = true := by kernel_rfl
theorem amu : o6 Tryd.prog 76 = true := by kernel_rfl
inductive AtR (t : List UInt8) (d : Nat) (i : Int) : adv → Prop
 | set {s : CS} {k : Int} : nx t i ≠ 40 → j7 t i = (s, k, 0, 0) → AtR t d i (.ok (.cls s, k))
 | setE {s : CS} {k e p : Int} : nx t i ≠ 40 → j7 t i = (s, k, e, p) → ¬ (e = 0 ∧ p = 0) → AtR t d i (.error (e, p))
 | nest : nx t i = 40 → 1000 ≤ d → AtR t d i (.error (23, i))
 | par {x : Tr} {k : Int} : nx t i = 40 → d < 1000 → PR t .alt (d + 1) (i + 1) (.ok (x, k)) → k < t.length → AtR t d i (.ok (x, k + 1))
 | parE {e : Int × Int} : nx t i = 40 → d < 1000 → PR t .alt (d + 1) (i + 1) (.error e) → AtR t d i (.error e)
 | parO {x : Tr} {k : Int} : nx t i = 40 → d < 1000 → PR t .alt (d + 1) (i + 1) (.ok (x, k)) → ¬ (k < t.length) → AtR t d i (.error (21, i))
def ai4 (t : List UInt8) (j : Int) : Prop := nx t j ≠ 124 ∧ nx t j ≠ 38 ∧ nx t j ≠ 45 ∧ nx t j ≠ 41 ∧ nx t j ≠ 42 ∧ nx t j ≠ 43 ∧ nx t j ≠ 63 ∧ nx t j ≠ 123
theorem ai4.mem {t : List UInt8} {j : Int} (h : ai4 t j) (h40 : nx t j ≠ 40) : nx t j ∉ [124, 38, 45, 41, 42, 43, 63, 123, 40] := by
 unfold ai4 at h; simp; omega
theorem AtR.row {t : List UInt8} {d : Nat} {j k l : Int} {x y : Tr} {acc : Option Tr} {r : adv} (h : AtR t d j (.ok (x, k))) (hl : j < t.length) (hc : ai4 t j) (hr : RP t x k (.ok (y, l))) (h2 : PR t (.row (ajk acc y)) d l r) : PR t (.row acc) d j r := by
 cases h with
 | set a b => exact .rowC hl (hc.mem a) b hr h2
 | par a b c e => exact .rowP hl a b c e hr h2
theorem AtR.rowR {t : List UInt8} {d : Nat} {j k : Int} {x : Tr} {acc : Option Tr} {e : Int × Int} (h : AtR t d j (.ok (x, k))) (hl : j < t.length) (hc : ai4 t j) (hr : RP t x k (.error e)) : PR t (.row acc) d j (.error e) := by
 cases h with
 | set a b => exact .rowCR hl (hc.mem a) b hr
 | par a b c e => exact .rowPR hl a b c e hr
theorem AtR.rowE {t : List UInt8} {d : Nat} {j : Int} {acc : Option Tr} {e : Int × Int} (h : AtR t d j (.error e)) (hl : j < t.length) (hc : ai4 t j) : PR t (.row acc) d j (.error e) := by
 cases h with
 | setE a b c => exact .rowCE hl (hc.mem a) b c
 | nest a b => exact .rowN hl a b
 | parE a b c => exact .rowPE hl a b c
 | parO a b c d => exact .rowO hl a b c d
theorem AtR.ends {t : List UInt8} {d : Nat} {i k : Int} {x : Tr} (h : AtR t d i (.ok (x, k))) (h0 : 0 ≤ i) (hl : i < t.length) : i < k ∧ k ≤ t.length := by
 cases h with
 | set a b => exact afe b h0
 | par a b c e => have := c.ends (by omega) (by omega) _ _ rfl; omega
def ae9 (R : adv → Prop) (t : List UInt8) (i : Int) (B B' : List (Nat × Obj)) (j n : Int) (u : Value) : Prop :=
 acd B B' ∧ abb n u ∧ i ≤ j ∧ j ≤ t.length ∧ ∃ x, R (.ok (x, j)) ∧ Is B' n u x
abbrev opR (w : Value) (o : List Int) : HA := .row w 3 1 o.length (o.flatMap q8)
def ayt (t : List UInt8) (b : Nat) (o : List Int) (i : Int) (B : List (Nat × Obj)) (R : adv → Prop) : Out → Prop := fun out =>
 (∃ (n : Int) (u : Value) (j : Int) (w : Value) (B' : List (Nat × Obj)), ae9 R t i B B' j n u ∧ out = .ret (.agg [.int .i64 n, u].toArray) [scB b t j w, opR w o, pool B']) ∨
 (∃ (c p q : Int) (w : Value) (o2 : List Int) (B2 : List (Nat × Obj)), R (.error (c, p)) ∧ out = .pan [{ v := n8 c p, recovered := false }] [scB b t q w, opR w o2, pool B2])
def ahk (t : List UInt8) (i : Int) : Prop := ∀ (b : Nat) (te : TypeId) (fre : Nat × Nat) (w : Value) (o : List Int) (B : List (Nat × Obj)), 0 ≤ i ∧ i < (t.length : Int) ∧ t.length ≤ 1048576 ∧ o.length ≤ 1000 →
 c8 Tryd.prog 146 [.pointer (some ⟨b, 0, none⟩)] (z6 te fre) [scB b t i w, opR w o, pool B] (ayt t b o i B (AtR t o.length i))
def akt (f : FuncId) (m : Md) (t : List UInt8) (i : Int) : Prop := ∀ (b : Nat) (te : TypeId) (fre : Nat × Nat) (w : Value) (o : List Int) (B : List (Nat × Obj)), 0 ≤ i ∧ i ≤ (t.length : Int) ∧ t.length ≤ 1048576 ∧ o.length ≤ 1000 →
 c8 Tryd.prog f [.pointer (some ⟨b, 0, none⟩)] (z6 te fre) [scB b t i w, opR w o, pool B] (ayt t b o i B (PR t m o.length i))
abbrev af7 (t : List UInt8) (i : Int) : Prop := akt 113 (.row none) t i
abbrev afo (t : List UInt8) (i : Int) : Prop := akt 76 .meet t i
abbrev af5 (t : List UInt8) (i : Int) : Prop := akt 37 .alt t i
abbrev KR (R : adv → Prop) (t : List UInt8) (o : List Int) (i : Int) (B : List (Nat × Obj)) : Int → Value → List UInt8 → Int → List Int → List (Nat × Obj) → Prop := fun n u t' j o' D => t' = t ∧ o' = o ∧ ae9 R t i B D j n u
abbrev KE (R : adv → Prop) (t : List UInt8) : Value → List UInt8 → Int → List Int → List (Nat × Obj) → Prop := fun v t' _ _ _ => t' = t ∧ ∃ c p, v = n8 c p ∧ R (.error (c, p))
def an9 (s_0 : List UInt8) (s_1 : Int) (sl : List Int) (B : List (Nat × Obj)) (K : Int → Value → (List UInt8) → Int → (List Int) → (List (Nat × Obj)) → Prop) (KP : Value → (List UInt8) → Int → (List Int) → (List (Nat × Obj)) → Prop) : Prop :=
 (0 ≤ s_1) ∧
 (if (!decide (nx s_0 s_1 = 40)) = true then
  (s_0.length ≤ 9223372036854775807) ∧
  (if (!y5 [decide ((j7 s_0 s_1).2.2.1 = 0), decide ((j7 s_0 s_1).2.2.2 = 0), decide (([] : List UInt8) = [])]) = true then
   KP (Value.iface 26 (Value.agg [zI ((j7 s_0 s_1).2.2.1), zI ((j7 s_0 s_1).2.2.2), st []].toArray)) s_0 s_1 sl B
  else
   (∀ (sz : Int) (u : Value) (B_1' : List (Nat × Obj)), amr B B_1' (.cls ((j7 s_0 s_1).1)) sz u →
    (u.oneCell' = true) ∧
    K sz u s_0 ((j7 s_0 s_1).2.1) sl B_1'))
 else
  (if (decide (1000 ≤ (sl.length : Int))) = true then
   KP (n8 23 s_1) s_0 s_1 sl B
  else
   (((sl.length + 1) + (sl.length + 1) / 4 + 192) * 8 ≤ 281474976710656 ∧ sl.length + 1 ≤ 9223372036854775807) ∧
   (I64 (s_1 + 1)) ∧
   (af5 s_0 (s_1 + 1)) ∧
   (0 ≤ (s_1 + 1) ∧ (s_1 + 1) ≤ (s_0.length : Int) ∧ s_0.length ≤ 1048576 ∧ (sl ++ [s_1]).length ≤ 1000) ∧
   (∀ (sz_1' : Int) (u_1' : Value) (j : Int) (B_2' : List (Nat × Obj)), ae9 (PR s_0 .alt (sl ++ [s_1]).length (s_1 + 1)) s_0 (s_1 + 1) B B_2' j sz_1' u_1' →
    (u_1'.oneCell' = true) ∧
    (if (decide ((s_0.length : Int) ≤ j)) = true then
     (I64 (((sl ++ [s_1]).length : Int) - 1)) ∧
     (0 ≤ (((sl ++ [s_1]).length : Int) - 1) ∧ (((sl ++ [s_1]).length : Int) - 1) < ((sl ++ [s_1]).length : Int)) ∧
     KP (n8 21 ((sl ++ [s_1]).getD ((((sl ++ [s_1]).length : Int) - 1)).toNat default)) s_0 j (sl ++ [s_1]) B_2'
    else
     (I64 (j + 1)) ∧
     (I64 (((sl ++ [s_1]).length : Int) - 1)) ∧
     (0 ≤ (((sl ++ [s_1]).length : Int) - 1) ∧ (((sl ++ [s_1]).length : Int) - 1) ≤ ((sl ++ [s_1]).length : Int)) ∧
     (u_1'.oneCell' = true) ∧
     K sz_1' u_1' s_0 (j + 1) ((sl ++ [s_1]).take (((((sl ++ [s_1]).length : Int) - 1)).toNat)) B_2')) ∧
   (∀ (c : Int) (p : Int) (q : Int) (o_5' : List Int) (B_3' : List (Nat × Obj)), PR s_0 .alt (sl ++ [s_1]).length (s_1 + 1) (.error (c, p)) →
    KP (n8 c p) s_0 q o_5' B_3')))
theorem ayl (b : Nat) (w : Value) (te : TypeId) (fre : Nat × Nat) (s_0 : List UInt8) (s_1 : Int) (sl : List Int) (B : List (Nat × Obj)) (K : Int → Value → (List UInt8) → Int → (List Int) → (List (Nat × Obj)) → Prop) (KP : Value → (List UInt8) → Int → (List Int) → (List (Nat × Obj)) → Prop) (h : an9 s_0 s_1 sl B K KP) :
  c8 Tryd.prog 146 [zP b] [(1, .cells [zU 110, zU 10, zU 114, zU 13, zU 116, zU 9].toArray te fre)] [HA.blk b (.cells [st s_0, zI s_1, w].toArray 76 (0, 0)), HA.row w 3 1 sl.length (sl.flatMap q8), pool B] (fun o => (∃ (v_0 : Int) (v_1 : Value) (d_1' : List UInt8) (d_2' : Int) (w_4' : Value) (d : List Int) (D : List (Nat × Obj)), K v_0 v_1 d_1' d_2' d D ∧ o = .ret (Value.agg [zI v_0, v_1].toArray) [HA.blk b (.cells [st d_1', zI d_2', w_4'].toArray 76 (0, 0)), HA.row w_4' 3 1 d.length (d.flatMap q8), pool D]) ∨ (∃ (pv : Value) (d_1' : List UInt8) (d_2' : Int) (w_4' : Value) (d : List Int) (D : List (Nat × Obj)), KP pv d_1' d_2' d D ∧ o = .pan [{ v := pv, recovered := false }] [HA.blk b (.cells [st d_1', zI d_2', w_4'].toArray 76 (0, 0)), HA.row w_4' 3 1 d.length (d.flatMap q8), pool D])) := by
 unfold an9 at h
 refine c6 (n := 108) (L0 := [(0, zP b)]) Tryd.func146 rfl rfl rfl rfl (fun w0 M Q hE => ?_)
 refine a6 (fun _ hK => ?_)
 refine a4 ?_
 refine WL.make (MV.alloc p9) rfl rfl rfl (fun b_1' => ?_)
 refine WL.nil ?_
 refine kg (hK [(0, zP b), (2, zP b_1')] _ ?_)
 refine a6 (fun _ hK_1' => ?_)
 refine a6 (fun _ hK_2' => ?_)
 refine a4 ?_
 refine wm ?_
 obtain ⟨o, h⟩ := h
 refine WL.call (A := []) aap rfl (aaq b s_0 s_1 w o) rfl ⟨.inl ⟨1, rfl⟩, trivial⟩ rfl rfl ?_
 refine wv (OV.neq rfl rfl) ?_
 refine WL.nil ?_
 refine kg (hK_2' [(0, zP b), (2, zP b_1'), (9, zB (!decide (nx s_0 s_1 = 40)))] _ ?_)
 refine b5 (b := !decide (nx s_0 s_1 = 40)) rfl (fun hb => ?_) (fun hb => ?_)
 ·replace h := j4 h hb
  refine a6 (fun _ hK_3' => ?_)
  refine asm [(13, .cells (wl cs0).toArray 84 (0, 0)), (14, .cells [zI 0, zI 0, st []].toArray 26 (0, 0))] [(15, 13, .cells (wl ((j7 s_0 s_1).1)).toArray 84 (0, 0)), (17, 14, .cells [zI ((j7 s_0 s_1).2.2.1), zI ((j7 s_0 s_1).2.2.2), st []].toArray 26 (0, 0))] f0 (by kernel_rfl) rfl rfl (fun T hT => ?_)
  refine FS.val (fun _ => OV.move rfl) rfl rfl (fun _ => rfl) rfl rfl ?_
  refine FS.val (fun _ => OV.nilCheck rfl) rfl rfl (fun _ => rfl) rfl rfl ?_
  refine FS.val (fun _ => OV.fieldAddr0 rfl acq) rfl rfl (fun _ => rfl) rfl rfl ?_
  refine FS.val (fun _ => OV.load rfl (At.own 1 rfl) rfl aa3) rfl rfl (fun _ => rfl) rfl rfl ?_
  refine FS.val (fun _ => OV.move rfl) rfl rfl (fun _ => rfl) rfl rfl ?_
  refine FS.val (fun _ => OV.nilCheck rfl) rfl rfl (fun _ => rfl) rfl rfl ?_
  refine FS.val (fun _ => OV.fieldAddr0 rfl d9) rfl rfl (fun _ => rfl) rfl rfl ?_
  refine FS.val (fun _ => OV.load rfl (At.own 1 rfl) rfl a7) rfl rfl (fun _ => rfl) rfl rfl ?_
  obtain ⟨o_1', h⟩ := h
  refine FS.call aq6 (fun _ => rfl) (avq te fre s_0 s_1 o_1') ⟨.inr (List.mem_of_getElem? (i := 0) rfl), trivial⟩ rfl rfl (fun _ => rfl) rfl ?_
  refine FS.val (fun _ => OV.move rfl) rfl rfl (fun _ => rfl) rfl rfl ?_
  refine FS.val (fun _ => OV.extract 0 rfl rfl) rfl rfl (fun _ => rfl) rfl rfl ?_
  refine FS.val (fun _ => OV.extract 1 rfl rfl) rfl rfl (fun _ => rfl) rfl rfl ?_
  refine FS.val (fun _ => OV.extract 2 rfl rfl) rfl rfl (fun _ => rfl) rfl rfl ?_
  refine FS.make (fun _ => MV.alloc adj) rfl rfl (fun _ => rfl) rfl rfl ?_
  refine FS.make (fun _ => MV.alloc ach) rfl rfl (fun _ => rfl) rfl rfl ?_
  refine FS.storeW (cs := wl cs0) (vs := wl ((j7 s_0 s_1).1)) (n := 4) (fun _ => rfl) (fun _ => rfl) rfl rfl rfl rfl rfl rfl aad rfl rfl (fun _ => rfl) ?_
  refine FS.val (fun _ => OV.assign rfl) rfl rfl (fun _ => rfl) rfl rfl ?_
  refine FS.storeW (cs := [zI 0, zI 0, st []]) (vs := [zI ((j7 s_0 s_1).2.2.1), zI ((j7 s_0 s_1).2.2.2), st []]) (n := 3) (fun _ => rfl) (fun _ => rfl) rfl rfl rfl rfl rfl rfl aac rfl rfl (fun _ => rfl) ?_
  refine FS.weak (L' := fun γ => [(0, zP b), (2, zP b_1'), (3, Value.pointer (some ⟨(γ 13), 0, none⟩)), (4, zI ((j7 s_0 s_1).2.1)), (5, Value.pointer (some ⟨(γ 14), 0, none⟩))]) (fun γ => ⟨rfl, rfl, rfl, rfl, rfl, trivial⟩) (FS.nil (hT (fun γ => [(0, zP b), (2, zP b_1'), (3, Value.pointer (some ⟨(γ 13), 0, none⟩)), (4, zI ((j7 s_0 s_1).2.1)), (5, Value.pointer (some ⟨(γ 14), 0, none⟩))]) (fun γ => ?_)))
  show QX _ _ _ [(0, zP b), (2, zP b_1'), (3, Value.pointer (some ⟨(γ 13), 0, none⟩)), (4, zI ((j7 s_0 s_1).2.1)), (5, Value.pointer (some ⟨(γ 14), 0, none⟩))] [HA.blk (γ 13) (.cells (wl ((j7 s_0 s_1).1)).toArray 84 (0, 0)), HA.blk (γ 14) (.cells [zI ((j7 s_0 s_1).2.2.1), zI ((j7 s_0 s_1).2.2.2), st []].toArray 26 (0, 0)), HA.blk b_1' (.cells [zI 0, Value.nilFunc].toArray 79 (0, 0)), HA.blk b (.cells [st s_0, zI s_1, w].toArray 76 (0, 0)), HA.row w 3 1 sl.length (sl.flatMap q8), pool B]
  generalize γ 13 = b_2'
  generalize γ 14 = b_3'
  refine kg (hK_3' [(0, zP b), (2, zP b_1'), (3, zP b_2'), (4, zI ((j7 s_0 s_1).2.1)), (5, zP b_3')] _ ?_)
  refine a6 (fun _ hK_4' => ?_)
  refine a6 (fun _ hK_5' => ?_)
  refine a4 ?_
  refine wv (OV.loadR rfl (At.own 1 rfl) aaa) ?_
  refine wv (OV.build rfl (cs := [zI 0, zI 0, st []]) rfl) ?_
  refine wv (OV.neqF (rs := [decide ((j7 s_0 s_1).2.2.1 = 0), decide ((j7 s_0 s_1).2.2.2 = 0), decide (([] : List UInt8) = [])]) rfl rfl Tryd.underlying26 afh aij ⟨rfl, ag0, ⟨_, _, rfl, rfl, abp.int Tryd.underlying24⟩, ⟨rfl, a7, ⟨_, _, rfl, rfl, abp.int Tryd.underlying3⟩, ⟨rfl, aa3, ⟨_, _, rfl, rfl, abp.str Tryd.underlying9⟩, trivial⟩⟩⟩) ?_
  refine WL.nil ?_
  refine kg (hK_5' [(0, zP b), (2, zP b_1'), (3, zP b_2'), (4, zI ((j7 s_0 s_1).2.1)), (5, zP b_3'), (25, zB (!y5 [decide ((j7 s_0 s_1).2.2.1 = 0), decide ((j7 s_0 s_1).2.2.2 = 0), decide (([] : List UInt8) = [])]))] _ ?_)
  refine b5 (b := !y5 [decide ((j7 s_0 s_1).2.2.1 = 0), decide ((j7 s_0 s_1).2.2.2 = 0), decide (([] : List UInt8) = [])]) rfl (fun hb => ?_) (fun hb => ?_)
  ·replace h := j4 h hb
   refine a4 ?_
   refine wv (OV.loadR rfl (At.own 1 rfl) aaa) ?_
   refine wv (OV.iface rfl ag9) ?_
   refine WL.panic rfl rfl ?_
   exact hE.pan [3, 4, 5] rfl rfl (.inr ⟨_, _, _, _, _, _, h, rfl⟩)
  ·replace h := i9 h hb
   refine b7 ?_
   refine kg (hK_4' [(0, zP b), (2, zP b_1'), (3, zP b_2'), (4, zI ((j7 s_0 s_1).2.1))] _ ?_)
   refine a6 (fun _ hK_6' => ?_)
   refine a4 ?_
   refine wm ?_
   refine wm ?_
   refine wv (OV.nilCheck rfl) ?_
   refine wv (OV.fieldAddr0 rfl d9) ?_
   refine WL.store (vs := [zI ((j7 s_0 s_1).2.1)]) (cs' := [st s_0, zI ((j7 s_0 s_1).2.1), w]) 3 rfl rfl rfl rfl g9 (Nat.le_of_ble_eq_true rfl) rfl rfl rfl ?_
   refine WL.nil ?_
   refine kg (hK_6' [(2, zP b_1'), (3, zP b_2')] _ ?_)
   refine a6 (fun _ hK_7' => ?_)
   refine a4 ?_
   refine wv (OV.loadR rfl (At.own 0 rfl) y3) ?_
   refine wv (OV.build rfl (cs := wl ((j7 s_0 s_1).1)) rfl) ?_
   refine wv (OV.cast (OV.iface rfl alf) (v' := Tr.val (.cls ((j7 s_0 s_1).1))) rfl) ?_
   refine WL.pick (H' := [pool B, HA.blk b_2' (.cells (wl ((j7 s_0 s_1).1)).toArray 84 (0, 0)), HA.blk b_3' (.cells [zI ((j7 s_0 s_1).2.2.1), zI ((j7 s_0 s_1).2.2.2), st []].toArray 26 (0, 0)), HA.blk b_1' (.cells [zI 0, Value.nilFunc].toArray 79 (0, 0)), HA.blk b (.cells [st s_0, zI ((j7 s_0 s_1).2.1), w].toArray 76 (0, 0)), HA.row w 3 1 sl.length (sl.flatMap q8)]) [5, 0, 1, 2, 3, 4] rfl rfl ?_
   refine WL.callS aex rfl (agd (.cls ((j7 s_0 s_1).1)) B) rfl trivial rfl rfl (fun r H' hS => ?_) (fun c H' hS => ?_)
   ·obtain ⟨sz, u, B_1', hc, ho⟩ := hS
    cases ho
    replace h := h sz u B_1' hc
    obtain ⟨o_2', h⟩ := h
    refine WL.storeW (vs := [zI sz, u]) 3 rfl rfl rfl rfl rfl j6 rfl (c9 rfl (c9 o_2' m6)) rfl ?_
    refine WL.nil ?_
    refine kg (hK_7' [(2, zP b_1')] _ ?_)
    refine b9 ?_
    exact hE.ret [4, 5, 0] rfl rfl (.inl ⟨_, _, _, _, _, _, _, h, rfl⟩) (d8.of1 rfl (RV.row rfl (At.own 3 rfl) i8))
   ·obtain ⟨sz, u, B_1', hc, ho⟩ := hS
    cases ho
 ·replace h := i9 h hb
  refine b7 ?_
  refine kg (hK_1' [(0, zP b), (2, zP b_1')] _ ?_)
  refine a6 (fun _ hK_8' => ?_)
  refine a6 (fun _ hK_9' => ?_)
  refine a4 ?_
  refine wm ?_
  refine wv (OV.nilCheck rfl) ?_
  refine wv (OV.fieldAddr0 rfl z8) ?_
  refine wv (OV.load rfl (At.own 1 rfl) rfl acg) ?_
  refine wv (OV.lenRow 2 rfl rfl y9) ?_
  refine wv (OV.geq rfl rfl) ?_
  refine WL.nil ?_
  refine kg (hK_9' [(0, zP b), (2, zP b_1'), (41, zB (decide (1000 ≤ (sl.length : Int))))] _ ?_)
  refine b5 (b := decide (1000 ≤ (sl.length : Int))) rfl (fun hb => ?_) (fun hb => ?_)
  ·replace h := j4 h hb
   refine a4 ?_
   refine wm ?_
   refine wm ?_
   refine wv (OV.nilCheck rfl) ?_
   refine wv (OV.fieldAddr0 rfl d9) ?_
   refine wv (OV.load rfl (At.own 1 rfl) rfl a7) ?_
   refine WL.callS ace rfl (abx (zP b) 23 s_1) rfl trivial rfl rfl (fun r H' hS => by cases hS) (fun c H' hS => ?_)
   cases hS
   exact hE.pan [1, 2, 3] rfl rfl (.inr ⟨_, _, _, _, _, _, h, rfl⟩)
  ·replace h := i9 h hb
   refine b7 ?_
   refine kg (hK_8' [(0, zP b), (2, zP b_1')] _ ?_)
   refine a6 (fun _ hK_10' => ?_)
   refine x3 9 [0, 1, 3] [HA.blk b_1' (.cells [zI 0, Value.nilFunc].toArray 79 (0, 0)), HA.blk b (.cells [st s_0, zI s_1, w].toArray 76 (0, 0)), pool B] rfl rfl f0 (by kernel_rfl) (fun T_1' hT_1' => ?_)
   refine TW.val (OV.move rfl) rfl rfl rfl ?_
   refine TW.val (OV.move rfl) rfl rfl rfl ?_
   refine TW.val (OV.nilCheck rfl) rfl rfl rfl ?_
   refine TW.val (OV.fieldAddr0 rfl z8) rfl rfl rfl ?_
   refine TW.val (OV.load rfl (At.own 1 rfl) rfl acg) rfl rfl rfl ?_
   refine TW.val (OV.move rfl) rfl rfl rfl ?_
   refine TW.val (OV.nilCheck rfl) rfl rfl rfl ?_
   refine TW.val (OV.fieldAddr0 rfl d9) rfl rfl rfl ?_
   refine TW.val (OV.load rfl (At.own 1 rfl) rfl a7) rfl rfl rfl ?_
   refine TW.nil (hT_1' _ ?_)
   refine WLX.make (MV.buildSlice (cs := [zI s_1]) rfl y9 (by kernel_rfl)) [1, 2, 4] rfl (fun _ => rfl) rfl rfl rfl (fun b_4' => ?_)
   obtain ⟨o_3', h⟩ := h
   refine WLX.valX (ab2 (f := q8) (ms := [s_1]) 3 0 rfl rfl rfl rfl rfl rfl aaw (by decide) rfl y9 am5 rfl o_3') [1, 2, 4] rfl (fun _ _ e => by cases e; rfl) rfl rfl rfl (fun w_1' _ e => ?_)
   cases e
   refine WLX.op [1, 2, 4] rfl rfl (OpK.val (OV.nilCheck rfl) rfl rfl) rfl ?_
   refine WLX.op [1, 2, 4] rfl rfl (OpK.val (OV.fieldAddr0 rfl z8) rfl rfl) rfl ?_
   refine WLX.opZ (OpK.storeSl (cs' := [st s_0, zI s_1, w_1']) 2 3 rfl rfl rfl rfl aly (Nat.le_of_ble_eq_true rfl) rfl) rfl ?_
   refine WLX.nil ?_
   refine kg (hK_10' [(0, zP b), (2, zP b_1')] _ ?_)
   refine a6 (fun _ hK_11' => ?_)
   refine a4 ?_
   refine wm ?_
   refine wv (OV.nilCheck rfl) ?_
   refine wv (OV.fieldAddr0 rfl d9) ?_
   refine wv (OV.load rfl (At.own 2 rfl) rfl a7) ?_
   obtain ⟨o_4', h⟩ := h
   refine wv (OV.add rfl rfl o_4') ?_
   refine wv (OV.nilCheck rfl) ?_
   refine wv (OV.fieldAddr0 rfl d9) ?_
   refine WL.store (vs := [zI (s_1 + 1)]) (cs' := [st s_0, zI (s_1 + 1), w_1']) 2 rfl rfl rfl rfl g9 (Nat.le_of_ble_eq_true rfl) rfl rfl rfl ?_
   refine WL.nil ?_
   refine kg (hK_11' [(0, zP b), (2, zP b_1')] _ ?_)
   refine a6 (fun _ hK_12' => ?_)
   refine a4 ?_
   refine wm ?_
   obtain ⟨o_6', h⟩ := h
   obtain ⟨o_7', h⟩ := h
   refine WL.pick (H' := [HA.blk b (.cells [st s_0, zI (s_1 + 1), w_1'].toArray 76 (0, 0)), HA.row w_1' 3 1 (sl ++ [s_1]).length ((sl ++ [s_1]).flatMap q8), pool B, HA.blk b_4' (.cells [zI s_1].toArray 3 (0, 0)), HA.blk b_1' (.cells [zI 0, Value.nilFunc].toArray 79 (0, 0))]) [2, 3, 4, 0, 1] rfl rfl ?_
   refine WL.callS am7 rfl (o_6' b te fre w_1' (sl ++ [s_1]) B o_7') rfl ⟨.inr (List.mem_of_getElem? (i := 0) rfl), trivial⟩ rfl rfl (fun r H' hS => ?_) (fun c H' hS => ?_)
   ·rcases hS with ⟨sz_1', u_1', j, w_2', B_2', hc, ho⟩ | ⟨c, p, q, w_3', o_5', B_3', hc, ho⟩ <;> cases ho
    replace h := h.1 sz_1' u_1' j B_2' hc
    refine WL.make (MV.alloc p9) rfl rfl rfl (fun b_5' => ?_)
    obtain ⟨o_8', h⟩ := h
    refine WL.storeW (vs := [zI sz_1', u_1']) 0 rfl rfl rfl rfl rfl j6 rfl (c9 rfl (c9 o_8' m6)) rfl ?_
    refine WL.nil ?_
    refine kg (hK_12' [(0, zP b), (2, zP b_1'), (6, zP b_5')] _ ?_)
    refine a6 (fun _ hK_13' => ?_)
    refine a6 (fun _ hK_14' => ?_)
    refine a4 ?_
    refine wm ?_
    refine WL.call (A := []) aa2 rfl (aal b s_0 j w_2') rfl ⟨.inl ⟨1, rfl⟩, trivial⟩ rfl rfl ?_
    refine WL.nil ?_
    refine kg (hK_14' [(0, zP b), (2, zP b_1'), (6, zP b_5'), (71, zB (decide ((s_0.length : Int) ≤ j)))] _ ?_)
    refine b5 (b := decide ((s_0.length : Int) ≤ j)) rfl (fun hb => ?_) (fun hb => ?_)
    ·replace h := j4 h hb
     refine n9 13 [] f0 (by kernel_rfl) rfl (fun T_2' hT_2' => ?_)
     refine fv (fun _ => OV.move rfl) ?_
     refine fv (fun _ => OV.move rfl) ?_
     refine fv (fun _ => OV.nilCheck rfl) ?_
     refine fv (fun _ => OV.fieldAddr0 rfl z8) ?_
     refine fv (fun _ => OV.load rfl (At.own 1 rfl) rfl acg) ?_
     refine fv (fun _ => OV.move rfl) ?_
     refine fv (fun _ => OV.nilCheck rfl) ?_
     refine fv (fun _ => OV.fieldAddr0 rfl z8) ?_
     refine fv (fun _ => OV.load rfl (At.own 1 rfl) rfl acg) ?_
     refine fv (fun _ => OV.lenRow 2 rfl rfl y9) ?_
     obtain ⟨o_9', h⟩ := h
     refine fv (fun _ => OV.sub rfl rfl o_9') ?_
     obtain ⟨o_10', h⟩ := h
     refine fv (fun _ => OV.indexRow 2 rfl rfl rfl y9 o_10') ?_
     refine fv (fun _ => OV.loadE1 (f := q8) 2 rfl rfl aaw (by omega) rfl a7) ?_
     refine FL.weak (L' := fun γ => [(0, zP b), (2, zP b_1'), (6, zP b_5'), (72, zP b), (84, zI ((sl ++ [s_1]).getD ((((sl ++ [s_1]).length : Int) - 1)).toNat default))]) (fun γ => ⟨rfl, rfl, rfl, rfl, rfl, trivial⟩) (FL.nil (hT_2' (fun γ => [(0, zP b), (2, zP b_1'), (6, zP b_5'), (72, zP b), (84, zI ((sl ++ [s_1]).getD ((((sl ++ [s_1]).length : Int) - 1)).toNat default))]) (fun γ => ?_)))
     refine WL.callS ace rfl (abx (zP b) 21 ((sl ++ [s_1]).getD ((((sl ++ [s_1]).length : Int) - 1)).toNat default)) rfl trivial rfl rfl (fun r H' hS => by cases hS) (fun c H' hS => ?_)
     cases hS
     exact hE.pan [1, 2, 3] rfl rfl (.inr ⟨_, _, _, _, _, _, h, rfl⟩)
    ·replace h := i9 h hb
     refine b7 ?_
     refine kg (hK_13' [(0, zP b), (2, zP b_1'), (6, zP b_5')] _ ?_)
     refine a6 (fun _ hK_15' => ?_)
     refine a4 ?_
     refine wm ?_
     refine wv (OV.nilCheck rfl) ?_
     refine wv (OV.fieldAddr0 rfl d9) ?_
     refine wv (OV.load rfl (At.own 1 rfl) rfl a7) ?_
     obtain ⟨o_11', h⟩ := h
     refine wv (OV.add rfl rfl o_11') ?_
     refine wv (OV.nilCheck rfl) ?_
     refine wv (OV.fieldAddr0 rfl d9) ?_
     refine WL.store (vs := [zI (j + 1)]) (cs' := [st s_0, zI (j + 1), w_2']) 1 rfl rfl rfl rfl g9 (Nat.le_of_ble_eq_true rfl) rfl rfl rfl ?_
     refine WL.nil ?_
     refine kg (hK_15' [(0, zP b), (2, zP b_1'), (6, zP b_5')] _ ?_)
     refine a6 (fun _ hK_16' => ?_)
     refine n9 12 [] f0 (by kernel_rfl) rfl (fun T_3' hT_3' => ?_)
     refine fv (fun _ => OV.move rfl) ?_
     refine fv (fun _ => OV.move rfl) ?_
     refine fv (fun _ => OV.nilCheck rfl) ?_
     refine fv (fun _ => OV.fieldAddr0 rfl z8) ?_
     refine fv (fun _ => OV.load rfl (At.own 1 rfl) rfl acg) ?_
     refine fv (fun _ => OV.move rfl) ?_
     refine fv (fun _ => OV.nilCheck rfl) ?_
     refine fv (fun _ => OV.fieldAddr0 rfl z8) ?_
     refine fv (fun _ => OV.load rfl (At.own 1 rfl) rfl acg) ?_
     refine fv (fun _ => OV.lenRow 2 rfl rfl y9) ?_
     obtain ⟨o_12', h⟩ := h
     refine fv (fun _ => OV.sub rfl rfl o_12') ?_
     obtain ⟨o_13', h⟩ := h
     refine fv (fun _ => OV.sliceTo 2 rfl rfl rfl y9 o_13') ?_
     refine FL.weak (L' := fun γ => [(2, zP b_1'), (6, zP b_5'), (93, zP b), (104, agh w_2' ((((sl ++ [s_1]).length : Int) - 1)).toNat)]) (fun γ => ⟨rfl, rfl, rfl, rfl, trivial⟩) (FL.nil (hT_3' (fun γ => [(2, zP b_1'), (6, zP b_5'), (93, zP b), (104, agh w_2' ((((sl ++ [s_1]).length : Int) - 1)).toNat)]) (fun γ => ?_)))
     refine wv (OV.nilCheck rfl) ?_
     refine wv (OV.fieldAddr0 rfl z8) ?_
     refine WL.shorter (m := ((((sl ++ [s_1]).length : Int) - 1)).toNat) 2 rfl aaw (by omega) ?_
     refine WL.storeSl (cs' := [st s_0, zI (j + 1), agh w_2' ((((sl ++ [s_1]).length : Int) - 1)).toNat]) 1 2 rfl rfl rfl rfl aly (Nat.le_of_ble_eq_true rfl) rfl rfl ?_
     refine WL.nil ?_
     refine kg (hK_16' [(2, zP b_1'), (6, zP b_5')] _ ?_)
     refine a6 (fun _ hK_17' => ?_)
     refine a4 ?_
     refine wv (OV.loadR rfl (At.own 0 rfl) i8) ?_
     obtain ⟨o_14', h⟩ := h
     refine WL.storeW (vs := [zI sz_1', u_1']) 5 rfl rfl rfl rfl rfl j6 rfl (c9 rfl (c9 o_14' m6)) rfl ?_
     refine WL.nil ?_
     refine kg (hK_17' [(2, zP b_1')] _ ?_)
     refine b9 ?_
     exact hE.ret [1, 2, 3] rfl rfl (.inl ⟨_, _, _, _, _, _, _, h, rfl⟩) (d8.of1 rfl (RV.row rfl (At.own 5 rfl) i8))
   ·rcases hS with ⟨sz_1', u_1', j, w_2', B_2', hc, ho⟩ | ⟨c, p, q, w_3', o_5', B_3', hc, ho⟩ <;> cases ho
    replace h := h.2 c p q o_5' B_3' hc
    exact hE.pan [0, 1, 2] rfl rfl (.inr ⟨_, _, _, _, _, _, h, rfl⟩)
theorem auk {t : List UInt8} {i : Int} (hA : af5 t (i + 1)) : ahk t i := by
 rintro b te fre w o B ⟨h0, h1, h2, h3⟩
 refine (ayl b w te fre t i o B (KR (AtR t o.length i) t o i B) (KE (AtR t o.length i) t) ?_).weak ?_
 ·unfold an9
  refine ⟨h0, ?_⟩
  by_cases hc : nx t i = 40
  ·rw [if_neg (by simpa using hc)]
   by_cases hn : 1000 ≤ (o.length : Int)
   ·rw [if_pos (by simpa using hn)]
    exact ⟨rfl, 23, i, rfl, .nest hc (by omega)⟩
   rw [if_neg (by simpa using hn)]
   have hl : (o ++ [i]).length = o.length + 1 := by simp
   refine ⟨⟨by omega, by omega⟩, by unfold I64; omega, hA, ⟨by omega, by omega, h2, by omega⟩, ?_, ?_⟩
   ·rintro n u j B2 ⟨g1, g2, g3, g4, x, g5, g6⟩
    rw [hl] at g5
    refine ⟨g2.2, ?_⟩
    by_cases he : (t.length : Int) ≤ j
    ·rw [if_pos (by simpa using he)]
     have hg : (o ++ [i]).getD ((((o ++ [i]).length : Int) - 1)).toNat default = i := by
      rw [hl, show (((o.length + 1 : Nat) : Int) - 1).toNat = o.length by omega]
      simp [List.getD_eq_getElem?_getD]
     rw [hg]
     exact ⟨by rw [hl]; unfold I64; omega, ⟨by rw [hl]; omega, by omega⟩, rfl, 21, i, rfl, .parO hc (by omega) g5 (by omega)⟩
    ·rw [if_neg (by simpa using he)]
     have hg : (o ++ [i]).take ((((o ++ [i]).length : Int) - 1)).toNat = o := by
      rw [hl, show (((o.length + 1 : Nat) : Int) - 1).toNat = o.length by omega]
      simp
     rw [hg]
     exact ⟨by unfold I64; omega, by rw [hl]; unfold I64; omega, ⟨by rw [hl]; omega, by omega⟩, g2.2, rfl, rfl, g1, g2, by omega, by omega, x, .par hc (by omega) g5 (by omega), g6⟩
   ·intro c p q o2 B3 hE
    rw [hl] at hE
    exact ⟨rfl, c, p, rfl, .parE hc (by omega) hE⟩
  ·rw [if_pos (by simpa using hc)]
   refine ⟨by omega, ?_⟩
   rcases hm : j7 t i with ⟨s, k, e, p⟩
   by_cases hz : e = 0 ∧ p = 0
   ·rw [if_neg (by simp [y5, hz])]
    obtain ⟨rfl, rfl⟩ := hz
    have := afe hm h0
    rintro n u B1 ⟨g1, g2, g3⟩
    exact ⟨g2.2, rfl, rfl, g1, g2, by show i ≤ k; omega, this.2, .cls s, .set hc hm, g3 rfl⟩
   ·rw [if_pos (by simp [y5]; omega)]
    exact ⟨rfl, e, p, rfl, .setE hc hm hz⟩
 ·rintro out (⟨n, u, t', j, w', o', D, ⟨rfl, rfl, hR⟩, rfl⟩ | ⟨v, t', q, w', o', D, ⟨rfl, c, p, rfl, hR⟩, rfl⟩)
  ·exact .inl ⟨n, u, j, w', D, hR, rfl⟩
  ·exact .inr ⟨c, p, q, w', o', D, hR, rfl⟩
def ash (s_0 : List UInt8) (s_1 : Int) (sl : List Int) (B : List (Nat × Obj)) (K : Int → Value → (List UInt8) → Int → (List Int) → (List (Nat × Obj)) → Prop) (KP : Value → (List UInt8) → Int → (List Int) → (List (Nat × Obj)) → Prop) : Prop :=
 (∀ (sz : Int) (u : Value) (B_1' : List (Nat × Obj)), amr B B_1' .eps sz u →
  (u.oneCell' = true) ∧
  ∃ (Inv : Bool → Int → Value → (List (Nat × Obj)) → Int → Prop) (mu : Bool → Int → Value → (List (Nat × Obj)) → Int → Nat),
   Inv false sz u B_1' s_1 ∧ ∀ (any_1' : Bool) (out_0_1' : Int) (out_1_1' : Value) (c_6' : List (Nat × Obj)) (s_1_2' : Int), Inv any_1' out_0_1' out_1_1' c_6' s_1_2' →
    (if (!(decide ((s_0.length : Int) ≤ s_1_2'))) = true then
     (0 ≤ s_1_2') ∧
     ∃ (J0_6' : Bool → Prop),
      (∀ (t14_2' : Bool), J0_6' t14_2' →
       (if t14_2' = true then
        (out_1_1'.oneCell' = true) ∧
        K out_0_1' out_1_1' s_0 s_1_2' sl c_6'
       else
        ∃ (J0_7' : Bool → Prop),
         (∀ (t20_2' : Bool), J0_7' t20_2' →
          (if t20_2' = true then
           KP (n8 20 s_1_2') s_0 s_1_2' sl c_6'
          else
           (ahk s_0 s_1_2') ∧
           (0 ≤ s_1_2' ∧ s_1_2' < (s_0.length : Int) ∧ s_0.length ≤ 1048576 ∧ sl.length ≤ 1000) ∧
           (∀ (sz_7' : Int) (u_7' : Value) (j_4' : Int) (B_12' : List (Nat × Obj)), ae9 (AtR s_0 sl.length s_1_2') s_0 s_1_2' c_6' B_12' j_4' sz_7' u_7' →
            (0 ≤ j_4' ∧ j_4' ≤ (s_0.length : Int) ∧ s_0.length ≤ 1048576 ∧ abb sz_7' u_7') ∧
            (∀ (sz_8' : Int) (u_8' : Value) (j_5' : Int) (B_14' : List (Nat × Obj)), ay7 s_0 j_4' B_12' B_14' sz_7' u_7' j_5' sz_8' u_8' →
             (u_8'.oneCell' = true) ∧
             ∃ (J0_8' : (List (Nat × Obj)) → Int → Value → Prop),
              (∀ (c_9' : List (Nat × Obj)) (piece_0_1' : Int) (piece_1_1' : Value), J0_8' c_9' piece_0_1' piece_1_1' →
               (piece_1_1'.oneCell' = true) ∧
               Inv true piece_0_1' piece_1_1' c_9' j_5' ∧ mu true piece_0_1' piece_1_1' c_9' j_5' < mu any_1' out_0_1' out_1_1' c_6' s_1_2') ∧
              (if any_1' = true then
               (w9 out_0_1' ∧ w9 sz_8') ∧
               (∀ (sz_10' : Int) (u_10' : Value) (B_17' : List (Nat × Obj)), aff Tr.cat B_14' B_17' out_0_1' out_1_1' sz_8' u_8' sz_10' u_10' →
                (u_10'.oneCell' = true) ∧
                J0_8' B_17' sz_10' u_10')
              else
               J0_8' B_14' sz_8' u_8')) ∧
            (∀ (c_8' : Int) (p_5' : Int) (q_5' : Int) (B_15' : List (Nat × Obj)), ay9 s_0 j_4' B_12' sz_7' u_7' c_8' p_5' →
             KP (n8 c_8' p_5') s_0 q_5' sl B_15')) ∧
           (∀ (c_7' : Int) (p_4' : Int) (q_4' : Int) (o_23' : List Int) (B_13' : List (Nat × Obj)), AtR s_0 sl.length s_1_2' (.error (c_7', p_4')) →
            KP (n8 c_7' p_4') s_0 q_4' o_23' B_13'))) ∧
         (if (decide (nx s_0 s_1_2' = 42)) = true then
          J0_7' (decide (nx s_0 s_1_2' = 42))
         else
          (if (decide (nx s_0 s_1_2' = 43)) = true then
           J0_7' (decide (nx s_0 s_1_2' = 43))
          else
           (if (decide (nx s_0 s_1_2' = 63)) = true then
            J0_7' (decide (nx s_0 s_1_2' = 63))
           else
            J0_7' (decide (nx s_0 s_1_2' = 123))))))) ∧
      (if (decide (nx s_0 s_1_2' = 124)) = true then
       J0_6' (decide (nx s_0 s_1_2' = 124))
      else
       (if (decide (nx s_0 s_1_2' = 38)) = true then
        J0_6' (decide (nx s_0 s_1_2' = 38))
       else
        (if (decide (nx s_0 s_1_2' = 45)) = true then
         J0_6' (decide (nx s_0 s_1_2' = 45))
        else
         J0_6' (decide (nx s_0 s_1_2' = 41)))))
    else
     (out_1_1'.oneCell' = true) ∧
     K out_0_1' out_1_1' s_0 s_1_2' sl c_6'))
theorem ay2 (b : Nat) (w : Value) (te : TypeId) (fre : Nat × Nat) (s_0 : List UInt8) (s_1 : Int) (sl : List Int) (B : List (Nat × Obj)) (K : Int → Value → (List UInt8) → Int → (List Int) → (List (Nat × Obj)) → Prop) (KP : Value → (List UInt8) → Int → (List Int) → (List (Nat × Obj)) → Prop) (h : ash s_0 s_1 sl B K KP) :
  c8 Tryd.prog 113 [zP b] [(1, .cells [zU 110, zU 10, zU 114, zU 13, zU 116, zU 9].toArray te fre)] [HA.blk b (.cells [st s_0, zI s_1, w].toArray 76 (0, 0)), HA.row w 3 1 sl.length (sl.flatMap q8), pool B] (fun o => (∃ (v_0 : Int) (v_1 : Value) (d_1' : List UInt8) (d_2' : Int) (w_9' : Value) (d : List Int) (D : List (Nat × Obj)), K v_0 v_1 d_1' d_2' d D ∧ o = .ret (Value.agg [zI v_0, v_1].toArray) [HA.blk b (.cells [st d_1', zI d_2', w_9'].toArray 76 (0, 0)), HA.row w_9' 3 1 d.length (d.flatMap q8), pool D]) ∨ (∃ (pv : Value) (d_1' : List UInt8) (d_2' : Int) (w_9' : Value) (d : List Int) (D : List (Nat × Obj)), KP pv d_1' d_2' d D ∧ o = .pan [{ v := pv, recovered := false }] [HA.blk b (.cells [st d_1', zI d_2', w_9'].toArray 76 (0, 0)), HA.row w_9' 3 1 d.length (d.flatMap q8), pool D])) := by
 unfold ash at h
 refine c6 (n := 41) (L0 := [(0, zP b)]) Tryd.func113 rfl rfl rfl rfl (fun w0 M Q hE => ?_)
 refine a6 (fun _ hK => ?_)
 refine a4 ?_
 refine WL.make (MV.alloc p9) rfl rfl rfl (fun b_1' => ?_)
 refine WL.nil ?_
 refine kg (hK [(0, zP b), (2, zP b_1')] _ ?_)
 refine a6 (fun _ hK_1' => ?_)
 refine a4 ?_
 refine wv (OV.build rfl (cs := []) rfl) ?_
 refine wv (OV.cast (OV.iface rfl agr) (v' := Tr.val .eps) rfl) ?_
 refine WL.pick (H' := [pool B, HA.blk b_1' (.cells [zI 0, Value.nilFunc].toArray 79 (0, 0)), HA.blk b (.cells [st s_0, zI s_1, w].toArray 76 (0, 0)), HA.row w 3 1 sl.length (sl.flatMap q8)]) [3, 0, 1, 2] rfl rfl ?_
 refine WL.callS aex rfl (agd .eps B) rfl trivial rfl rfl (fun r H' hS => ?_) (fun c H' hS => ?_)
 ·obtain ⟨sz, u, B_1', hc, ho⟩ := hS
  cases ho
  replace h := h sz u B_1' hc
  refine WL.make (MV.alloc p9) rfl rfl rfl (fun b_2' => ?_)
  obtain ⟨o, h⟩ := h
  refine WL.storeW (vs := [zI sz, u]) 0 rfl rfl rfl rfl rfl j6 rfl (c9 rfl (c9 o m6)) rfl ?_
  refine wa ?_
  refine WL.nil ?_
  refine kg (hK_1' [(0, zP b), (2, zP b_1'), (3, zP b_2'), (4, zB false)] _ ?_)
  refine a6 (fun _ hK_2' => ?_)
  refine g8 ?_
  obtain ⟨Inv, mu, h0, hr⟩ := h
  refine aaj (S := Bool × Int × Value × (List (Nat × Obj)) × Int × Value) (fun σ => Inv σ.1 σ.2.1 σ.2.2.1 σ.2.2.2.1 σ.2.2.2.2.1) (fun σ => mu σ.1 σ.2.1 σ.2.2.1 σ.2.2.2.1 σ.2.2.2.2.1) (fun σ => [(0, zP b), (2, zP b_1'), (3, zP b_2'), (4, zB σ.1)]) (fun σ => [HA.blk b_2' (.cells [zI σ.2.1, σ.2.2.1].toArray 79 (0, 0)), pool σ.2.2.2.1, HA.blk b_1' (.cells [zI 0, Value.nilFunc].toArray 79 (0, 0)), HA.blk b (.cells [st s_0, zI σ.2.2.2.2.1, σ.2.2.2.2.2].toArray 76 (0, 0)), HA.row σ.2.2.2.2.2 3 1 sl.length (sl.flatMap q8)]) (false, sz, u, B_1', s_1, w) h0 ⟨rfl, rfl, rfl, rfl, trivial⟩ rfl ?_
  rintro ⟨any_1', out_0_1', out_1_1', c_6', s_1_2', w_6'⟩ hi K0_49' hK_49'
  have h := hr any_1' out_0_1' out_1_1' c_6' s_1_2' hi
  show WC _ _ _ _ [(0, zP b), (2, zP b_1'), (3, zP b_2'), (4, zB any_1')] [HA.blk b_2' (.cells [zI out_0_1', out_1_1'].toArray 79 (0, 0)), pool c_6', HA.blk b_1' (.cells [zI 0, Value.nilFunc].toArray 79 (0, 0)), HA.blk b (.cells [st s_0, zI s_1_2', w_6'].toArray 76 (0, 0)), HA.row w_6' 3 1 sl.length (sl.flatMap q8)]
  refine a6 (fun _ hK_50' => ?_)
  refine a6 (fun _ hK_51' => ?_)
  refine a4 ?_
  refine wm ?_
  refine WL.call (A := []) aa2 rfl (aal b s_0 s_1_2' w_6') rfl ⟨.inl ⟨3, rfl⟩, trivial⟩ rfl rfl ?_
  refine wv (OV.not rfl) ?_
  refine WL.nil ?_
  refine kg (hK_51' [(0, zP b), (2, zP b_1'), (3, zP b_2'), (4, zB any_1'), (11, zB (!(decide ((s_0.length : Int) ≤ s_1_2'))))] _ ?_)
  refine b5 (b := !(decide ((s_0.length : Int) ≤ s_1_2'))) rfl (fun hb => ?_) (fun hb => ?_)
  ·replace h := j4 h hb
   refine b7 ?_
   refine kg (hK_50' [(0, zP b), (2, zP b_1'), (3, zP b_2'), (4, zB any_1')] _ ?_)
   refine g8 ?_
   refine a6 (fun _ hK_52' => ?_)
   refine a6 (fun _ hK_53' => ?_)
   refine a4 ?_
   refine wm ?_
   obtain ⟨o_21', h⟩ := h
   refine WL.call (A := []) aap rfl (aaq b s_0 s_1_2' w_6' o_21') rfl ⟨.inl ⟨3, rfl⟩, trivial⟩ rfl rfl ?_
   refine WL.nil ?_
   refine kg (hK_53' [(0, zP b), (2, zP b_1'), (3, zP b_2'), (4, zB any_1'), (13, zU (nx s_0 s_1_2'))] _ ?_)
   refine g8 ?_
   obtain ⟨J0_6', hJ_6', h⟩ := h
   refine m7 (X := Bool) (fun σ => J0_6' σ) (fun σ => [(0, zP b), (2, zP b_1'), (3, zP b_2'), (4, zB any_1'), (13, zU (nx s_0 s_1_2')), (14, zB σ)]) (fun σ => [HA.blk b_2' (.cells [zI out_0_1', out_1_1'].toArray 79 (0, 0)), pool c_6', HA.blk b_1' (.cells [zI 0, Value.nilFunc].toArray 79 (0, 0)), HA.blk b (.cells [st s_0, zI s_1_2', w_6'].toArray 76 (0, 0)), HA.row w_6' 3 1 sl.length (sl.flatMap q8)]) ?_ (fun K0_57' hK_57' => ?_)
   ·rintro t14_2' hj
    replace h := hJ_6' t14_2' hj
    show WC _ _ _ _ [(0, zP b), (2, zP b_1'), (3, zP b_2'), (4, zB any_1'), (13, zU (nx s_0 s_1_2')), (14, zB t14_2')] [HA.blk b_2' (.cells [zI out_0_1', out_1_1'].toArray 79 (0, 0)), pool c_6', HA.blk b_1' (.cells [zI 0, Value.nilFunc].toArray 79 (0, 0)), HA.blk b (.cells [st s_0, zI s_1_2', w_6'].toArray 76 (0, 0)), HA.row w_6' 3 1 sl.length (sl.flatMap q8)]
    refine b5 (b := t14_2') rfl (fun hb => ?_) (fun hb => ?_)
    ·replace h := j4 h hb
     refine a6 (fun _ hK_58' => ?_)
     refine a4 ?_
     refine wv (OV.loadR rfl (At.own 0 rfl) i8) ?_
     obtain ⟨o_22', h⟩ := h
     refine WL.storeW (vs := [zI out_0_1', out_1_1']) 2 rfl rfl rfl rfl rfl j6 rfl (c9 rfl (c9 o_22' m6)) rfl ?_
     refine WL.nil ?_
     refine kg (hK_58' [(2, zP b_1')] _ ?_)
     refine b9 ?_
     exact hE.ret [3, 4, 1] rfl rfl (.inl ⟨_, _, _, _, _, _, _, h, rfl⟩) (d8.of1 rfl (RV.row rfl (At.own 2 rfl) i8))
    ·replace h := i9 h hb
     obtain ⟨J0_7', hJ_7', h⟩ := h
     refine m7 (X := Bool) (fun σ => J0_7' σ) (fun σ => [(0, zP b), (2, zP b_1'), (3, zP b_2'), (4, zB any_1'), (20, zB σ)]) (fun σ => [HA.blk b_2' (.cells [zI out_0_1', out_1_1'].toArray 79 (0, 0)), pool c_6', HA.blk b_1' (.cells [zI 0, Value.nilFunc].toArray 79 (0, 0)), HA.blk b (.cells [st s_0, zI s_1_2', w_6'].toArray 76 (0, 0)), HA.row w_6' 3 1 sl.length (sl.flatMap q8)]) ?_ (fun K0_62' hK_62' => ?_)
     ·rintro t20_2' hj
      replace h := hJ_7' t20_2' hj
      show WC _ _ _ _ [(0, zP b), (2, zP b_1'), (3, zP b_2'), (4, zB any_1'), (20, zB t20_2')] [HA.blk b_2' (.cells [zI out_0_1', out_1_1'].toArray 79 (0, 0)), pool c_6', HA.blk b_1' (.cells [zI 0, Value.nilFunc].toArray 79 (0, 0)), HA.blk b (.cells [st s_0, zI s_1_2', w_6'].toArray 76 (0, 0)), HA.row w_6' 3 1 sl.length (sl.flatMap q8)]
      refine b5 (b := t20_2') rfl (fun hb => ?_) (fun hb => ?_)
      ·replace h := j4 h hb
       refine a4 ?_
       refine wm ?_
       refine wm ?_
       refine wv (OV.nilCheck rfl) ?_
       refine wv (OV.fieldAddr0 rfl d9) ?_
       refine wv (OV.load rfl (At.own 3 rfl) rfl a7) ?_
       refine WL.callS ace rfl (abx (zP b) 20 s_1_2') rfl trivial rfl rfl (fun r H' hS => by cases hS) (fun c H' hS => ?_)
       cases hS
       exact hE.pan [3, 4, 1] rfl rfl (.inr ⟨_, _, _, _, _, _, h, rfl⟩)
      ·replace h := i9 h hb
       refine b7 ?_
       refine kg (hK_52' [(0, zP b), (2, zP b_1'), (3, zP b_2'), (4, zB any_1')] _ ?_)
       refine a6 (fun _ hK_63' => ?_)
       refine a4 ?_
       refine wm ?_
       refine wm ?_
       obtain ⟨o_24', h⟩ := h
       obtain ⟨o_25', h⟩ := h
       refine WL.pick (H' := [HA.blk b (.cells [st s_0, zI s_1_2', w_6'].toArray 76 (0, 0)), HA.row w_6' 3 1 sl.length (sl.flatMap q8), pool c_6', HA.blk b_2' (.cells [zI out_0_1', out_1_1'].toArray 79 (0, 0)), HA.blk b_1' (.cells [zI 0, Value.nilFunc].toArray 79 (0, 0))]) [3, 4, 1, 0, 2] rfl rfl ?_
       refine WL.callS ara rfl (o_24' b te fre w_6' sl c_6' o_25') rfl ⟨.inr (List.mem_of_getElem? (i := 0) rfl), trivial⟩ rfl rfl (fun r H' hS => ?_) (fun c H' hS => ?_)
       ·rcases hS with ⟨sz_7', u_7', j_4', w_7', B_12', hc, ho⟩ | ⟨c_7', p_4', q_4', w_8', o_23', B_13', hc, ho⟩ <;> cases ho
        replace h := h.1 sz_7' u_7' j_4' B_12' hc
        obtain ⟨o_26', h⟩ := h
        refine WL.pick (H' := [HA.blk b (.cells [st s_0, zI j_4', w_7'].toArray 76 (0, 0)), pool B_12', HA.row w_7' 3 1 sl.length (sl.flatMap q8), HA.blk b_2' (.cells [zI out_0_1', out_1_1'].toArray 79 (0, 0)), HA.blk b_1' (.cells [zI 0, Value.nilFunc].toArray 79 (0, 0))]) [0, 2, 1, 3, 4] rfl rfl ?_
        refine WL.callS aro rfl (aon b s_0 j_4' w_7' sz_7' u_7' B_12' o_26') rfl trivial rfl rfl (fun r H' hS => ?_) (fun c H' hS => ?_)
        ·rcases hS with ⟨sz_8', u_8', j_5', B_14', hc, ho⟩ | ⟨c_8', p_5', q_5', B_15', hc, ho⟩ <;> cases ho
         replace h := h.1 sz_8' u_8' j_5' B_14' hc
         refine WL.make (MV.alloc p9) rfl rfl rfl (fun b_5' => ?_)
         obtain ⟨o_27', h⟩ := h
         refine WL.storeW (vs := [zI sz_8', u_8']) 0 rfl rfl rfl rfl rfl j6 rfl (c9 rfl (c9 o_27' m6)) rfl ?_
         refine WL.nil ?_
         refine kg (hK_63' [(0, zP b), (2, zP b_1'), (3, zP b_2'), (4, zB any_1'), (5, zP b_5')] _ ?_)
         obtain ⟨J0_8', hJ_8', h⟩ := h
         refine m7 (X := (List (Nat × Obj)) × Int × Value) (fun σ => J0_8' σ.1 σ.2.1 σ.2.2) (fun σ => [(0, zP b), (2, zP b_1'), (3, zP b_2'), (5, zP b_5')]) (fun σ => [pool σ.1, HA.blk b_5' (.cells [zI σ.2.1, σ.2.2].toArray 79 (0, 0)), HA.blk b (.cells [st s_0, zI j_5', w_7'].toArray 76 (0, 0)), HA.row w_7' 3 1 sl.length (sl.flatMap q8), HA.blk b_2' (.cells [zI out_0_1', out_1_1'].toArray 79 (0, 0)), HA.blk b_1' (.cells [zI 0, Value.nilFunc].toArray 79 (0, 0))]) ?_ (fun K0_65' hK_65' => ?_)
         ·rintro ⟨c_9', piece_0_1', piece_1_1'⟩ hj
          replace h := hJ_8' c_9' piece_0_1' piece_1_1' hj
          show WC _ _ _ _ [(0, zP b), (2, zP b_1'), (3, zP b_2'), (5, zP b_5')] [pool c_9', HA.blk b_5' (.cells [zI piece_0_1', piece_1_1'].toArray 79 (0, 0)), HA.blk b (.cells [st s_0, zI j_5', w_7'].toArray 76 (0, 0)), HA.row w_7' 3 1 sl.length (sl.flatMap q8), HA.blk b_2' (.cells [zI out_0_1', out_1_1'].toArray 79 (0, 0)), HA.blk b_1' (.cells [zI 0, Value.nilFunc].toArray 79 (0, 0))]
          refine a4 ?_
          refine wv (OV.loadR rfl (At.own 1 rfl) i8) ?_
          obtain ⟨o_30', h⟩ := h
          refine WL.storeW (vs := [zI piece_0_1', piece_1_1']) 4 rfl rfl rfl rfl rfl j6 rfl (c9 rfl (c9 o_30' m6)) rfl ?_
          refine wa ?_
          refine WL.nil ?_
          exact kh (hK_49' (true, piece_0_1', piece_1_1', c_9', j_5', w_7') h.1 h.2) [4, 0, 5, 2, 3]
         ·skip
          refine a6 (fun _ hK_66' => ?_)
          refine a4 ?_
          refine wm ?_
          refine WL.nil ?_
          refine kg (hK_66' [(0, zP b), (2, zP b_1'), (3, zP b_2'), (5, zP b_5'), (35, zB any_1')] _ ?_)
          refine b5 (b := any_1') rfl (fun hb => ?_) (fun hb => ?_)
          ·replace h := j4 h hb
           refine a4 ?_
           refine wv (OV.loadR rfl (At.own 4 rfl) i8) ?_
           refine wv (OV.loadR rfl (At.own 0 rfl) i8) ?_
           obtain ⟨o_31', h⟩ := h
           refine WL.pick (H' := [pool B_14', HA.blk b_5' (.cells [zI sz_8', u_8'].toArray 79 (0, 0)), HA.blk b (.cells [st s_0, zI j_5', w_7'].toArray 76 (0, 0)), HA.row w_7' 3 1 sl.length (sl.flatMap q8), HA.blk b_2' (.cells [zI out_0_1', out_1_1'].toArray 79 (0, 0)), HA.blk b_1' (.cells [zI 0, Value.nilFunc].toArray 79 (0, 0))]) [2, 0, 1, 3, 4, 5] rfl rfl ?_
           refine WL.callS abf rfl (abe Tr.cat_op out_0_1' out_1_1' sz_8' u_8' B_14' o_31') rfl trivial rfl rfl (fun r H' hS => ?_) (fun c H' hS => ?_)
           ·obtain ⟨sz_10', u_10', B_17', hc, ho⟩ := hS
            cases ho
            replace h := h sz_10' u_10' B_17' hc
            obtain ⟨o_32', h⟩ := h
            refine WL.storeW (vs := [zI sz_10', u_10']) 1 rfl rfl rfl rfl rfl j6 rfl (c9 rfl (c9 o_32' m6)) rfl ?_
            refine WL.nil ?_
            exact kh (hK_65' (B_17', sz_10', u_10') h) [0, 1, 2, 3, 4, 5]
           ·obtain ⟨sz_10', u_10', B_17', hc, ho⟩ := hS
            cases ho
          ·replace h := i9 h hb
           refine b7 ?_
           exact kh (hK_65' (B_14', sz_8', u_8') h) [2, 0, 1, 3, 4, 5]
        ·rcases hS with ⟨sz_8', u_8', j_5', B_14', hc, ho⟩ | ⟨c_8', p_5', q_5', B_15', hc, ho⟩ <;> cases ho
         replace h := h.2 c_8' p_5' q_5' B_15' hc
         exact hE.pan [0, 2, 1] rfl rfl (.inr ⟨_, _, _, _, _, _, h, rfl⟩)
       ·rcases hS with ⟨sz_7', u_7', j_4', w_7', B_12', hc, ho⟩ | ⟨c_7', p_4', q_4', w_8', o_23', B_13', hc, ho⟩ <;> cases ho
        replace h := h.2 c_7' p_4' q_4' o_23' B_13' hc
        exact hE.pan [0, 1, 2] rfl rfl (.inr ⟨_, _, _, _, _, _, h, rfl⟩)
     ·skip
      refine a6 (fun _ hK_67' => ?_)
      refine a4 ?_
      refine wv (OV.eql rfl rfl) ?_
      refine wa ?_
      refine WL.nil ?_
      refine kg (hK_67' [(0, zP b), (2, zP b_1'), (3, zP b_2'), (4, zB any_1'), (13, zU (nx s_0 s_1_2')), (20, zB (decide (nx s_0 s_1_2' = 42)))] _ ?_)
      refine b5 (b := decide (nx s_0 s_1_2' = 42)) rfl (fun hb => ?_) (fun hb => ?_)
      ·replace h := j4 h hb
       refine b7 ?_
       exact kh (hK_62' (decide (nx s_0 s_1_2' = 42)) h) [0, 1, 2, 3, 4]
      ·replace h := i9 h hb
       refine a6 (fun _ hK_68' => ?_)
       refine a4 ?_
       refine wv (OV.eql rfl rfl) ?_
       refine wa ?_
       refine WL.nil ?_
       refine kg (hK_68' [(0, zP b), (2, zP b_1'), (3, zP b_2'), (4, zB any_1'), (13, zU (nx s_0 s_1_2')), (20, zB (decide (nx s_0 s_1_2' = 43)))] _ ?_)
       refine b5 (b := decide (nx s_0 s_1_2' = 43)) rfl (fun hb => ?_) (fun hb => ?_)
       ·replace h := j4 h hb
        refine b7 ?_
        exact kh (hK_62' (decide (nx s_0 s_1_2' = 43)) h) [0, 1, 2, 3, 4]
       ·replace h := i9 h hb
        refine a6 (fun _ hK_69' => ?_)
        refine a4 ?_
        refine wv (OV.eql rfl rfl) ?_
        refine wa ?_
        refine WL.nil ?_
        refine kg (hK_69' [(0, zP b), (2, zP b_1'), (3, zP b_2'), (4, zB any_1'), (13, zU (nx s_0 s_1_2')), (20, zB (decide (nx s_0 s_1_2' = 63)))] _ ?_)
        refine b5 (b := decide (nx s_0 s_1_2' = 63)) rfl (fun hb => ?_) (fun hb => ?_)
        ·replace h := j4 h hb
         refine b7 ?_
         exact kh (hK_62' (decide (nx s_0 s_1_2' = 63)) h) [0, 1, 2, 3, 4]
        ·replace h := i9 h hb
         refine a4 ?_
         refine wv (OV.eql rfl rfl) ?_
         refine wa ?_
         refine WL.nil ?_
         exact kh (hK_62' (decide (nx s_0 s_1_2' = 123)) h) [0, 1, 2, 3, 4]
   ·skip
    refine a6 (fun _ hK_70' => ?_)
    refine a4 ?_
    refine wv (OV.eql rfl rfl) ?_
    refine wa ?_
    refine WL.nil ?_
    refine kg (hK_70' [(0, zP b), (2, zP b_1'), (3, zP b_2'), (4, zB any_1'), (13, zU (nx s_0 s_1_2')), (14, zB (decide (nx s_0 s_1_2' = 124)))] _ ?_)
    refine b5 (b := decide (nx s_0 s_1_2' = 124)) rfl (fun hb => ?_) (fun hb => ?_)
    ·replace h := j4 h hb
     refine b7 ?_
     exact kh (hK_57' (decide (nx s_0 s_1_2' = 124)) h) [0, 1, 2, 3, 4]
    ·replace h := i9 h hb
     refine a6 (fun _ hK_71' => ?_)
     refine a4 ?_
     refine wv (OV.eql rfl rfl) ?_
     refine wa ?_
     refine WL.nil ?_
     refine kg (hK_71' [(0, zP b), (2, zP b_1'), (3, zP b_2'), (4, zB any_1'), (13, zU (nx s_0 s_1_2')), (14, zB (decide (nx s_0 s_1_2' = 38)))] _ ?_)
     refine b5 (b := decide (nx s_0 s_1_2' = 38)) rfl (fun hb => ?_) (fun hb => ?_)
     ·replace h := j4 h hb
      refine b7 ?_
      exact kh (hK_57' (decide (nx s_0 s_1_2' = 38)) h) [0, 1, 2, 3, 4]
     ·replace h := i9 h hb
      refine a6 (fun _ hK_72' => ?_)
      refine a4 ?_
      refine wv (OV.eql rfl rfl) ?_
      refine wa ?_
      refine WL.nil ?_
      refine kg (hK_72' [(0, zP b), (2, zP b_1'), (3, zP b_2'), (4, zB any_1'), (13, zU (nx s_0 s_1_2')), (14, zB (decide (nx s_0 s_1_2' = 45)))] _ ?_)
      refine b5 (b := decide (nx s_0 s_1_2' = 45)) rfl (fun hb => ?_) (fun hb => ?_)
      ·replace h := j4 h hb
       refine b7 ?_
       exact kh (hK_57' (decide (nx s_0 s_1_2' = 45)) h) [0, 1, 2, 3, 4]
      ·replace h := i9 h hb
       refine a4 ?_
       refine wv (OV.eql rfl rfl) ?_
       refine wa ?_
       refine WL.nil ?_
       exact kh (hK_57' (decide (nx s_0 s_1_2' = 41)) h) [0, 1, 2, 3, 4]
  ·replace h := i9 h hb
   refine t8 ?_
   refine kg (hK_2' [(2, zP b_1'), (3, zP b_2')] _ ?_)
   refine a6 (fun _ hK_73' => ?_)
   refine a4 ?_
   refine wv (OV.loadR rfl (At.own 0 rfl) i8) ?_
   obtain ⟨o_33', h⟩ := h
   refine WL.storeW (vs := [zI out_0_1', out_1_1']) 2 rfl rfl rfl rfl rfl j6 rfl (c9 rfl (c9 o_33' m6)) rfl ?_
   refine WL.nil ?_
   refine kg (hK_73' [(2, zP b_1')] _ ?_)
   refine b9 ?_
   exact hE.ret [3, 4, 1] rfl rfl (.inl ⟨_, _, _, _, _, _, _, h, rfl⟩) (d8.of1 rfl (RV.row rfl (At.own 2 rfl) i8))
 ·obtain ⟨sz, u, B_1', hc, ho⟩ := hS
  cases ho
theorem axh {t : List UInt8} {i : Int} (hA : ∀ j, i ≤ j → ahk t j) : af7 t i := by
 rintro b te fre w o B ⟨h0, h1, h2, h3⟩
 refine (ay2 b w te fre t i o B (KR (PR t (.row none) o.length i) t o i B) (KE (PR t (.row none) o.length i) t) ?_).weak ?_
 ·unfold ash
  rintro n0 u0 B0 ⟨g1, g2, g3⟩
  refine ⟨g2.2, fun any n u c j => acd B c ∧ abb n u ∧ i ≤ j ∧ j ≤ t.length ∧ ∃ acc : Option Tr, any = acc.isSome ∧ Is c n u (acc.getD .eps) ∧ ∀ r, PR t (.row acc) o.length j r → PR t (.row none) o.length i r,
   fun _ _ _ _ j => (t.length - j).toNat, ⟨g1, g2, by omega, by omega, none, rfl, g3 rfl, fun _ h => h⟩, ?_⟩
  rintro any n u c j ⟨i1, i2, i3, i4, acc, i5, i6, i7⟩
  have hstop : ¬ (j < t.length ∧ nx t j ≠ 124 ∧ nx t j ≠ 38 ∧ nx t j ≠ 45 ∧ nx t j ≠ 41) → ae9 (PR t (.row none) o.length i) t i B c j n u := fun hs => ⟨i1, i2, i3, i4, _, i7 _ (.rowZ hs), i6⟩
  by_cases hl : (t.length : Int) ≤ j
  ·rw [if_neg (by simpa using hl)]
   exact ⟨i2.2, rfl, rfl, hstop (by omega)⟩
  rw [if_pos (by simpa using hl)]
  refine ⟨by omega, fun q => q = decide (nx t j = 124 ∨ nx t j = 38 ∨ nx t j = 45 ∨ nx t j = 41), ?_, ?_⟩
  ·rintro q rfl
   by_cases hs : nx t j = 124 ∨ nx t j = 38 ∨ nx t j = 45 ∨ nx t j = 41
   ·rw [if_pos (by simpa using hs)]
    exact ⟨i2.2, rfl, rfl, hstop (by omega)⟩
   rw [if_neg (by simpa using hs)]
   refine ⟨fun q => q = decide (nx t j = 42 ∨ nx t j = 43 ∨ nx t j = 63 ∨ nx t j = 123), ?_, ?_⟩
   ·rintro q rfl
    by_cases hp : nx t j = 42 ∨ nx t j = 43 ∨ nx t j = 63 ∨ nx t j = 123
    ·rw [if_pos (by simpa using hp)]
     exact ⟨rfl, 20, j, rfl, i7 _ (.rowB (by omega) hp)⟩
    rw [if_neg (by simpa using hp)]
    have hf : ai4 t j := by unfold ai4; omega
    refine ⟨hA j i3, ⟨by omega, by omega, h2, h3⟩, ?_, fun c2 p2 q2 o2 B2 hE => ⟨rfl, c2, p2, rfl, i7 _ (hE.rowE (by omega) hf)⟩⟩
    rintro n2 u2 k B2 ⟨q1, q2, q3, q4, x, q5, q6⟩
    have hk := q5.ends (by omega) (by omega)
    refine ⟨⟨by omega, q4, h2, q2⟩, ?_, fun c2 p2 q2 B3 hE => ⟨rfl, c2, p2, rfl, i7 _ (q5.rowR (by omega) hf (hE x q6))⟩⟩
    rintro n3 u3 l B3 ⟨e1, e2, e3, e4, e5⟩
    obtain ⟨y, e6, e7⟩ := e5 x q6
    refine ⟨e2.2, fun c' n' u' => acd B c' ∧ abb n' u' ∧ Is c' n' u' ((ajk acc y).getD .eps), ?_, ?_⟩
    ·rintro c' n' u' ⟨f1, f2, f3⟩
     exact ⟨f2.2, ⟨f1, f2, by omega, by omega, ajk acc y, by cases acc <;> rfl, f3, fun r hr => i7 r (q5.row (by omega) hf e6 hr)⟩, by show (t.length - l).toNat < (t.length - j).toNat; omega⟩
    ·cases acc with
     | none =>
      rw [if_neg (by simp [i5])]
      exact ⟨(i1.trans q1).trans e1, e2, e7⟩
     | some z =>
      rw [if_pos (by simp [i5])]
      refine ⟨⟨i2.1, e2.1⟩, ?_⟩
      rintro n4 u4 B4 ⟨z1, z2, z3⟩
      exact ⟨z2.2, ((i1.trans q1).trans e1).trans z1, z2, z3 z y (i6.more (q1.trans e1)) e7⟩
   ·by_cases k1 : nx t j = 42 <;> by_cases k2 : nx t j = 43 <;> by_cases k3 : nx t j = 63 <;> by_cases k4 : nx t j = 123 <;> first | omega | simp [k1, k2, k3, k4]
  ·by_cases k1 : nx t j = 124 <;> by_cases k2 : nx t j = 38 <;> by_cases k3 : nx t j = 45 <;> by_cases k4 : nx t j = 41 <;> first | omega | simp [k1, k2, k3, k4]
 ·rintro out (⟨n, u, t', j, w', o', D, ⟨rfl, rfl, hR⟩, rfl⟩ | ⟨v, t', q, w', o', D, ⟨rfl, c, p, rfl, hR⟩, rfl⟩)
  ·exact .inl ⟨n, u, j, w', D, hR, rfl⟩
  ·exact .inr ⟨c, p, q, w', o', D, hR, rfl⟩
def aj1 (s_0 : List UInt8) (s_1 : Int) (sl : List Int) (B : List (Nat × Obj)) (K : Int → Value → (List UInt8) → Int → (List Int) → (List (Nat × Obj)) → Prop) (KP : Value → (List UInt8) → Int → (List Int) → (List (Nat × Obj)) → Prop) : Prop :=
 (af7 s_0 s_1) ∧
 (0 ≤ s_1 ∧ s_1 ≤ (s_0.length : Int) ∧ s_0.length ≤ 1048576 ∧ sl.length ≤ 1000) ∧
 (∀ (sz : Int) (u : Value) (j : Int) (B_1' : List (Nat × Obj)), ae9 (PR s_0 (.row none) sl.length s_1) s_0 s_1 B B_1' j sz u →
  (u.oneCell' = true) ∧
  ∃ (Inv : Int → Value → Int → (List (Nat × Obj)) → Prop) (mu : Int → Value → Int → (List (Nat × Obj)) → Nat),
   Inv sz u j B_1' ∧ ∀ (out_0_1' : Int) (out_1_1' : Value) (s_1_2' : Int) (c_6' : List (Nat × Obj)), Inv out_0_1' out_1_1' s_1_2' c_6' →
    (if (!(decide ((s_0.length : Int) ≤ s_1_2'))) = true then
     (0 ≤ s_1_2') ∧
     (if (decide (nx s_0 s_1_2' = 38)) = true then
      (I64 (s_1_2' + 1)) ∧
      (af7 s_0 (s_1_2' + 1)) ∧
      (0 ≤ (s_1_2' + 1) ∧ (s_1_2' + 1) ≤ (s_0.length : Int) ∧ s_0.length ≤ 1048576 ∧ sl.length ≤ 1000) ∧
      (∀ (sz_9' : Int) (u_9' : Value) (j_5' : Int) (B_15' : List (Nat × Obj)), ae9 (PR s_0 (.row none) sl.length (s_1_2' + 1)) s_0 (s_1_2' + 1) c_6' B_15' j_5' sz_9' u_9' →
       (w9 out_0_1' ∧ w9 sz_9') ∧
       (∀ (sz_10' : Int) (u_10' : Value) (B_17' : List (Nat × Obj)), aff Tr.and B_15' B_17' out_0_1' out_1_1' sz_9' u_9' sz_10' u_10' →
        (u_10'.oneCell' = true) ∧
        Inv sz_10' u_10' j_5' B_17' ∧ mu sz_10' u_10' j_5' B_17' < mu out_0_1' out_1_1' s_1_2' c_6')) ∧
      (∀ (c_7' : Int) (p_5' : Int) (q_5' : Int) (o_34' : List Int) (B_16' : List (Nat × Obj)), PR s_0 (.row none) sl.length (s_1_2' + 1) (.error (c_7', p_5')) →
       KP (n8 c_7' p_5') s_0 q_5' o_34' B_16')
     else
      (if (decide (nx s_0 s_1_2' = 45)) = true then
       (I64 (s_1_2' + 1)) ∧
       (af7 s_0 (s_1_2' + 1)) ∧
       (0 ≤ (s_1_2' + 1) ∧ (s_1_2' + 1) ≤ (s_0.length : Int) ∧ s_0.length ≤ 1048576 ∧ sl.length ≤ 1000) ∧
       (∀ (sz_11' : Int) (u_11' : Value) (j_6' : Int) (B_18' : List (Nat × Obj)), ae9 (PR s_0 (.row none) sl.length (s_1_2' + 1)) s_0 (s_1_2' + 1) c_6' B_18' j_6' sz_11' u_11' →
        (w9 out_0_1' ∧ w9 sz_11') ∧
        (∀ (sz_12' : Int) (u_12' : Value) (B_20' : List (Nat × Obj)), aff Tr.minus B_18' B_20' out_0_1' out_1_1' sz_11' u_11' sz_12' u_12' →
         (u_12'.oneCell' = true) ∧
         Inv sz_12' u_12' j_6' B_20' ∧ mu sz_12' u_12' j_6' B_20' < mu out_0_1' out_1_1' s_1_2' c_6')) ∧
       (∀ (c_8' : Int) (p_6' : Int) (q_6' : Int) (o_40' : List Int) (B_19' : List (Nat × Obj)), PR s_0 (.row none) sl.length (s_1_2' + 1) (.error (c_8', p_6')) →
        KP (n8 c_8' p_6') s_0 q_6' o_40' B_19')
      else
       (out_1_1'.oneCell' = true) ∧
       K out_0_1' out_1_1' s_0 s_1_2' sl c_6'))
    else
     (out_1_1'.oneCell' = true) ∧
     K out_0_1' out_1_1' s_0 s_1_2' sl c_6')) ∧
 (∀ (c : Int) (p : Int) (q : Int) (o : List Int) (B_2' : List (Nat × Obj)), PR s_0 (.row none) sl.length s_1 (.error (c, p)) →
  KP (n8 c p) s_0 q o B_2')
theorem av9 (b : Nat) (w : Value) (te : TypeId) (fre : Nat × Nat) (s_0 : List UInt8) (s_1 : Int) (sl : List Int) (B : List (Nat × Obj)) (K : Int → Value → (List UInt8) → Int → (List Int) → (List (Nat × Obj)) → Prop) (KP : Value → (List UInt8) → Int → (List Int) → (List (Nat × Obj)) → Prop) (h : aj1 s_0 s_1 sl B K KP) :
  c8 Tryd.prog 76 [zP b] [(1, .cells [zU 110, zU 10, zU 114, zU 13, zU 116, zU 9].toArray te fre)] [HA.blk b (.cells [st s_0, zI s_1, w].toArray 76 (0, 0)), HA.row w 3 1 sl.length (sl.flatMap q8), pool B] (fun o => (∃ (v_0 : Int) (v_1 : Value) (d_1' : List UInt8) (d_2' : Int) (w_17' : Value) (d : List Int) (D : List (Nat × Obj)), K v_0 v_1 d_1' d_2' d D ∧ o = .ret (Value.agg [zI v_0, v_1].toArray) [HA.blk b (.cells [st d_1', zI d_2', w_17'].toArray 76 (0, 0)), HA.row w_17' 3 1 d.length (d.flatMap q8), pool D]) ∨ (∃ (pv : Value) (d_1' : List UInt8) (d_2' : Int) (w_17' : Value) (d : List Int) (D : List (Nat × Obj)), KP pv d_1' d_2' d D ∧ o = .pan [{ v := pv, recovered := false }] [HA.blk b (.cells [st d_1', zI d_2', w_17'].toArray 76 (0, 0)), HA.row w_17' 3 1 d.length (d.flatMap q8), pool D])) := by
 unfold aj1 at h
 refine c6 (n := 39) (L0 := [(0, zP b)]) Tryd.func76 rfl rfl rfl rfl (fun w0 M Q hE => ?_)
 refine a6 (fun _ hK => ?_)
 refine a4 ?_
 refine WL.make (MV.alloc p9) rfl rfl rfl (fun b_1' => ?_)
 refine WL.nil ?_
 refine kg (hK [(0, zP b), (2, zP b_1')] _ ?_)
 refine a6 (fun _ hK_1' => ?_)
 refine a4 ?_
 refine wm ?_
 obtain ⟨o_1', h⟩ := h
 obtain ⟨o_2', h⟩ := h
 refine WL.pick (H' := [HA.blk b (.cells [st s_0, zI s_1, w].toArray 76 (0, 0)), HA.row w 3 1 sl.length (sl.flatMap q8), pool B, HA.blk b_1' (.cells [zI 0, Value.nilFunc].toArray 79 (0, 0))]) [1, 2, 3, 0] rfl rfl ?_
 refine WL.callS ags rfl (o_1' b te fre w sl B o_2') rfl ⟨.inr (List.mem_of_getElem? (i := 0) rfl), trivial⟩ rfl rfl (fun r H' hS => ?_) (fun c H' hS => ?_)
 ·rcases hS with ⟨sz, u, j, w_1', B_1', hc, ho⟩ | ⟨c, p, q, w_2', o, B_2', hc, ho⟩ <;> cases ho
  replace h := h.1 sz u j B_1' hc
  refine WL.make (MV.alloc p9) rfl rfl rfl (fun b_2' => ?_)
  obtain ⟨o_3', h⟩ := h
  refine WL.storeW (vs := [zI sz, u]) 0 rfl rfl rfl rfl rfl j6 rfl (c9 rfl (c9 o_3' m6)) rfl ?_
  refine WL.nil ?_
  refine kg (hK_1' [(0, zP b), (2, zP b_1'), (3, zP b_2')] _ ?_)
  refine a6 (fun _ hK_2' => ?_)
  refine g8 ?_
  obtain ⟨Inv, mu, h0, hr⟩ := h
  refine aaj (S := Int × Value × Int × Value × (List (Nat × Obj))) (fun σ => Inv σ.1 σ.2.1 σ.2.2.1 σ.2.2.2.2) (fun σ => mu σ.1 σ.2.1 σ.2.2.1 σ.2.2.2.2) (fun σ => [(0, zP b), (2, zP b_1'), (3, zP b_2')]) (fun σ => [HA.blk b_2' (.cells [zI σ.1, σ.2.1].toArray 79 (0, 0)), HA.blk b (.cells [st s_0, zI σ.2.2.1, σ.2.2.2.1].toArray 76 (0, 0)), HA.row σ.2.2.2.1 3 1 sl.length (sl.flatMap q8), pool σ.2.2.2.2, HA.blk b_1' (.cells [zI 0, Value.nilFunc].toArray 79 (0, 0))]) (sz, u, j, w_1', B_1') h0 ⟨rfl, rfl, rfl, trivial⟩ rfl ?_
  rintro ⟨out_0_1', out_1_1', s_1_2', w_12', c_6'⟩ hi K0_19' hK_19'
  have h := hr out_0_1' out_1_1' s_1_2' c_6' hi
  show WC _ _ _ _ [(0, zP b), (2, zP b_1'), (3, zP b_2')] [HA.blk b_2' (.cells [zI out_0_1', out_1_1'].toArray 79 (0, 0)), HA.blk b (.cells [st s_0, zI s_1_2', w_12'].toArray 76 (0, 0)), HA.row w_12' 3 1 sl.length (sl.flatMap q8), pool c_6', HA.blk b_1' (.cells [zI 0, Value.nilFunc].toArray 79 (0, 0))]
  refine a6 (fun _ hK_20' => ?_)
  refine a6 (fun _ hK_21' => ?_)
  refine a4 ?_
  refine wm ?_
  refine WL.call (A := []) aa2 rfl (aal b s_0 s_1_2' w_12') rfl ⟨.inl ⟨1, rfl⟩, trivial⟩ rfl rfl ?_
  refine wv (OV.not rfl) ?_
  refine WL.nil ?_
  refine kg (hK_21' [(0, zP b), (2, zP b_1'), (3, zP b_2'), (8, zB (!(decide ((s_0.length : Int) ≤ s_1_2'))))] _ ?_)
  refine b5 (b := !(decide ((s_0.length : Int) ≤ s_1_2'))) rfl (fun hb => ?_) (fun hb => ?_)
  ·replace h := j4 h hb
   refine b7 ?_
   refine kg (hK_20' [(0, zP b), (2, zP b_1'), (3, zP b_2')] _ ?_)
   refine g8 ?_
   refine a6 (fun _ hK_22' => ?_)
   refine a4 ?_
   refine wm ?_
   obtain ⟨o_32', h⟩ := h
   refine WL.call (A := []) aap rfl (aaq b s_0 s_1_2' w_12' o_32') rfl ⟨.inl ⟨1, rfl⟩, trivial⟩ rfl rfl ?_
   refine WL.nil ?_
   refine kg (hK_22' [(0, zP b), (2, zP b_1'), (3, zP b_2'), (10, zU (nx s_0 s_1_2'))] _ ?_)
   refine g8 ?_
   refine a6 (fun _ hK_23' => ?_)
   refine a4 ?_
   refine wv (OV.eql rfl rfl) ?_
   refine wa ?_
   refine WL.nil ?_
   refine kg (hK_23' [(0, zP b), (2, zP b_1'), (3, zP b_2'), (10, zU (nx s_0 s_1_2')), (12, zB (decide (nx s_0 s_1_2' = 38)))] _ ?_)
   refine b5 (b := decide (nx s_0 s_1_2' = 38)) rfl (fun hb => ?_) (fun hb => ?_)
   ·replace h := j4 h hb
    refine a6 (fun _ hK_24' => ?_)
    refine a4 ?_
    refine wm ?_
    refine wv (OV.nilCheck rfl) ?_
    refine wv (OV.fieldAddr0 rfl d9) ?_
    refine wv (OV.load rfl (At.own 1 rfl) rfl a7) ?_
    obtain ⟨o_33', h⟩ := h
    refine wv (OV.add rfl rfl o_33') ?_
    refine wv (OV.nilCheck rfl) ?_
    refine wv (OV.fieldAddr0 rfl d9) ?_
    refine WL.store (vs := [zI (s_1_2' + 1)]) (cs' := [st s_0, zI (s_1_2' + 1), w_12']) 1 rfl rfl rfl rfl g9 (Nat.le_of_ble_eq_true rfl) rfl rfl rfl ?_
    refine WL.nil ?_
    refine kg (hK_24' [(0, zP b), (2, zP b_1'), (3, zP b_2')] _ ?_)
    refine x3 2 [0, 4] [HA.blk b_2' (.cells [zI out_0_1', out_1_1'].toArray 79 (0, 0)), HA.blk b_1' (.cells [zI 0, Value.nilFunc].toArray 79 (0, 0))] rfl rfl f0 (by kernel_rfl) (fun T_4' hT_4' => ?_)
    refine TW.val (OV.loadR rfl (At.own 0 rfl) i8) rfl rfl rfl ?_
    refine TW.val (OV.move rfl) rfl rfl rfl ?_
    refine TW.nil (hT_4' _ ?_)
    obtain ⟨o_35', h⟩ := h
    obtain ⟨o_36', h⟩ := h
    refine WLX.pick (H' := [HA.blk b (.cells [st s_0, zI (s_1_2' + 1), w_12'].toArray 76 (0, 0)), HA.row w_12' 3 1 sl.length (sl.flatMap q8), pool c_6', HA.blk b_2' (.cells [zI out_0_1', out_1_1'].toArray 79 (0, 0)), HA.blk b_1' (.cells [zI 0, Value.nilFunc].toArray 79 (0, 0))]) [1, 2, 3, 0, 4] rfl rfl ?_
    refine WLX.callS [0, 1] rfl (EN.fn ags rfl) rfl (o_35' b te fre w_12' sl c_6' o_36') rfl rfl ⟨.inr (List.mem_of_getElem? (i := 0) rfl), trivial⟩ rfl rfl (fun r H' hS => ?_) (fun c H' hS => ?_)
    ·rcases hS with ⟨sz_9', u_9', j_5', w_13', B_15', hc, ho⟩ | ⟨c_7', p_5', q_5', w_14', o_34', B_16', hc, ho⟩ <;> cases ho
     replace h := h.1 sz_9' u_9' j_5' B_15' hc
     obtain ⟨o_37', h⟩ := h
     refine WLX.pick (H' := [pool B_15', HA.blk b (.cells [st s_0, zI j_5', w_13'].toArray 76 (0, 0)), HA.row w_13' 3 1 sl.length (sl.flatMap q8), HA.blk b_2' (.cells [zI out_0_1', out_1_1'].toArray 79 (0, 0)), HA.blk b_1' (.cells [zI 0, Value.nilFunc].toArray 79 (0, 0))]) [2, 0, 1, 3, 4] rfl rfl ?_
     refine WLX.callS [2, 3] rfl (EN.fn abf rfl) rfl (abe Tr.and_op out_0_1' out_1_1' sz_9' u_9' B_15' o_37') rfl rfl trivial rfl rfl (fun r H' hS => ?_) (fun c H' hS => ?_)
     ·obtain ⟨sz_10', u_10', B_17', hc, ho⟩ := hS
      cases ho
      replace h := h sz_10' u_10' B_17' hc
      obtain ⟨o_38', h⟩ := h
      refine WLX.opZ (OpK.storeW (vs := [zI sz_10', u_10']) 3 rfl rfl rfl rfl rfl j6 rfl (c9 rfl (c9 o_38' m6))) rfl ?_
      refine WLX.nil ?_
      exact kh (hK_19' (sz_10', u_10', j_5', w_13', B_17') h.1 h.2) [3, 1, 2, 0, 4]
     ·obtain ⟨sz_10', u_10', B_17', hc, ho⟩ := hS
      cases ho
    ·rcases hS with ⟨sz_9', u_9', j_5', w_13', B_15', hc, ho⟩ | ⟨c_7', p_5', q_5', w_14', o_34', B_16', hc, ho⟩ <;> cases ho
     replace h := h.2 c_7' p_5' q_5' o_34' B_16' hc
     refine QX.strong ?_
     exact hE.pan [0, 1, 2] rfl rfl (.inr ⟨_, _, _, _, _, _, h, rfl⟩)
   ·replace h := i9 h hb
    refine a6 (fun _ hK_25' => ?_)
    refine a4 ?_
    refine wv (OV.eql rfl rfl) ?_
    refine wa ?_
    refine WL.nil ?_
    refine kg (hK_25' [(0, zP b), (2, zP b_1'), (3, zP b_2'), (25, zB (decide (nx s_0 s_1_2' = 45)))] _ ?_)
    refine b5 (b := decide (nx s_0 s_1_2' = 45)) rfl (fun hb => ?_) (fun hb => ?_)
    ·replace h := j4 h hb
     refine a6 (fun _ hK_26' => ?_)
     refine a4 ?_
     refine wm ?_
     refine wv (OV.nilCheck rfl) ?_
     refine wv (OV.fieldAddr0 rfl d9) ?_
     refine wv (OV.load rfl (At.own 1 rfl) rfl a7) ?_
     obtain ⟨o_39', h⟩ := h
     refine wv (OV.add rfl rfl o_39') ?_
     refine wv (OV.nilCheck rfl) ?_
     refine wv (OV.fieldAddr0 rfl d9) ?_
     refine WL.store (vs := [zI (s_1_2' + 1)]) (cs' := [st s_0, zI (s_1_2' + 1), w_12']) 1 rfl rfl rfl rfl g9 (Nat.le_of_ble_eq_true rfl) rfl rfl rfl ?_
     refine WL.nil ?_
     refine kg (hK_26' [(0, zP b), (2, zP b_1'), (3, zP b_2')] _ ?_)
     refine x3 2 [0, 4] [HA.blk b_2' (.cells [zI out_0_1', out_1_1'].toArray 79 (0, 0)), HA.blk b_1' (.cells [zI 0, Value.nilFunc].toArray 79 (0, 0))] rfl rfl f0 (by kernel_rfl) (fun T_5' hT_5' => ?_)
     refine TW.val (OV.loadR rfl (At.own 0 rfl) i8) rfl rfl rfl ?_
     refine TW.val (OV.move rfl) rfl rfl rfl ?_
     refine TW.nil (hT_5' _ ?_)
     obtain ⟨o_41', h⟩ := h
     obtain ⟨o_42', h⟩ := h
     refine WLX.pick (H' := [HA.blk b (.cells [st s_0, zI (s_1_2' + 1), w_12'].toArray 76 (0, 0)), HA.row w_12' 3 1 sl.length (sl.flatMap q8), pool c_6', HA.blk b_2' (.cells [zI out_0_1', out_1_1'].toArray 79 (0, 0)), HA.blk b_1' (.cells [zI 0, Value.nilFunc].toArray 79 (0, 0))]) [1, 2, 3, 0, 4] rfl rfl ?_
     refine WLX.callS [0, 1] rfl (EN.fn ags rfl) rfl (o_41' b te fre w_12' sl c_6' o_42') rfl rfl ⟨.inr (List.mem_of_getElem? (i := 0) rfl), trivial⟩ rfl rfl (fun r H' hS => ?_) (fun c H' hS => ?_)
     ·rcases hS with ⟨sz_11', u_11', j_6', w_15', B_18', hc, ho⟩ | ⟨c_8', p_6', q_6', w_16', o_40', B_19', hc, ho⟩ <;> cases ho
      replace h := h.1 sz_11' u_11' j_6' B_18' hc
      obtain ⟨o_43', h⟩ := h
      refine WLX.pick (H' := [pool B_18', HA.blk b (.cells [st s_0, zI j_6', w_15'].toArray 76 (0, 0)), HA.row w_15' 3 1 sl.length (sl.flatMap q8), HA.blk b_2' (.cells [zI out_0_1', out_1_1'].toArray 79 (0, 0)), HA.blk b_1' (.cells [zI 0, Value.nilFunc].toArray 79 (0, 0))]) [2, 0, 1, 3, 4] rfl rfl ?_
      refine WLX.callS [2, 3] rfl (EN.fn abf rfl) rfl (abe Tr.minus_op out_0_1' out_1_1' sz_11' u_11' B_18' o_43') rfl rfl trivial rfl rfl (fun r H' hS => ?_) (fun c H' hS => ?_)
      ·obtain ⟨sz_12', u_12', B_20', hc, ho⟩ := hS
       cases ho
       replace h := h sz_12' u_12' B_20' hc
       obtain ⟨o_44', h⟩ := h
       refine WLX.opZ (OpK.storeW (vs := [zI sz_12', u_12']) 3 rfl rfl rfl rfl rfl j6 rfl (c9 rfl (c9 o_44' m6))) rfl ?_
       refine WLX.nil ?_
       exact kh (hK_19' (sz_12', u_12', j_6', w_15', B_20') h.1 h.2) [3, 1, 2, 0, 4]
      ·obtain ⟨sz_12', u_12', B_20', hc, ho⟩ := hS
       cases ho
     ·rcases hS with ⟨sz_11', u_11', j_6', w_15', B_18', hc, ho⟩ | ⟨c_8', p_6', q_6', w_16', o_40', B_19', hc, ho⟩ <;> cases ho
      replace h := h.2 c_8' p_6' q_6' o_40' B_19' hc
      refine QX.strong ?_
      exact hE.pan [0, 1, 2] rfl rfl (.inr ⟨_, _, _, _, _, _, h, rfl⟩)
    ·replace h := i9 h hb
     refine a6 (fun _ hK_27' => ?_)
     refine a4 ?_
     refine wv (OV.loadR rfl (At.own 0 rfl) i8) ?_
     obtain ⟨o_45', h⟩ := h
     refine WL.storeW (vs := [zI out_0_1', out_1_1']) 4 rfl rfl rfl rfl rfl j6 rfl (c9 rfl (c9 o_45' m6)) rfl ?_
     refine WL.nil ?_
     refine kg (hK_27' [(2, zP b_1')] _ ?_)
     refine b9 ?_
     exact hE.ret [1, 2, 3] rfl rfl (.inl ⟨_, _, _, _, _, _, _, h, rfl⟩) (d8.of1 rfl (RV.row rfl (At.own 4 rfl) i8))
  ·replace h := i9 h hb
   refine t8 ?_
   refine kg (hK_2' [(2, zP b_1'), (3, zP b_2')] _ ?_)
   refine a6 (fun _ hK_28' => ?_)
   refine a4 ?_
   refine wv (OV.loadR rfl (At.own 0 rfl) i8) ?_
   obtain ⟨o_46', h⟩ := h
   refine WL.storeW (vs := [zI out_0_1', out_1_1']) 4 rfl rfl rfl rfl rfl j6 rfl (c9 rfl (c9 o_46' m6)) rfl ?_
   refine WL.nil ?_
   refine kg (hK_28' [(2, zP b_1')] _ ?_)
   refine b9 ?_
   exact hE.ret [1, 2, 3] rfl rfl (.inl ⟨_, _, _, _, _, _, _, h, rfl⟩) (d8.of1 rfl (RV.row rfl (At.own 4 rfl) i8))
 ·rcases hS with ⟨sz, u, j, w_1', B_1', hc, ho⟩ | ⟨c, p, q, w_2', o, B_2', hc, ho⟩ <;> cases ho
  replace h := h.2 c p q o B_2' hc
  exact hE.pan [0, 1, 2] rfl rfl (.inr ⟨_, _, _, _, _, _, h, rfl⟩)
theorem av0 {t : List UInt8} {i : Int} (hA : ∀ j, i ≤ j → af7 t j) : afo t i := by
 rintro b te fre w o B ⟨h0, h1, h2, h3⟩
 refine (av9 b w te fre t i o B (KR (PR t .meet o.length i) t o i B) (KE (PR t .meet o.length i) t) ?_).weak ?_
 ·unfold aj1
  refine ⟨hA i (by omega), ⟨h0, h1, h2, h3⟩, ?_, fun c p q o2 B2 hE => ⟨rfl, c, p, rfl, .meetE hE⟩⟩
  rintro n0 u0 j0 B0 ⟨g1, g2, g3, g4, x0, g5, g6⟩
  refine ⟨g2.2, fun n u j c => acd B c ∧ abb n u ∧ i ≤ j ∧ j ≤ t.length ∧ ∃ x, Is c n u x ∧ ∀ r, PR t (.meetL x) o.length j r → PR t .meet o.length i r,
   fun _ _ j _ => (t.length - j).toNat, ⟨g1, g2, g3, g4, x0, g6, fun r hr => .meet g5 hr⟩, ?_⟩
  rintro n u j c ⟨i1, i2, i3, i4, x, i5, i6⟩
  have hstop : ¬ (j < t.length ∧ (nx t j = 38 ∨ nx t j = 45)) → ae9 (PR t .meet o.length i) t i B c j n u := fun hs => ⟨i1, i2, i3, i4, x, i6 _ (.meetZ hs), i5⟩
  by_cases hl : (t.length : Int) ≤ j
  ·rw [if_neg (by simpa using hl)]
   exact ⟨i2.2, rfl, rfl, hstop (by omega)⟩
  rw [if_pos (by simpa using hl)]
  refine ⟨by omega, ?_⟩
  by_cases c1 : nx t j = 38
  ·rw [if_pos (by simpa using c1)]
   refine ⟨by unfold I64; omega, hA (j + 1) (by omega), ⟨by omega, by omega, h2, h3⟩, ?_, fun c2 p2 q2 o2 B2 hE => ⟨rfl, c2, p2, rfl, i6 _ (.meetLE (by omega) (.inl c1) hE)⟩⟩
   rintro n2 u2 k B2 ⟨q1, q2, q3, q4, y, q5, q6⟩
   refine ⟨⟨i2.1, q2.1⟩, ?_⟩
   rintro n3 u3 B3 ⟨z1, z2, z3⟩
   exact ⟨z2.2, ⟨(i1.trans q1).trans z1, z2, by omega, q4, .and x y, z3 x y (i5.more q1) q6, fun r hr => i6 r (.meetL (by omega) (.inl c1) q5 (by rw [arf, if_pos c1]; exact hr))⟩, by show (t.length - k).toNat < (t.length - j).toNat; omega⟩
  rw [if_neg (by simpa using c1)]
  by_cases c2 : nx t j = 45
  ·rw [if_pos (by simpa using c2)]
   refine ⟨by unfold I64; omega, hA (j + 1) (by omega), ⟨by omega, by omega, h2, h3⟩, ?_, fun c3 p2 q2 o2 B2 hE => ⟨rfl, c3, p2, rfl, i6 _ (.meetLE (by omega) (.inr c2) hE)⟩⟩
   rintro n2 u2 k B2 ⟨q1, q2, q3, q4, y, q5, q6⟩
   refine ⟨⟨i2.1, q2.1⟩, ?_⟩
   rintro n3 u3 B3 ⟨z1, z2, z3⟩
   exact ⟨z2.2, ⟨(i1.trans q1).trans z1, z2, by omega, q4, .minus x y, z3 x y (i5.more q1) q6, fun r hr => i6 r (.meetL (by omega) (.inr c2) q5 (by rw [arf, if_neg c1]; exact hr))⟩, by show (t.length - k).toNat < (t.length - j).toNat; omega⟩
  rw [if_neg (by simpa using c2)]
  exact ⟨i2.2, rfl, rfl, hstop (by omega)⟩
 ·rintro out (⟨n, u, t', j, w', o', D, ⟨rfl, rfl, hR⟩, rfl⟩ | ⟨v, t', q, w', o', D, ⟨rfl, c, p, rfl, hR⟩, rfl⟩)
  ·exact .inl ⟨n, u, j, w', D, hR, rfl⟩
  ·exact .inr ⟨c, p, q, w', o', D, hR, rfl⟩
def aol (s_0 : List UInt8) (s_1 : Int) (sl : List Int) (B : List (Nat × Obj)) (K : Int → Value → (List UInt8) → Int → (List Int) → (List (Nat × Obj)) → Prop) (KP : Value → (List UInt8) → Int → (List Int) → (List (Nat × Obj)) → Prop) : Prop :=
 (afo s_0 s_1) ∧
 (0 ≤ s_1 ∧ s_1 ≤ (s_0.length : Int) ∧ s_0.length ≤ 1048576 ∧ sl.length ≤ 1000) ∧
 (∀ (sz : Int) (u : Value) (j : Int) (B_1' : List (Nat × Obj)), ae9 (PR s_0 .meet sl.length s_1) s_0 s_1 B B_1' j sz u →
  (u.oneCell' = true) ∧
  ∃ (Inv : Int → Value → Int → (List (Nat × Obj)) → Prop) (mu : Int → Value → Int → (List (Nat × Obj)) → Nat),
   Inv sz u j B_1' ∧ ∀ (out_0_1' : Int) (out_1_1' : Value) (s_1_2' : Int) (c_4' : List (Nat × Obj)), Inv out_0_1' out_1_1' s_1_2' c_4' →
    ((!(decide ((s_0.length : Int) ≤ s_1_2'))) = true → (0 ≤ s_1_2')) ∧
    (if ((!(decide ((s_0.length : Int) ≤ s_1_2'))) && (decide (nx s_0 s_1_2' = 124))) = true then
     (I64 (s_1_2' + 1)) ∧
     (afo s_0 (s_1_2' + 1)) ∧
     (0 ≤ (s_1_2' + 1) ∧ (s_1_2' + 1) ≤ (s_0.length : Int) ∧ s_0.length ≤ 1048576 ∧ sl.length ≤ 1000) ∧
     (∀ (sz_5' : Int) (u_5' : Value) (j_3' : Int) (B_9' : List (Nat × Obj)), ae9 (PR s_0 .meet sl.length (s_1_2' + 1)) s_0 (s_1_2' + 1) c_4' B_9' j_3' sz_5' u_5' →
      (w9 out_0_1' ∧ w9 sz_5') ∧
      (∀ (sz_6' : Int) (u_6' : Value) (B_11' : List (Nat × Obj)), aff Tr.alt B_9' B_11' out_0_1' out_1_1' sz_5' u_5' sz_6' u_6' →
       (u_6'.oneCell' = true) ∧
       Inv sz_6' u_6' j_3' B_11' ∧ mu sz_6' u_6' j_3' B_11' < mu out_0_1' out_1_1' s_1_2' c_4')) ∧
     (∀ (c_5' : Int) (p_3' : Int) (q_3' : Int) (o_23' : List Int) (B_10' : List (Nat × Obj)), PR s_0 .meet sl.length (s_1_2' + 1) (.error (c_5', p_3')) →
      KP (n8 c_5' p_3') s_0 q_3' o_23' B_10')
    else
     (out_1_1'.oneCell' = true) ∧
     K out_0_1' out_1_1' s_0 s_1_2' sl c_4')) ∧
 (∀ (c : Int) (p : Int) (q : Int) (o : List Int) (B_2' : List (Nat × Obj)), PR s_0 .meet sl.length s_1 (.error (c, p)) →
  KP (n8 c p) s_0 q o B_2')
theorem ayn (b : Nat) (w : Value) (te : TypeId) (fre : Nat × Nat) (s_0 : List UInt8) (s_1 : Int) (sl : List Int) (B : List (Nat × Obj)) (K : Int → Value → (List UInt8) → Int → (List Int) → (List (Nat × Obj)) → Prop) (KP : Value → (List UInt8) → Int → (List Int) → (List (Nat × Obj)) → Prop) (h : aol s_0 s_1 sl B K KP) :
  c8 Tryd.prog 37 [zP b] [(1, .cells [zU 110, zU 10, zU 114, zU 13, zU 116, zU 9].toArray te fre)] [HA.blk b (.cells [st s_0, zI s_1, w].toArray 76 (0, 0)), HA.row w 3 1 sl.length (sl.flatMap q8), pool B] (fun o => (∃ (v_0 : Int) (v_1 : Value) (d_1' : List UInt8) (d_2' : Int) (w_11' : Value) (d : List Int) (D : List (Nat × Obj)), K v_0 v_1 d_1' d_2' d D ∧ o = .ret (Value.agg [zI v_0, v_1].toArray) [HA.blk b (.cells [st d_1', zI d_2', w_11'].toArray 76 (0, 0)), HA.row w_11' 3 1 d.length (d.flatMap q8), pool D]) ∨ (∃ (pv : Value) (d_1' : List UInt8) (d_2' : Int) (w_11' : Value) (d : List Int) (D : List (Nat × Obj)), KP pv d_1' d_2' d D ∧ o = .pan [{ v := pv, recovered := false }] [HA.blk b (.cells [st d_1', zI d_2', w_11'].toArray 76 (0, 0)), HA.row w_11' 3 1 d.length (d.flatMap q8), pool D])) := by
 unfold aol at h
 refine c6 (n := 26) (L0 := [(0, zP b)]) Tryd.func37 rfl rfl rfl rfl (fun w0 M Q hE => ?_)
 refine a6 (fun _ hK => ?_)
 refine a4 ?_
 refine WL.make (MV.alloc p9) rfl rfl rfl (fun b_1' => ?_)
 refine WL.nil ?_
 refine kg (hK [(0, zP b), (2, zP b_1')] _ ?_)
 refine a6 (fun _ hK_1' => ?_)
 refine a4 ?_
 refine wm ?_
 obtain ⟨o_1', h⟩ := h
 obtain ⟨o_2', h⟩ := h
 refine WL.pick (H' := [HA.blk b (.cells [st s_0, zI s_1, w].toArray 76 (0, 0)), HA.row w 3 1 sl.length (sl.flatMap q8), pool B, HA.blk b_1' (.cells [zI 0, Value.nilFunc].toArray 79 (0, 0))]) [1, 2, 3, 0] rfl rfl ?_
 refine WL.callS amu rfl (o_1' b te fre w sl B o_2') rfl ⟨.inr (List.mem_of_getElem? (i := 0) rfl), trivial⟩ rfl rfl (fun r H' hS => ?_) (fun c H' hS => ?_)
 ·rcases hS with ⟨sz, u, j, w_1', B_1', hc, ho⟩ | ⟨c, p, q, w_2', o, B_2', hc, ho⟩ <;> cases ho
  replace h := h.1 sz u j B_1' hc
  refine WL.make (MV.alloc p9) rfl rfl rfl (fun b_2' => ?_)
  obtain ⟨o_3', h⟩ := h
  refine WL.storeW (vs := [zI sz, u]) 0 rfl rfl rfl rfl rfl j6 rfl (c9 rfl (c9 o_3' m6)) rfl ?_
  refine WL.nil ?_
  refine kg (hK_1' [(0, zP b), (2, zP b_1'), (3, zP b_2')] _ ?_)
  refine a6 (fun _ hK_2' => ?_)
  refine g8 ?_
  obtain ⟨Inv, mu, h0, hr⟩ := h
  refine aaj (S := Int × Value × Int × Value × (List (Nat × Obj))) (fun σ => Inv σ.1 σ.2.1 σ.2.2.1 σ.2.2.2.2) (fun σ => mu σ.1 σ.2.1 σ.2.2.1 σ.2.2.2.2) (fun σ => [(0, zP b), (2, zP b_1'), (3, zP b_2')]) (fun σ => [HA.blk b_2' (.cells [zI σ.1, σ.2.1].toArray 79 (0, 0)), HA.blk b (.cells [st s_0, zI σ.2.2.1, σ.2.2.2.1].toArray 76 (0, 0)), HA.row σ.2.2.2.1 3 1 sl.length (sl.flatMap q8), pool σ.2.2.2.2, HA.blk b_1' (.cells [zI 0, Value.nilFunc].toArray 79 (0, 0))]) (sz, u, j, w_1', B_1') h0 ⟨rfl, rfl, rfl, trivial⟩ rfl ?_
  rintro ⟨out_0_1', out_1_1', s_1_2', w_8', c_4'⟩ hi K0_11' hK_11'
  have h := hr out_0_1' out_1_1' s_1_2' c_4' hi
  show WC _ _ _ _ [(0, zP b), (2, zP b_1'), (3, zP b_2')] [HA.blk b_2' (.cells [zI out_0_1', out_1_1'].toArray 79 (0, 0)), HA.blk b (.cells [st s_0, zI s_1_2', w_8'].toArray 76 (0, 0)), HA.row w_8' 3 1 sl.length (sl.flatMap q8), pool c_4', HA.blk b_1' (.cells [zI 0, Value.nilFunc].toArray 79 (0, 0))]
  refine a6 (fun _ hK_12' => ?_)
  refine a6 (fun _ hK_13' => ?_)
  refine a4 ?_
  refine wm ?_
  refine WL.call (A := []) aa2 rfl (aal b s_0 s_1_2' w_8') rfl ⟨.inl ⟨1, rfl⟩, trivial⟩ rfl rfl ?_
  refine wv (OV.not rfl) ?_
  refine wm ?_
  obtain ⟨o_21', h⟩ := h
  refine WL.cut 4 [(0, zP b), (2, zP b_1'), (3, zP b_2'), (13, zB ((!(decide ((s_0.length : Int) ≤ s_1_2'))) && (decide (nx s_0 s_1_2' = 124))))] ?_ (fun K0_14' hK_14' => ?_)
  rotate_left
  ·refine WL.split (!(decide ((s_0.length : Int) ≤ s_1_2'))) (fun hb => ?_) (fun hb => ?_)
   ·have o_20' := o_21' hb
    refine WL.set 9 rfl (congrArg zB hb) ?_
    refine wm ?_
    refine WL.call (A := []) aap rfl (aaq b s_0 s_1_2' w_8' o_20') rfl ⟨.inl ⟨1, rfl⟩, trivial⟩ rfl rfl ?_
    refine wv (OV.eql rfl rfl) ?_
    refine wv (OV.pickT rfl rfl) ?_
    refine WL.set 13 rfl (bT (v := decide (nx s_0 s_1_2' = 124)) hb) ?_
    exact WL.end_ (kg hK_14')
   ·refine WL.set 9 rfl (congrArg zB hb) ?_
    refine wk ?_
    refine wk ?_
    refine wk ?_
    refine wv (OV.pickF rfl rfl) ?_
    refine WL.set 13 rfl (bF (v := decide (nx s_0 s_1_2' = 124)) hb) ?_
    exact WL.end_ (kg hK_14')
  refine WL.nil ?_
  refine kg (hK_13' [(0, zP b), (2, zP b_1'), (3, zP b_2'), (13, zB ((!(decide ((s_0.length : Int) ≤ s_1_2'))) && (decide (nx s_0 s_1_2' = 124))))] _ ?_)
  refine b5 (b := (!(decide ((s_0.length : Int) ≤ s_1_2'))) && (decide (nx s_0 s_1_2' = 124))) rfl (fun hb => ?_) (fun hb => ?_)
  ·replace h := j4 h hb
   refine b7 ?_
   refine kg (hK_12' [(0, zP b), (2, zP b_1'), (3, zP b_2')] _ ?_)
   refine g8 ?_
   refine a6 (fun _ hK_15' => ?_)
   refine a4 ?_
   refine wm ?_
   refine wv (OV.nilCheck rfl) ?_
   refine wv (OV.fieldAddr0 rfl d9) ?_
   refine wv (OV.load rfl (At.own 1 rfl) rfl a7) ?_
   obtain ⟨o_22', h⟩ := h
   refine wv (OV.add rfl rfl o_22') ?_
   refine wv (OV.nilCheck rfl) ?_
   refine wv (OV.fieldAddr0 rfl d9) ?_
   refine WL.store (vs := [zI (s_1_2' + 1)]) (cs' := [st s_0, zI (s_1_2' + 1), w_8']) 1 rfl rfl rfl rfl g9 (Nat.le_of_ble_eq_true rfl) rfl rfl rfl ?_
   refine WL.nil ?_
   refine kg (hK_15' [(0, zP b), (2, zP b_1'), (3, zP b_2')] _ ?_)
   refine x3 2 [0, 4] [HA.blk b_2' (.cells [zI out_0_1', out_1_1'].toArray 79 (0, 0)), HA.blk b_1' (.cells [zI 0, Value.nilFunc].toArray 79 (0, 0))] rfl rfl f0 (by kernel_rfl) (fun T_2' hT_2' => ?_)
   refine TW.val (OV.loadR rfl (At.own 0 rfl) i8) rfl rfl rfl ?_
   refine TW.val (OV.move rfl) rfl rfl rfl ?_
   refine TW.nil (hT_2' _ ?_)
   obtain ⟨o_24', h⟩ := h
   obtain ⟨o_25', h⟩ := h
   refine WLX.pick (H' := [HA.blk b (.cells [st s_0, zI (s_1_2' + 1), w_8'].toArray 76 (0, 0)), HA.row w_8' 3 1 sl.length (sl.flatMap q8), pool c_4', HA.blk b_2' (.cells [zI out_0_1', out_1_1'].toArray 79 (0, 0)), HA.blk b_1' (.cells [zI 0, Value.nilFunc].toArray 79 (0, 0))]) [1, 2, 3, 0, 4] rfl rfl ?_
   refine WLX.callS [0, 1] rfl (EN.fn amu rfl) rfl (o_24' b te fre w_8' sl c_4' o_25') rfl rfl ⟨.inr (List.mem_of_getElem? (i := 0) rfl), trivial⟩ rfl rfl (fun r H' hS => ?_) (fun c H' hS => ?_)
   ·rcases hS with ⟨sz_5', u_5', j_3', w_9', B_9', hc, ho⟩ | ⟨c_5', p_3', q_3', w_10', o_23', B_10', hc, ho⟩ <;> cases ho
    replace h := h.1 sz_5' u_5' j_3' B_9' hc
    obtain ⟨o_26', h⟩ := h
    refine WLX.pick (H' := [pool B_9', HA.blk b (.cells [st s_0, zI j_3', w_9'].toArray 76 (0, 0)), HA.row w_9' 3 1 sl.length (sl.flatMap q8), HA.blk b_2' (.cells [zI out_0_1', out_1_1'].toArray 79 (0, 0)), HA.blk b_1' (.cells [zI 0, Value.nilFunc].toArray 79 (0, 0))]) [2, 0, 1, 3, 4] rfl rfl ?_
    refine WLX.callS [2, 3] rfl (EN.fn abf rfl) rfl (abe Tr.alt_op out_0_1' out_1_1' sz_5' u_5' B_9' o_26') rfl rfl trivial rfl rfl (fun r H' hS => ?_) (fun c H' hS => ?_)
    ·obtain ⟨sz_6', u_6', B_11', hc, ho⟩ := hS
     cases ho
     replace h := h sz_6' u_6' B_11' hc
     obtain ⟨o_27', h⟩ := h
     refine WLX.opZ (OpK.storeW (vs := [zI sz_6', u_6']) 3 rfl rfl rfl rfl rfl j6 rfl (c9 rfl (c9 o_27' m6))) rfl ?_
     refine WLX.nil ?_
     exact kh (hK_11' (sz_6', u_6', j_3', w_9', B_11') h.1 h.2) [3, 1, 2, 0, 4]
    ·obtain ⟨sz_6', u_6', B_11', hc, ho⟩ := hS
     cases ho
   ·rcases hS with ⟨sz_5', u_5', j_3', w_9', B_9', hc, ho⟩ | ⟨c_5', p_3', q_3', w_10', o_23', B_10', hc, ho⟩ <;> cases ho
    replace h := h.2 c_5' p_3' q_3' o_23' B_10' hc
    refine QX.strong ?_
    exact hE.pan [0, 1, 2] rfl rfl (.inr ⟨_, _, _, _, _, _, h, rfl⟩)
  ·replace h := i9 h hb
   refine t8 ?_
   refine kg (hK_2' [(2, zP b_1'), (3, zP b_2')] _ ?_)
   refine a6 (fun _ hK_16' => ?_)
   refine a4 ?_
   refine wv (OV.loadR rfl (At.own 0 rfl) i8) ?_
   obtain ⟨o_28', h⟩ := h
   refine WL.storeW (vs := [zI out_0_1', out_1_1']) 4 rfl rfl rfl rfl rfl j6 rfl (c9 rfl (c9 o_28' m6)) rfl ?_
   refine WL.nil ?_
   refine kg (hK_16' [(2, zP b_1')] _ ?_)
   refine b9 ?_
   exact hE.ret [1, 2, 3] rfl rfl (.inl ⟨_, _, _, _, _, _, _, h, rfl⟩) (d8.of1 rfl (RV.row rfl (At.own 4 rfl) i8))
 ·rcases hS with ⟨sz, u, j, w_1', B_1', hc, ho⟩ | ⟨c, p, q, w_2', o, B_2', hc, ho⟩ <;> cases ho
  replace h := h.2 c p q o B_2' hc
  exact hE.pan [0, 1, 2] rfl rfl (.inr ⟨_, _, _, _, _, _, h, rfl⟩)
theorem awk {t : List UInt8} {i : Int} (hA : ∀ j, i ≤ j → afo t j) : af5 t i := by
 rintro b te fre w o B ⟨h0, h1, h2, h3⟩
 refine (ayn b w te fre t i o B (KR (PR t .alt o.length i) t o i B) (KE (PR t .alt o.length i) t) ?_).weak ?_
 ·unfold aol
  refine ⟨hA i (by omega), ⟨h0, h1, h2, h3⟩, ?_, fun c p q o2 B2 hE => ⟨rfl, c, p, rfl, .altE hE⟩⟩
  rintro n0 u0 j0 B0 ⟨g1, g2, g3, g4, x0, g5, g6⟩
  refine ⟨g2.2, fun n u j c => acd B c ∧ abb n u ∧ i ≤ j ∧ j ≤ t.length ∧ ∃ x, Is c n u x ∧ ∀ r, PR t (.altL x) o.length j r → PR t .alt o.length i r,
   fun _ _ j _ => (t.length - j).toNat, ⟨g1, g2, g3, g4, x0, g6, fun r hr => .alt g5 hr⟩, ?_⟩
  rintro n u j c ⟨i1, i2, i3, i4, x, i5, i6⟩
  refine ⟨fun _ => by omega, ?_⟩
  by_cases hl : j < t.length ∧ nx t j = 124
  ·rw [if_pos (by simp; omega)]
   refine ⟨by unfold I64; omega, hA (j + 1) (by omega), ⟨by omega, by omega, h2, h3⟩, ?_, fun c2 p2 q2 o2 B2 hE => ⟨rfl, c2, p2, rfl, i6 _ (.altLE hl.1 hl.2 hE)⟩⟩
   rintro n2 u2 k B2 ⟨q1, q2, q3, q4, y, q5, q6⟩
   refine ⟨⟨i2.1, q2.1⟩, ?_⟩
   rintro n3 u3 B3 ⟨z1, z2, z3⟩
   exact ⟨z2.2, ⟨(i1.trans q1).trans z1, z2, by omega, q4, .alt x y, z3 x y (i5.more q1) q6, fun r hr => i6 r (.altL hl.1 hl.2 q5 hr)⟩, by show (t.length - k).toNat < (t.length - j).toNat; omega⟩
  ·rw [if_neg (by simp; omega)]
   exact ⟨i2.2, rfl, rfl, i1, i2, i3, i4, x, i6 _ (.altZ hl), i5⟩
 ·rintro out (⟨n, u, t', j, w', o', D, ⟨rfl, rfl, hR⟩, rfl⟩ | ⟨v, t', q, w', o', D, ⟨rfl, c, p, rfl, hR⟩, rfl⟩)
  ·exact .inl ⟨n, u, j, w', D, hR, rfl⟩
  ·exact .inr ⟨c, p, q, w', o', D, hR, rfl⟩
theorem atm (t : List UInt8) : ∀ (n : Nat) (i : Int), (t.length : Int) - i < n → af5 t i
 | 0, _, h => fun _ _ _ _ _ _ hb => by omega
 | n + 1, i, h => by
  have hA : ∀ j, i ≤ j → ahk t j := fun j hj => auk (atm t n (j + 1) (by omega))
  have hR : ∀ j, i ≤ j → af7 t j := fun j hj => axh fun k hk => hA k (by omega)
  have hM : ∀ j, i ≤ j → afo t j := fun j hj => av0 fun k hk => hR k (by omega)
  exact awk hM
theorem ah6 (t : List UInt8) (i : Int) : af5 t i := atm t ((t.length : Int) - i + 1).toNat i (by omega)
end Go.Proofs.YtohnchdnkbadaaaDoor
set_option maxRecDepth 100000
namespace Go.Proofs.YtohnchdnkbadaaaDoor
open Go Go.RowKit
theorem aeu : s8 Tryd.prog 23 1 = true := by kernel_rfl
theorem asb : abm Tryd.prog 23 = some [Tr.val Tr.none] := by kernel_rfl
theorem afy : o6 Tryd.prog 36 = true := by kernel_rfl
def ag6 (c : Tr) (c_1'_0 : Int) (c_1'_1 : Int) (c_1'_2 : List UInt8) (K : Tr → Int → Int → (List UInt8) → Prop) : Prop :=
 K c c_1'_0 c_1'_1 c_1'_2
theorem ary (b : Nat) (b_1' : Nat) (c : Tr) (c_1'_0 : Int) (c_1'_1 : Int) (c_1'_2 : List UInt8) (K : Tr → Int → Int → (List UInt8) → Prop) (h : ag6 c c_1'_0 c_1'_1 c_1'_2 K) :
  aep Tryd.prog 36 [zP b, zP b_1'] (.returning) (.returning) [] [HA.blk b (.cells [Tr.val c].toArray 23 (0, 0)), HA.blk b_1' (.cells [zI c_1'_0, zI c_1'_1, st c_1'_2].toArray 26 (0, 0))] (fun o => (∃ (d : Tr) (d_1'_0 : Int) (d_1'_1 : Int) (d_1'_2 : List UInt8), K d d_1'_0 d_1'_1 d_1'_2 ∧ o = .ret (Value.tuple #[]) [HA.blk b (.cells [Tr.val d].toArray 23 (0, 0)), HA.blk b_1' (.cells [zI d_1'_0, zI d_1'_1, st d_1'_2].toArray 26 (0, 0))]) ∨ (False)) := by
 unfold ag6 at h
 refine af0 (n := 8) (L0 := [(0, zP b), (1, zP b_1')]) (v := Value.nilIface) Tryd.func36 rfl rfl rfl rfl rfl rfl (.inl ⟨rfl, rfl, rfl⟩) (fun w0 M Q hE => ?_)
 refine a6 (fun _ hK => ?_)
 refine a4 ?_
 refine wm ?_
 refine wv (OV.neqNil0 rfl Tryd.underlying20) ?_
 refine WL.nil ?_
 refine kg (hK [(0, zP b), (1, zP b_1'), (2, Value.nilIface), (5, zB false)] _ ?_)
 refine n6 rfl ?_
 refine b7 ?_
 exact hE.norm [0, 1] rfl rfl (.inl ⟨_, _, _, _, h, rfl⟩) (d8.none rfl)
def ahe (_ : Tr) (_ : Int) (_ : Int) (_ : List UInt8) (fc : Int) (fa : Int) (ft : List UInt8) (K : Tr → Int → Int → (List UInt8) → Prop) : Prop :=
 K Tr.none fc fa ft
theorem ata (b : Nat) (b_1' : Nat) (c : Tr) (c_1'_0 : Int) (c_1'_1 : Int) (c_1'_2 : List UInt8) (fc : Int) (fa : Int) (ft : List UInt8) (K : Tr → Int → Int → (List UInt8) → Prop) (h : ahe c c_1'_0 c_1'_1 c_1'_2 fc fa ft K) :
  aep Tryd.prog 36 [zP b, zP b_1'] (.panicking [{ v := Value.iface 26 (Value.agg [zI fc, zI fa, st ft].toArray), recovered := false }]) (.panicking [{ v := Value.iface 26 (Value.agg [zI fc, zI fa, st ft].toArray), recovered := true }]) [] [HA.blk b (.cells [Tr.val c].toArray 23 (0, 0)), HA.blk b_1' (.cells [zI c_1'_0, zI c_1'_1, st c_1'_2].toArray 26 (0, 0))] (fun o => (∃ (d : Tr) (d_1'_0 : Int) (d_1'_1 : Int) (d_1'_2 : List UInt8), K d d_1'_0 d_1'_1 d_1'_2 ∧ o = .ret (Value.tuple #[]) [HA.blk b (.cells [Tr.val d].toArray 23 (0, 0)), HA.blk b_1' (.cells [zI d_1'_0, zI d_1'_1, st d_1'_2].toArray 26 (0, 0))]) ∨ (False)) := by
 unfold ahe at h
 refine af0 (n := 8) (L0 := [(0, zP b), (1, zP b_1')]) (v := Value.iface 26 (Value.agg [zI fc, zI fa, st ft].toArray)) Tryd.func36 rfl rfl rfl rfl rfl rfl (.inr ⟨_, rfl, rfl, rfl⟩) (fun w0 M Q hE => ?_)
 refine a6 (fun _ hK => ?_)
 refine a4 ?_
 refine wm ?_
 refine wv (OV.neqNil rfl rfl Tryd.underlying20) ?_
 refine WL.nil ?_
 refine kg (hK [(0, zP b), (1, zP b_1'), (2, Value.iface 26 (Value.agg [zI fc, zI fa, st ft].toArray)), (5, zB true)] _ ?_)
 refine aai rfl ?_
 refine ahl 2 [] [] rfl rfl f0 (by kernel_rfl) (fun T hT => ?_)
 refine TW.val (OV.move rfl) rfl rfl rfl ?_
 refine TW.val (OV.assertIs rfl Tryd.underlying26 rfl) rfl rfl rfl ?_
 refine TW.nil (hT _ ?_)
 refine WLK.op [] rfl rfl (OpK.store (vs := [Value.nilIface]) (cs' := [Value.nilIface]) 0 rfl rfl rfl rfl aeu (Nat.le_of_ble_eq_true rfl) rfl rfl) rfl ?_
 refine WLK.op [] rfl rfl (OpK.storeW (vs := [zI fc, zI fa, st ft]) 1 rfl rfl rfl rfl rfl aac rfl rfl) rfl ?_
 refine WLK.nil ?_
 exact hE.norm [0, 1] rfl rfl (.inl ⟨_, _, _, _, h, rfl⟩) (d8.none rfl)
abbrev ajv (b b1 : Nat) (c : Tr) (x y : Int) (z : List UInt8) : List HA :=
 [.blk b (.cells [c.val].toArray 23 (0, 0)), .blk b1 (.cells [zI x, zI y, st z].toArray 26 (0, 0))]
theorem akm (b b1 : Nat) (c : Tr) (x y : Int) (z : List UInt8) : aep Tryd.prog 36 [.pointer (some ⟨b, 0, none⟩), .pointer (some ⟨b1, 0, none⟩)] .returning .returning [] (ajv b b1 c x y z) (Ret (.tuple #[]) (ajv b b1 c x y z)) := by
 refine (ary b b1 c x y z (fun c' x' y' z' => c' = c ∧ x' = x ∧ y' = y ∧ z' = z) ?_).weak ?_
 ·unfold ag6; exact ⟨rfl, rfl, rfl, rfl⟩
 ·rintro o (⟨c', x', y', z', ⟨rfl, rfl, rfl, rfl⟩, rfl⟩ | h)
  ·rfl
  ·exact h.elim
theorem akx (b b1 : Nat) (c : Tr) (x y : Int) (z : List UInt8) (fc fa : Int) (ft : List UInt8) : aep Tryd.prog 36 [.pointer (some ⟨b, 0, none⟩), .pointer (some ⟨b1, 0, none⟩)]
  (.panicking [{ v := .iface 26 (.agg [.int .i64 fc, .int .i64 fa, st ft].toArray), recovered := false }]) (.panicking [{ v := .iface 26 (.agg [.int .i64 fc, .int .i64 fa, st ft].toArray), recovered := true }]) [] (ajv b b1 c x y z) (Ret (.tuple #[]) (ajv b b1 .none fc fa ft)) := by
 refine (ata b b1 c x y z fc fa ft (fun c' x' y' z' => c' = .none ∧ x' = fc ∧ y' = fa ∧ z' = ft) ?_).weak ?_
 ·unfold ahe; exact ⟨rfl, rfl, rfl, rfl⟩
 ·rintro o (⟨c', x', y', z', ⟨rfl, rfl, rfl, rfl⟩, rfl⟩ | h)
  ·rfl
  ·exact h.elim
def akh (text : List UInt8) (K : Tr → Int → Int → (List UInt8) → Prop) : Prop :=
 (if (decide (1048576 < (text.length : Int))) = true then
  K Tr.none 1 0 []
 else
  (af5 text 0) ∧
  (0 ≤ (0 : Int) ∧ (0 : Int) ≤ (text.length : Int) ∧ text.length ≤ 1048576 ∧ ([] : List Int).length ≤ 1000) ∧
  (∀ (sz : Int) (u : Value) (j : Int) (B : List (Nat × Obj)), ae9 (PR text .alt ([] : List Int).length 0) text 0 ([] : List (Nat × Obj)) B j sz u →
   (u.oneCell' = true) ∧
   (if (!(decide ((text.length : Int) ≤ j))) = true then
    K Tr.none 20 j []
   else
    (if (decide (2000 < sz)) = true then
     K Tr.none 24 0 []
    else
     ∃ (y : Tr), (ai5 B u y) ∧ (
     K y 0 0 [])))) ∧
  (∀ (c : Int) (p : Int) (_q : Int) (_o : List Int) (_B_1' : List (Nat × Obj)), PR text .alt ([] : List Int).length 0 (.error (c, p)) →
   K Tr.none c p []))
theorem awo (te : TypeId) (fre : Nat × Nat) (text : List UInt8) (K : Tr → Int → Int → (List UInt8) → Prop) (h : akh text K) :
  c8 Tryd.prog 14 [st text] [(1, .cells [zU 110, zU 10, zU 114, zU 13, zU 116, zU 9].toArray te fre)] [] (fun o => (∃ (v : Tr) (v_1'_0 : Int) (v_1'_1 : Int) (v_1'_2 : List UInt8), K v v_1'_0 v_1'_1 v_1'_2 ∧ o = .ret (Value.tuple #[Tr.val v, Value.agg [zI v_1'_0, zI v_1'_1, st v_1'_2].toArray]) []) ∨ (False)) := by
 unfold akh at h
 refine aix (n := 33) (L0 := [(0, st text)]) Tryd.func14 rfl rfl rfl rfl (fun w0 M Q hE => ?_)
 refine WC.newPool ?_
 refine a6 (fun _ hK => ?_)
 refine a4 ?_
 refine WL.make (MV.alloc asb) rfl rfl rfl (fun b => ?_)
 refine WL.make (MV.alloc ach) rfl rfl rfl (fun b_1' => ?_)
 refine WL.nil ?_
 refine kg (hK [(0, st text), (2, zP b), (3, zP b_1')] _ ?_)
 refine a6 (fun _ hK_1' => ?_)
 refine a6 (fun _ hK_2' => ?_)
 refine a4 ?_
 refine wm ?_
 refine wv (OV.len rfl k9) ?_
 refine wv (OV.gtr rfl rfl) ?_
 refine WL.nil ?_
 refine kg (hK_2' [(0, st text), (2, zP b), (3, zP b_1'), (8, zB (decide (1048576 < (text.length : Int))))] _ ?_)
 refine b5 (b := decide (1048576 < (text.length : Int))) rfl (fun hb => ?_) (fun hb => ?_)
 ·replace h := j4 h hb
  refine a6 (fun _ hK_3' => ?_)
  refine a4 ?_
  refine wv (OV.build rfl (cs := [zI 1, zI 0, st []]) rfl) ?_
  refine WL.store (vs := [Value.nilIface]) (cs' := [Value.nilIface]) 1 rfl rfl rfl rfl aeu (Nat.le_of_ble_eq_true rfl) rfl rfl rfl ?_
  refine WL.storeW (vs := [zI 1, zI 0, st []]) 0 rfl rfl rfl rfl rfl aac rfl rfl rfl ?_
  refine WL.nil ?_
  refine kg (hK_3' [(2, zP b), (3, zP b_1')] _ ?_)
  refine b9 ?_
  exact hE.ret (atv [] rfl rfl (.inl ⟨_, _, _, _, h, rfl⟩) (d8.of2 rfl (RV.cell rfl (At.own 1 rfl) rfl j9) (RV.row rfl (At.own 0 rfl) aaa)))
 ·replace h := i9 h hb
  refine b7 ?_
  refine kg (hK_1' [(0, st text), (2, zP b), (3, zP b_1')] _ ?_)
  refine ato (fun K0_4' hK_4' => ?_)
  refine a4 ?_
  refine wv (OV.makeFunc rfl) ?_
  refine WL.defer rfl rfl ?_
  refine WL.nil ?_
  refine kg (hK_4' _ [(0, st text), (2, zP b), (3, zP b_1')] _ ?_)
  refine a6 (fun _ hK_5' => ?_)
  refine a4 ?_
  refine wm ?_
  refine wv (OV.build rfl (cs := [st text, zI 0, Value.slice none 0 0]) rfl) ?_
  refine WL.make (MV.box (cs := [st text, zI 0, Value.slice none 0 0]) rfl rfl) rfl rfl rfl (fun b_2' => ?_)
  refine WL.nilRow 3 1 q8 ?_
  refine wa ?_
  refine WL.nil ?_
  refine kg (hK_5' [(2, zP b), (3, zP b_1'), (4, zP b_2')] _ ?_)
  refine a6 (fun _ hK_6' => ?_)
  refine a4 ?_
  refine wm ?_
  obtain ⟨o_1', h⟩ := h
  obtain ⟨o_2', h⟩ := h
  refine WL.pick (H' := [HA.blk b_2' (.cells [st text, zI 0, Value.slice none 0 0].toArray 76 (0, 0)), HA.row (Value.slice none 0 0) 3 1 ([] : List Int).length (([] : List Int).flatMap q8), pool ([] : List (Nat × Obj)), HA.blk b_1' (.cells [zI 0, zI 0, st []].toArray 26 (0, 0)), HA.blk b (.cells [Tr.val Tr.none].toArray 23 (0, 0))]) [1, 0, 4, 2, 3] rfl rfl ?_
  refine WL.callS am7 rfl (o_1' b_2' te fre (Value.slice none 0 0) ([] : List Int) ([] : List (Nat × Obj)) o_2') rfl ⟨.inr (List.mem_of_getElem? (i := 0) rfl), trivial⟩ rfl rfl (fun r H' hS => ?_) (fun c H' hS => ?_)
  ·rcases hS with ⟨sz, u, j, w, B, hc, ho⟩ | ⟨c, p, q, w_1', o, B_1', hc, ho⟩ <;> cases ho
   replace h := h.1 sz u j B hc
   refine WL.make (MV.alloc p9) rfl rfl rfl (fun b_3' => ?_)
   obtain ⟨o_3', h⟩ := h
   refine WL.storeW (vs := [zI sz, u]) 0 rfl rfl rfl rfl rfl j6 rfl (c9 rfl (c9 o_3' m6)) rfl ?_
   refine WL.nil ?_
   refine kg (hK_6' [(2, zP b), (3, zP b_1'), (4, zP b_2'), (5, zP b_3')] _ ?_)
   refine a6 (fun _ hK_7' => ?_)
   refine a6 (fun _ hK_8' => ?_)
   refine a4 ?_
   refine wm ?_
   refine WL.call (A := []) aa2 rfl (aal b_2' text j w) rfl ⟨.inl ⟨1, rfl⟩, trivial⟩ rfl rfl ?_
   refine wv (OV.not rfl) ?_
   refine WL.nil ?_
   refine kg (hK_8' [(2, zP b), (3, zP b_1'), (4, zP b_2'), (5, zP b_3'), (18, zB (!(decide ((text.length : Int) ≤ j))))] _ ?_)
   refine b5 (b := !(decide ((text.length : Int) ≤ j))) rfl (fun hb => ?_) (fun hb => ?_)
   ·replace h := j4 h hb
    refine a4 ?_
    refine wm ?_
    refine wm ?_
    refine wv (OV.nilCheck rfl) ?_
    refine wv (OV.fieldAddr0 rfl d9) ?_
    refine wv (OV.load rfl (At.own 1 rfl) rfl a7) ?_
    refine WL.callS ace rfl (abx (zP b_2') 20 j) rfl trivial rfl rfl (fun r H' hS => by cases hS) (fun c H' hS => ?_)
    cases hS
    exact hE.pan (aga (A := [HA.blk b (.cells [Tr.val Tr.none].toArray 23 (0, 0)), HA.blk b_1' (.cells [zI 0, zI 0, st []].toArray 26 (0, 0))]) (A' := [HA.blk b (.cells [Tr.val Tr.none].toArray 23 (0, 0)), HA.blk b_1' (.cells [zI 20, zI j, st []].toArray 26 (0, 0))]) (Rest := [HA.blk b_3' (.cells [zI sz, u].toArray 79 (0, 0)), HA.blk b_2' (.cells [st text, zI j, w].toArray 76 (0, 0)), HA.row w 3 1 ([] : List Int).length (([] : List Int).flatMap q8), pool B]) [5, 4, 0, 1, 2, 3] rfl rfl afy (akx b b_1' Tr.none 0 0 [] 20 j []) (by intro hx; cases hx) rfl trivial [] rfl rfl (.inl ⟨_, _, _, _, h, rfl⟩) (d8.of2 rfl (RV.cell rfl (At.own 0 rfl) rfl j9) (RV.row rfl (At.own 1 rfl) aaa)))
   ·replace h := i9 h hb
    refine b7 ?_
    refine kg (hK_7' [(2, zP b), (3, zP b_1'), (5, zP b_3')] _ ?_)
    refine a6 (fun _ hK_9' => ?_)
    refine a6 (fun _ hK_10' => ?_)
    refine a4 ?_
    refine wv (OV.fieldAddr0 rfl acs) ?_
    refine wv (OV.load rfl (At.own 0 rfl) rfl a7) ?_
    refine wv (OV.gtr rfl rfl) ?_
    refine WL.nil ?_
    refine kg (hK_10' [(2, zP b), (3, zP b_1'), (5, zP b_3'), (27, zB (decide (2000 < sz)))] _ ?_)
    refine b5 (b := decide (2000 < sz)) rfl (fun hb => ?_) (fun hb => ?_)
    ·replace h := j4 h hb
     refine a6 (fun _ hK_11' => ?_)
     refine a4 ?_
     refine wv (OV.build rfl (cs := [zI 24, zI 0, st []]) rfl) ?_
     refine WL.store (vs := [Value.nilIface]) (cs' := [Value.nilIface]) 5 rfl rfl rfl rfl aeu (Nat.le_of_ble_eq_true rfl) rfl rfl rfl ?_
     refine WL.storeW (vs := [zI 24, zI 0, st []]) 4 rfl rfl rfl rfl rfl aac rfl rfl rfl ?_
     refine WL.nil ?_
     refine kg (hK_11' [(2, zP b), (3, zP b_1')] _ ?_)
     refine b9 ?_
     exact hE.ret (aga (A := [HA.blk b (.cells [Value.nilIface].toArray 23 (0, 0)), HA.blk b_1' (.cells [zI 24, zI 0, st []].toArray 26 (0, 0))]) (A' := [HA.blk b (.cells [Value.nilIface].toArray 23 (0, 0)), HA.blk b_1' (.cells [zI 24, zI 0, st []].toArray 26 (0, 0))]) (Rest := [HA.blk b_3' (.cells [zI sz, u].toArray 79 (0, 0)), HA.blk b_2' (.cells [st text, zI j, w].toArray 76 (0, 0)), HA.row w 3 1 ([] : List Int).length (([] : List Int).flatMap q8), pool B]) [5, 4, 0, 1, 2, 3] rfl rfl afy (akm b b_1' Tr.none 24 0 []) (by intro hx; cases hx) rfl trivial [] rfl rfl (.inl ⟨_, _, _, _, h, rfl⟩) (d8.of2 rfl (RV.cell rfl (At.own 0 rfl) rfl j9) (RV.row rfl (At.own 1 rfl) aaa)))
    ·replace h := i9 h hb
     refine b7 ?_
     refine kg (hK_9' [(2, zP b), (3, zP b_1'), (5, zP b_3')] _ ?_)
     refine a6 (fun _ hK_12' => ?_)
     refine a4 ?_
     refine wv (OV.fieldAddr0 rfl acn) ?_
     refine wv (OV.load rfl (At.own 0 rfl) rfl aet) ?_
     obtain ⟨y, o_4', h⟩ := h
     refine WL.cv (CV.value rfl o_4' rfl (Rd.pool 3 rfl)) rfl rfl rfl ?_
     refine wv (OV.build rfl (cs := [zI 0, zI 0, st []]) rfl) ?_
     refine WL.store (vs := [Tr.val y]) (cs' := [Tr.val y]) 5 rfl rfl rfl (Tr.val_cells _) aeu (Nat.le_of_ble_eq_true rfl) (c9 (Tr.val_one _) m6) rfl rfl ?_
     refine WL.storeW (vs := [zI 0, zI 0, st []]) 4 rfl rfl rfl rfl rfl aac rfl rfl rfl ?_
     refine WL.nil ?_
     refine kg (hK_12' [(2, zP b), (3, zP b_1')] _ ?_)
     refine b9 ?_
     exact hE.ret (aga (A := [HA.blk b (.cells [Tr.val y].toArray 23 (0, 0)), HA.blk b_1' (.cells [zI 0, zI 0, st []].toArray 26 (0, 0))]) (A' := [HA.blk b (.cells [Tr.val y].toArray 23 (0, 0)), HA.blk b_1' (.cells [zI 0, zI 0, st []].toArray 26 (0, 0))]) (Rest := [HA.blk b_3' (.cells [zI sz, u].toArray 79 (0, 0)), HA.blk b_2' (.cells [st text, zI j, w].toArray 76 (0, 0)), HA.row w 3 1 ([] : List Int).length (([] : List Int).flatMap q8), pool B]) [5, 4, 0, 1, 2, 3] rfl rfl afy (akm b b_1' y 0 0 []) (by intro hx; cases hx) rfl trivial [] rfl rfl (.inl ⟨_, _, _, _, h, rfl⟩) (d8.of2 rfl (RV.cell rfl (At.own 0 rfl) rfl j9) (RV.row rfl (At.own 1 rfl) aaa)))
  ·rcases hS with ⟨sz, u, j, w, B, hc, ho⟩ | ⟨c, p, q, w_1', o, B_1', hc, ho⟩ <;> cases ho
   replace h := h.2 c p q o B_1' hc
   exact hE.pan (aga (A := [HA.blk b (.cells [Tr.val Tr.none].toArray 23 (0, 0)), HA.blk b_1' (.cells [zI 0, zI 0, st []].toArray 26 (0, 0))]) (A' := [HA.blk b (.cells [Tr.val Tr.none].toArray 23 (0, 0)), HA.blk b_1' (.cells [zI c, zI p, st []].toArray 26 (0, 0))]) (Rest := [HA.blk b_2' (.cells [st text, zI q, w_1'].toArray 76 (0, 0)), HA.row w_1' 3 1 o.length (o.flatMap q8), pool B_1']) [4, 3, 0, 1, 2] rfl rfl afy (akx b b_1' Tr.none 0 0 [] c p []) (by intro hx; cases hx) rfl trivial [] rfl rfl (.inl ⟨_, _, _, _, h, rfl⟩) (d8.of2 rfl (RV.cell rfl (At.own 0 rfl) rfl j9) (RV.row rfl (At.own 1 rfl) aaa)))
theorem al6 (te : TypeId) (fre : Nat × Nat) (t : List UInt8) : c8 Tryd.prog 14 [st t] (z6 te fre) [] (Ret (.tuple #[(j8 t).val, .agg [.int .i64 (p8 t).1, .int .i64 (p8 t).2, st []].toArray]) []) := by
 refine (awo te fre t (fun v c p x => v = j8 t ∧ c = (p8 t).1 ∧ p = (p8 t).2 ∧ x = []) ?_).weak ?_
 ·have hE : ∀ e, v7 t = .error e → Tr.none = j8 t ∧ e.1 = (p8 t).1 ∧ e.2 = (p8 t).2 ∧ ([] : List UInt8) = [] := fun e h => by
   unfold j8 p8; rw [h]; exact ⟨rfl, rfl, rfl, rfl⟩
  unfold akh
  by_cases hl : 1048576 < t.length
  ·rw [if_pos (by simp; omega)]
   exact hE (1, 0) (by unfold v7; rw [if_pos hl])
  rw [if_neg (by simp; omega)]
  refine ⟨ah6 t 0, ⟨by omega, by omega, by omega, by simp⟩, ?_, fun c p _ _ _ hR => hE (c, p) (by
   unfold v7; rw [if_neg hl, ajn (R := .error (c, p)) ⟨_, hR, rfl⟩])⟩
  rintro n u j B ⟨g1, g2, g3, g4, x, g5, g6⟩
  refine ⟨g2.2, ?_⟩
  by_cases hj : j < t.length
  ·rw [if_pos (by simp; omega)]
   exact hE (20, j) (by unfold v7; rw [if_neg hl, ajn (R := .error (20, j)) ⟨_, g5, by simp only [if_pos hj]⟩])
  rw [if_neg (by simp; omega)]
  have hT : aer t = .ok x := ajn ⟨_, g5, by simp only [if_neg hj]⟩
  have hn := g6.2
  by_cases hz : 2000 < x.size
  ·rw [if_pos (by simp; omega)]
   exact hE (24, 0) (by unfold v7; rw [if_neg hl, hT]; simp only [if_pos hz])
  ·rw [if_neg (by simp; omega)]
   have hP : v7 t = .ok x := by unfold v7; rw [if_neg hl, hT]; simp only [if_neg hz]
   refine ⟨x, g6.1, ?_⟩
   unfold j8 p8; rw [hP]; exact ⟨rfl, rfl, rfl, rfl⟩
 ·rintro o (⟨v, c, p, x, ⟨rfl, rfl, rfl, rfl⟩, rfl⟩ | h)
  ·rfl
  ·exact h.elim
end Go.Proofs.YtohnchdnkbadaaaDoor
set_option maxRecDepth 100000
namespace Go.Proofs.YtohnchdnkbadaaaDoor
open Go Go.RowKit
theorem ank : o6 Tryd.prog 14 = true := by kernel_rfl
theorem ani : o6 Tryd.prog 21 = true := by kernel_rfl
def ao4 (te : TypeId) (fre : Nat × Nat) (n : Tr) (K : (List UInt8) → Prop) : Prop :=
 (c8 Tryd.prog 51 [Tr.val n, zI 0] (z6 te fre) [] (Ret (st (b8 n 0)) [])) ∧
 K (b8 n 0)
theorem axg (te : TypeId) (fre : Nat × Nat) (n : Tr) (K : (List UInt8) → Prop) (h : ao4 te fre n K) :
  c8 Tryd.prog 21 [Tr.val n] [(1, .cells [zU 110, zU 10, zU 114, zU 13, zU 116, zU 9].toArray te fre)] [] (fun o => (∃ (v : List UInt8), K v ∧ o = .ret (st v) []) ∨ (False)) := by
 unfold ao4 at h
 refine c6 (n := 5) (L0 := [(0, Tr.val n)]) Tryd.func21 rfl rfl rfl rfl (fun w0 M Q hE => ?_)
 refine a6 (fun _ hK => ?_)
 refine a4 ?_
 refine wa ?_
 refine WL.nil ?_
 refine kg (hK [(0, Tr.val n)] _ ?_)
 refine a6 (fun _ hK_1' => ?_)
 refine a4 ?_
 refine wm ?_
 obtain ⟨o, h⟩ := h
 refine WL.call (A := []) aaz rfl (o) rfl ⟨.inr (List.mem_of_getElem? (i := 0) rfl), trivial⟩ rfl rfl ?_
 refine wa ?_
 refine WL.nil ?_
 refine kg (hK_1' [(2, st (b8 n 0))] _ ?_)
 refine b9 ?_
 exact hE.ret [] rfl rfl (.inl ⟨_, h, rfl⟩) (d8.of1 rfl (RV.tmp rfl))
theorem ajz (te : TypeId) (fre : Nat × Nat) (x : Tr) (h : x.size ≤ 1099511627776) : c8 Tryd.prog 21 [x.val] (z6 te fre) [] (Ret (st (b8 x 0)) []) := c8.one (axg te fre x (fun v => v = b8 x 0) ⟨aax te fre x 0 h, rfl⟩)
theorem auw {t : List UInt8} {x : Tr} (hl : t.length ≤ 1048576) (hs : x.size ≤ 2000) (h : PR t .alt 0 0 (.ok (x, t.length))) : v7 t = .ok x := by
 unfold v7
 rw [if_neg (by omega), ajn (R := .ok x) ⟨_, h, by simp⟩]
 simp only
 rw [if_neg (by omega)]
theorem axs {t : List UInt8} {i : Int} {c : UInt8} {d : Nat} {acc : Option Tr} {r : adv} (hi : i < t.length) (hc : nx t i ∉ [124, 38, 45, 41, 42, 43, 63, 123, 40]) (hm : j7 t i = (ofS [c], i + 1, 0, 0)) (hz : ¬ (i + 1 < t.length ∧ (nx t (i + 1) = 42 ∨ nx t (i + 1) = 43 ∨ nx t (i + 1) = 63 ∨ nx t (i + 1) = 123))) (h : PR t (.row (ajk acc (.cls (ofS [c])))) d (i + 1) r) : PR t (.row acc) d i r :=
 .rowC hi hc hm (.zero hz) h
theorem atq : v7 [97, 43, 124, 98] = .ok (.alt (.cat (.cls (ofS [97])) (.star (.cls (ofS [97])))) (.cls (ofS [98]))) :=
 auw (by decide) (by decide) (.alt (.meet (.rowC (s := ofS [97]) (k := 1) (by decide) (by decide) (by kernel_rfl) (.one (by decide) (by decide) (.zero (by decide))) (.rowZ (by decide))) (.meetZ (by decide)))
  (.altL (by decide) (by decide) (.meet (axs (c := 98) (by decide) (by decide) (by kernel_rfl) (by decide) (.rowZ (by decide))) (.meetZ (by decide))) (.altZ (by decide))))
theorem ay1 : x8 (ofS [97]) = [97] := by kernel_rfl
theorem ay6 : x8 (ofS [98]) = [98] := by kernel_rfl
def aid  (K : Bool → Prop) : Prop :=
 (((y5 [decide ((p8 ([97, 43, 124, 98] : List UInt8)).1 = 0), decide ((p8 ([97, 43, 124, 98] : List UInt8)).2 = 0), decide (([] : List UInt8) = [])]) && (!(j8 ([97, 43, 124, 98] : List UInt8)).isNone)) = true → (Tr.size (j8 ([97, 43, 124, 98] : List UInt8)) ≤ 1099511627776)) ∧
 K (((y5 [decide ((p8 ([97, 43, 124, 98] : List UInt8)).1 = 0), decide ((p8 ([97, 43, 124, 98] : List UInt8)).2 = 0), decide (([] : List UInt8) = [])]) && (!(j8 ([97, 43, 124, 98] : List UInt8)).isNone)) && (decide (b8 (j8 ([97, 43, 124, 98] : List UInt8)) 0 = ([97, 97, 42, 124, 98] : List UInt8))))
theorem aul (te : TypeId) (fre : Nat × Nat)  (K : Bool → Prop) (h : aid  K) :
  c8 Tryd.prog 19 [] [(1, .cells [zU 110, zU 10, zU 114, zU 13, zU 116, zU 9].toArray te fre)] [] (fun o => (∃ (v : Bool), K v ∧ o = .ret (zB v) []) ∨ (False)) := by
 unfold aid at h
 refine c6 (n := 19) (L0 := []) Tryd.func19 rfl rfl rfl rfl (fun w0 M Q hE => ?_)
 refine a6 (fun _ hK => ?_)
 refine a4 ?_
 refine wa ?_
 refine WL.nil ?_
 refine KX.go (hK [] _ ?_) trivial
 refine a6 (fun _ hK_1' => ?_)
 refine a4 ?_
 refine WL.call (A := []) ank rfl (al6 te fre ([97, 43, 124, 98] : List UInt8)) rfl ⟨.inr (List.mem_of_getElem? (i := 0) rfl), trivial⟩ rfl rfl ?_
 refine wm ?_
 refine wv (OV.extract 0 rfl rfl) ?_
 refine wv (OV.extract 1 rfl rfl) ?_
 refine WL.make (MV.alloc ach) rfl rfl rfl (fun b => ?_)
 refine wa ?_
 refine WL.storeW (vs := [zI ((p8 ([97, 43, 124, 98] : List UInt8)).1), zI ((p8 ([97, 43, 124, 98] : List UInt8)).2), st []]) 0 rfl rfl rfl rfl rfl aac rfl rfl rfl ?_
 refine WL.nil ?_
 refine kg (hK_1' [(1, Tr.val (j8 ([97, 43, 124, 98] : List UInt8))), (2, zP b)] _ ?_)
 refine a6 (fun _ hK_2' => ?_)
 refine a4 ?_
 refine wv (OV.loadR rfl (At.own 0 rfl) aaa) ?_
 refine wv (OV.build rfl (cs := [zI 0, zI 0, st []]) rfl) ?_
 refine wv (OV.eqlF (rs := [decide ((p8 ([97, 43, 124, 98] : List UInt8)).1 = 0), decide ((p8 ([97, 43, 124, 98] : List UInt8)).2 = 0), decide (([] : List UInt8) = [])]) rfl rfl Tryd.underlying26 afh aij ⟨rfl, ag0, ⟨_, _, rfl, rfl, abp.int Tryd.underlying24⟩, ⟨rfl, a7, ⟨_, _, rfl, rfl, abp.int Tryd.underlying3⟩, ⟨rfl, aa3, ⟨_, _, rfl, rfl, abp.str Tryd.underlying9⟩, trivial⟩⟩⟩) ?_
 refine wm ?_
 refine WL.cut 3 [(1, Tr.val (j8 ([97, 43, 124, 98] : List UInt8))), (13, zB ((y5 [decide ((p8 ([97, 43, 124, 98] : List UInt8)).1 = 0), decide ((p8 ([97, 43, 124, 98] : List UInt8)).2 = 0), decide (([] : List UInt8) = [])]) && (!(j8 ([97, 43, 124, 98] : List UInt8)).isNone)))] ?_ (fun K0_3' hK_3' => ?_)
 rotate_left
 ·refine WL.split (y5 [decide ((p8 ([97, 43, 124, 98] : List UInt8)).1 = 0), decide ((p8 ([97, 43, 124, 98] : List UInt8)).2 = 0), decide (([] : List UInt8) = [])]) (fun hb => ?_) (fun hb => ?_)
  ·refine WL.set 10 rfl (congrArg zB hb) ?_
   refine wm ?_
   refine wv (OV.neqTr rfl Tryd.underlying23) ?_
   refine wv (OV.pickT rfl rfl) ?_
   refine WL.set 13 rfl (bT (v := !(j8 ([97, 43, 124, 98] : List UInt8)).isNone) hb) ?_
   exact WL.end_ (kg hK_3')
  ·refine WL.set 10 rfl (congrArg zB hb) ?_
   refine wk ?_
   refine wk ?_
   refine wv (OV.pickF rfl rfl) ?_
   refine WL.set 13 rfl (bF (v := !(j8 ([97, 43, 124, 98] : List UInt8)).isNone) hb) ?_
   exact WL.end_ (kg hK_3')
 refine wm ?_
 obtain ⟨o_2', h⟩ := h
 refine WL.cut 4 [(18, zB (((y5 [decide ((p8 ([97, 43, 124, 98] : List UInt8)).1 = 0), decide ((p8 ([97, 43, 124, 98] : List UInt8)).2 = 0), decide (([] : List UInt8) = [])]) && (!(j8 ([97, 43, 124, 98] : List UInt8)).isNone)) && (decide (b8 (j8 ([97, 43, 124, 98] : List UInt8)) 0 = ([97, 97, 42, 124, 98] : List UInt8)))))] ?_ (fun K0_4' hK_4' => ?_)
 rotate_left
 ·refine WL.split ((y5 [decide ((p8 ([97, 43, 124, 98] : List UInt8)).1 = 0), decide ((p8 ([97, 43, 124, 98] : List UInt8)).2 = 0), decide (([] : List UInt8) = [])]) && (!(j8 ([97, 43, 124, 98] : List UInt8)).isNone)) (fun hb => ?_) (fun hb => ?_)
  ·have o_1' := o_2' hb
   refine WL.set 14 rfl (congrArg zB hb) ?_
   refine wm ?_
   refine WL.call (A := []) ani rfl (ajz te fre (j8 ([97, 43, 124, 98] : List UInt8)) o_1') rfl ⟨.inr (List.mem_of_getElem? (i := 0) rfl), trivial⟩ rfl rfl ?_
   refine wv (OV.eqlS rfl rfl) ?_
   refine wv (OV.pickT rfl rfl) ?_
   refine WL.set 18 rfl (bT (v := decide (b8 (j8 ([97, 43, 124, 98] : List UInt8)) 0 = ([97, 97, 42, 124, 98] : List UInt8))) hb) ?_
   exact WL.end_ (kg hK_4')
  ·refine WL.set 14 rfl (congrArg zB hb) ?_
   refine wk ?_
   refine wk ?_
   refine wk ?_
   refine wv (OV.pickF rfl rfl) ?_
   refine WL.set 18 rfl (bF (v := decide (b8 (j8 ([97, 43, 124, 98] : List UInt8)) 0 = ([97, 97, 42, 124, 98] : List UInt8))) hb) ?_
   exact WL.end_ (kg hK_4')
 refine wa ?_
 refine WL.nil ?_
 refine kg (hK_2' [(0, zB (((y5 [decide ((p8 ([97, 43, 124, 98] : List UInt8)).1 = 0), decide ((p8 ([97, 43, 124, 98] : List UInt8)).2 = 0), decide (([] : List UInt8) = [])]) && (!(j8 ([97, 43, 124, 98] : List UInt8)).isNone)) && (decide (b8 (j8 ([97, 43, 124, 98] : List UInt8)) 0 = ([97, 97, 42, 124, 98] : List UInt8)))))] _ ?_)
 refine b9 ?_
 exact hE.ret [] rfl rfl (.inl ⟨_, h, rfl⟩) (d8.of1 rfl (RV.tmp rfl))
def aqf (e : Int) (at0 : Int) (K : Int → Int → (List UInt8) → Prop) : Prop :=
 K e at0 []
theorem axa  (e : Int) (at0 : Int) (K : Int → Int → (List UInt8) → Prop) (h : aqf e at0 K) :
  c8 Tryd.prog 20 [zI e, zI at0] [] [] (fun o => (∃ (v_0 : Int) (v_1 : Int) (v_2 : List UInt8), K v_0 v_1 v_2 ∧ o = .ret (Value.agg [zI v_0, zI v_1, st v_2].toArray) []) ∨ (False)) := by
 unfold aqf at h
 refine c6 (n := 8) (L0 := [(0, zI e), (1, zI at0)]) Tryd.func20 rfl rfl rfl rfl (fun w0 M Q hE => ?_)
 refine a6 (fun _ hK => ?_)
 refine a4 ?_
 refine WL.make (MV.alloc ach) rfl rfl rfl (fun b => ?_)
 refine WL.nil ?_
 refine kg (hK [(0, zI e), (1, zI at0), (4, zP b)] _ ?_)
 refine a6 (fun _ hK_1' => ?_)
 refine a4 ?_
 refine wm ?_
 refine wm ?_
 refine wv (OV.build rfl (cs := [zI e, zI at0, st []]) rfl) ?_
 refine WL.storeW (vs := [zI e, zI at0, st []]) 0 rfl rfl rfl rfl rfl aac rfl rfl rfl ?_
 refine WL.nil ?_
 refine kg (hK_1' [(4, zP b)] _ ?_)
 refine b9 ?_
 exact hE.ret [] rfl rfl (.inl ⟨_, _, _, h, rfl⟩) (d8.of1 rfl (RV.row rfl (At.own 0 rfl) aaa))
theorem ap5 (te : TypeId) (fre : Nat × Nat) : c8 Tryd.prog 19 [] (z6 te fre) [] (Ret (.bool true) []) := by
 refine c8.one (e := fun v => .bool v) (aul te fre (fun v => v = true) ?_)
 unfold aid
 rw [(at2 atq).1, (at2 atq).2]
 refine ⟨fun _ => by decide, ?_⟩
 have : b8 (.alt (.cat (.cls (ofS [97])) (.star (.cls (ofS [97])))) (.cls (ofS [98]))) 0 = [97, 97, 42, 124, 98] := by
  simp [b8, w4, agf, ala, ay1, ay6]
 rw [this]; rfl
theorem ar9 (e p : Int) : c8 Tryd.prog 20 [.int .i64 e, .int .i64 p] [] [] (Ret (.agg [.int .i64 e, .int .i64 p, st []].toArray) []) := by
 refine (axa e p (fun a b c => a = e ∧ b = p ∧ c = []) ⟨rfl, rfl, rfl⟩).weak ?_
 rintro o (⟨a, b, c, ⟨rfl, rfl, rfl⟩, rfl⟩ | h)
 ·rfl
 ·exact h.elim
end Go.Proofs.YtohnchdnkbadaaaDoor
namespace Go.Proofs.YtohnchdnkbadaaaDoor
open Go Go.RowKit
variable {P : Program} {C : Cx} {H : List HA}
theorem LOk.at {v : Value} {n : Nat} {xs : List Value} (hL : LOk C H v n xs) {w : World} (hp : Hp C H w) : ∃ R, acx v R n xs ∧ ∀ p ∈ R, w.heap[p.1]? = some p.2 := by
 obtain ⟨F, h1, _⟩ := hp.own
 obtain ⟨R, hR, hh⟩ := hL w F h1
 refine ⟨R, hR, fun p hp' => ?_⟩
 rcases hh p hp' with h | h
 ·exact h.1
 ·exact hp.old h
theorem FL.callL {ops : Array Oper} {T : World → o7 → Act → Prop} {L : FSl} {zl : List (Nat × Obj)} {k : Nat} {rest : List Oper} {f : FuncId} {xs : List Operand} {ats : Array TypeId} {d : Nat} {ty : TypeId} {p : String} {e : Array Edge} {g : Option (Nat × Bool)} {vs : List Value} {v v1 : Value} {n1 : Nat} {xs1 : List Value}
  (he : o6 P f = true) (hx : ∀ β, evs (L β) xs = some vs) (hc : ∀ R, acx v1 R n1 xs1 → c8 P f vs (R ++ []) [] (Ret v [])) (hL : LOk C H v1 n1 xs1)
  (hz : y8 zl k = none) (hw : ∀ β, r9 ops (L β) ⟨some d, .call ⟨.value (.func f), xs.toArray, ats⟩, ty, p, e, g⟩ = some true) (hn : Nat.blt d C.n = true)
  (h : FL P ops T C (fun β => (d, v) :: L β) H zl (k + 1) rest) : FL P ops T C L H zl k (⟨some d, .call ⟨.value (.func f), xs.toArray, ats⟩, ty, p, e, g⟩ :: rest) := by
 intro A w0 hf hp
 refine ⟨fun _ => v, .inr ⟨hz, v, rfl, fun β => .inl ⟨m3 (hf β) (hw β), fun w hb => ?_⟩⟩, ?_⟩
 ·have hpw := hp.below hb
  obtain ⟨R, hR, hh⟩ := hL.at hpw
  rw [(EN.fn he (hx β)) _ w (hf β) hpw]
  refine (hc R hR w [] rfl List.nodup_nil (fun k hk => by cases hk) (fun q hq => ⟨hh q (by simpa using hq), by simp⟩)).mono ?_
  rintro en w' ⟨H', hS, hh⟩
  rcases hS with ⟨r, rfl, hS⟩ | ⟨c, rfl, hS⟩
  ·cases hS; exact ⟨rfl, hh.toBelow⟩
  ·cases hS
 ·exact h _ w0 (fun β => (hf β).put hn v) hp
end Go.Proofs.YtohnchdnkbadaaaDoor
namespace Go.Proofs.YtohnchdnkbadaaaDoor
open Go Go.RowKit
def Sg (t : List UInt8) (i : Int) (s : List UInt8) : Prop := 0 ≤ i ∧ ∃ v, t.drop i.toNat = s ++ v
section
variable {t a b s : List UInt8} {i : Int} {c : UInt8}
end
def azc (t : List UInt8) (k : Int) : Prop := k < t.length ∧ (nx t k = 42 ∨ nx t k = 43 ∨ nx t k = 63 ∨ nx t k = 123)
def azq (t : List UInt8) (k : Int) : Prop := ¬ (k < t.length ∧ nx t k ≠ 124 ∧ nx t k ≠ 38 ∧ nx t k ≠ 45 ∧ nx t k ≠ 41)
def azk (t : List UInt8) (k : Int) : Prop := ¬ (k < t.length ∧ nx t k ≠ 124 ∧ nx t k ≠ 41)
def az2 (t : List UInt8) (acc : Option Tr) (d : Nat) (x : Tr) (k : Int) (r : adv) : Prop := ∃ q, RP t x k q ∧ match q with
 | .error e => r = .error e
 | .ok (y, l) => PR t (.row (ajk acc y)) d l r
def R3 (x : Tr) (s : List UInt8) (Q : Nat → Prop) : Prop := ∀ (t : List UInt8) (d : Nat) (i : Int) (acc : Option Tr) (r : adv), Sg t i s → Q d → az2 t acc d x (i + s.length) r → PR t (.row acc) d i r
def R2 (x : Tr) (s : List UInt8) (Q : Nat → Prop) : Prop := ∀ (t : List UInt8) (d : Nat) (i : Int) (r : adv), Sg t i s → Q d → ¬ azc t (i + s.length) → PR t (.row (some x)) d (i + s.length) r → PR t (.row none) d i r
def R1 (x : Tr) (s : List UInt8) (Q : Nat → Prop) : Prop := ∀ (t : List UInt8) (d : Nat) (i : Int) (r : adv), Sg t i s → Q d → azq t (i + s.length) → PR t (.meetL x) d (i + s.length) r → PR t .meet d i r
def R0 (x : Tr) (s : List UInt8) (Q : Nat → Prop) : Prop := ∀ (t : List UInt8) (d : Nat) (i : Int) (r : adv), Sg t i s → Q d → azk t (i + s.length) → PR t (.altL x) d (i + s.length) r → PR t .alt d i r
section
variable {x a b : Tr} {s sa sb : List UInt8} {Q Q' Qa Qb : Nat → Prop}
end
def Dp (x : Tr) (d : Nat) : Prop := 2 * d + x.size ≤ 2000
structure Reads (x : Tr) : Prop where
 h3 : R3 x (b8 x 3) (Dp x)
 h2 : R2 x (b8 x 2) (Dp x)
 h1 : R1 x (b8 x 1) (Dp x)
 h0 : R0 x (b8 x 0) (Dp x)
end Go.Proofs.YtohnchdnkbadaaaDoor
set_option maxRecDepth 100000
namespace Go.Proofs.YtohnchdnkbadaaaDoor
open Go Go.RowKit
theorem avh : o6 Tryd.prog 17 = true := by kernel_rfl
theorem at9 : o6 Tryd.prog 19 = true := by kernel_rfl
theorem aui : o6 Tryd.prog 20 = true := by kernel_rfl
theorem avr : o6 Tryd.prog 22 = true := by kernel_rfl
theorem avo : o6 Tryd.prog 23 = true := by kernel_rfl
theorem avs : o6 Tryd.prog 24 = true := by kernel_rfl
def ahg (text : List UInt8) (K : Bool → Prop) : Prop :=
 (
  (if (!y5 [decide ((p8 text).1 = (p8 text).1), decide ((p8 text).2 = (p8 text).2), decide (([] : List UInt8) = [])]) = true then
   K false
  else
   (if (!decide ((p8 text).1 = 0)) = true then
    K ((j8 text).isNone)
   else
    (((j8 text).isNone) = false → (Tr.size (j8 text) ≤ 1099511627776) ∧ (aqx (reN text) (t7 text))) ∧
    (if (((j8 text).isNone) || (!decide (b8 (j8 text) 0 = b8 (c7 (reN text) (t7 text)) 0))) = true then
     K false
    else
     (aan Tryd.prog (Tr.val (j8 text)) "Size" [] (zI (((j8 text).size : Nat) : Int))) ∧
     (aqx (reN text) (t7 text)) ∧
     ((decide ((((j8 text).size : Nat) : Int) = ((c7 (reN text) (t7 text)).size : Int))) = true → (aan Tryd.prog (Tr.val (j8 text)) "Nullable" [] (zB ((j8 text).null))) ∧ (aqx (reN text) (t7 text))) ∧
     K ((decide ((((j8 text).size : Nat) : Int) = ((c7 (reN text) (t7 text)).size : Int))) && (((j8 text).null) == ((c7 (reN text) (t7 text)).null)))))))
theorem asp (te : TypeId) (fre : Nat × Nat) (text : List UInt8) (K : Bool → Prop) (h : ahg text K) :
  c8 Tryd.prog 4 [st text] [(1, .cells [zU 110, zU 10, zU 114, zU 13, zU 116, zU 9].toArray te fre)] [] (fun o => (∃ (v : Bool), K v ∧ o = .ret (zB v) []) ∨ (False)) := by
 unfold ahg at h
 refine c6 (n := 51) (L0 := [(0, st text)]) Tryd.func4 rfl rfl rfl rfl (fun w0 M Q hE => ?_)
 refine a6 (fun _ hK => ?_)
 refine a4 ?_
 refine wa ?_
 refine WL.nil ?_
 refine kg (hK [(0, st text)] _ ?_)
 refine a6 (fun _ hK_1' => ?_)
 refine a6 (fun _ hK_2' => ?_)
 refine a4 ?_
 refine WL.call (A := []) at9 rfl (ap5 te fre) rfl ⟨.inr (List.mem_of_getElem? (i := 0) rfl), trivial⟩ rfl rfl ?_
 refine wv (OV.not rfl) ?_
 refine WL.nil ?_
 refine kg (hK_2' [(0, st text), (9, zB false)] _ ?_)
 refine n6 rfl ?_
 refine b7 ?_
 refine kg (hK_1' [(0, st text)] _ ?_)
 refine a6 (fun _ hK_3' => ?_)
 refine a4 ?_
 refine wm ?_
 refine WL.call (A := []) ank rfl (al6 te fre text) rfl ⟨.inr (List.mem_of_getElem? (i := 0) rfl), trivial⟩ rfl rfl ?_
 refine wm ?_
 refine wv (OV.extract 0 rfl rfl) ?_
 refine wv (OV.extract 1 rfl rfl) ?_
 refine WL.make (MV.alloc ach) rfl rfl rfl (fun b => ?_)
 refine wa ?_
 refine WL.storeW (vs := [zI ((p8 text).1), zI ((p8 text).2), st []]) 0 rfl rfl rfl rfl rfl aac rfl rfl rfl ?_
 refine WL.nil ?_
 refine kg (hK_3' [(0, st text), (3, Tr.val (j8 text)), (4, zP b)] _ ?_)
 refine a6 (fun _ hK_4' => ?_)
 refine a4 ?_
 refine wm ?_
 refine WL.callS avh rfl (apt text) rfl trivial rfl rfl (fun r H' hS => ?_) (fun c H' hS => ?_)
 ·obtain ⟨w, ho⟩ := hS
  cases ho
  refine wm ?_
  refine wv (OV.extract 0 rfl rfl) ?_
  refine wv (OV.extract 1 rfl rfl) ?_
  refine wv (OV.extract 2 rfl rfl) ?_
  refine WL.make (MV.alloc ag3) rfl rfl rfl (fun b_1' => ?_)
  refine WL.nilRow 102 261 ndC ?_
  refine WL.rowOne 2 rfl (fun hone => ?_)
  refine WL.storeW (vs := [w, zI (t7 text)]) 1 rfl rfl rfl rfl rfl aam rfl (c9 hone (c9 rfl m6)) rfl ?_
  refine wa ?_
  refine wa ?_
  refine WL.nil ?_
  refine kg (hK_4' [(3, Tr.val (j8 text)), (4, zP b), (5, zP b_1'), (6, zI ((p8 text).1)), (7, zI ((p8 text).2))] _ ?_)
  refine a6 (fun _ hK_5' => ?_)
  refine a6 (fun _ hK_6' => ?_)
  refine n9 4 [] f0 (by kernel_rfl) rfl (fun T hT => ?_)
  refine fv (fun _ => OV.loadR rfl (At.own 3 rfl) aaa) ?_
  refine fv (fun _ => OV.move rfl) ?_
  refine fv (fun _ => OV.move rfl) ?_
  refine FL.call aui (fun _ => rfl) (ar9 ((p8 text).1) ((p8 text).2)) trivial rfl (fun _ => rfl) rfl ?_
  refine FL.weak (L' := fun γ => [(3, Tr.val (j8 text)), (5, zP b_1'), (6, zI ((p8 text).1)), (21, Value.agg [zI ((p8 text).1), zI ((p8 text).2), st []].toArray), (24, Value.agg [zI ((p8 text).1), zI ((p8 text).2), st []].toArray)]) (fun γ => ⟨rfl, rfl, rfl, rfl, rfl, trivial⟩) (FL.nil (hT (fun γ => [(3, Tr.val (j8 text)), (5, zP b_1'), (6, zI ((p8 text).1)), (21, Value.agg [zI ((p8 text).1), zI ((p8 text).2), st []].toArray), (24, Value.agg [zI ((p8 text).1), zI ((p8 text).2), st []].toArray)]) (fun γ => ?_)))
  refine wv (OV.neqF (rs := [decide ((p8 text).1 = (p8 text).1), decide ((p8 text).2 = (p8 text).2), decide (([] : List UInt8) = [])]) rfl rfl Tryd.underlying26 afh aij ⟨rfl, ag0, ⟨_, _, rfl, rfl, abp.int Tryd.underlying24⟩, ⟨rfl, a7, ⟨_, _, rfl, rfl, abp.int Tryd.underlying3⟩, ⟨rfl, aa3, ⟨_, _, rfl, rfl, abp.str Tryd.underlying9⟩, trivial⟩⟩⟩) ?_
  refine WL.nil ?_
  refine kg (hK_6' [(3, Tr.val (j8 text)), (5, zP b_1'), (6, zI ((p8 text).1)), (25, zB (!y5 [decide ((p8 text).1 = (p8 text).1), decide ((p8 text).2 = (p8 text).2), decide (([] : List UInt8) = [])]))] _ ?_)
  refine b5 (b := !y5 [decide ((p8 text).1 = (p8 text).1), decide ((p8 text).2 = (p8 text).2), decide (([] : List UInt8) = [])]) rfl (fun hb => ?_) (fun hb => ?_)
  ·replace h := j4 h hb
   refine a6 (fun _ hK_7' => ?_)
   refine a4 ?_
   refine wa ?_
   refine WL.nil ?_
   refine kg (hK_7' [(2, zB false)] _ ?_)
   refine b9 ?_
   exact hE.ret [] rfl rfl (.inl ⟨_, h, rfl⟩) (d8.of1 rfl (RV.tmp rfl))
  ·replace h := i9 h hb
   refine b7 ?_
   refine kg (hK_5' [(3, Tr.val (j8 text)), (5, zP b_1'), (6, zI ((p8 text).1))] _ ?_)
   refine a6 (fun _ hK_8' => ?_)
   refine a6 (fun _ hK_9' => ?_)
   refine a4 ?_
   refine wm ?_
   refine wv (OV.neq rfl rfl) ?_
   refine WL.nil ?_
   refine kg (hK_9' [(3, Tr.val (j8 text)), (5, zP b_1'), (27, zB (!decide ((p8 text).1 = 0)))] _ ?_)
   refine b5 (b := !decide ((p8 text).1 = 0)) rfl (fun hb => ?_) (fun hb => ?_)
   ·replace h := j4 h hb
    refine a6 (fun _ hK_10' => ?_)
    refine a4 ?_
    refine wm ?_
    refine wv (OV.eqlTr rfl Tryd.underlying23) ?_
    refine wa ?_
    refine WL.nil ?_
    refine kg (hK_10' [(2, zB ((j8 text).isNone))] _ ?_)
    refine b9 ?_
    exact hE.ret [] rfl rfl (.inl ⟨_, h, rfl⟩) (d8.of1 rfl (RV.tmp rfl))
   ·replace h := i9 h hb
    refine b7 ?_
    refine kg (hK_8' [(3, Tr.val (j8 text)), (5, zP b_1')] _ ?_)
    refine a6 (fun _ hK_11' => ?_)
    refine a6 (fun _ hK_12' => ?_)
    refine ai2 [] f0 (by kernel_rfl) rfl (fun T_1' hT_1' => ?_)
    refine fv (fun _ => OV.move rfl) ?_
    refine fv (fun _ => OV.eqlTr rfl Tryd.underlying23) ?_
    refine fv (fun _ => OV.move rfl) ?_
    obtain ⟨o_2', h⟩ := h
    refine FL.cut 6 rfl (fun _ => [(3, Tr.val (j8 text)), (5, zP b_1'), (38, zB (((j8 text).isNone) || (!decide (b8 (j8 text) 0 = b8 (c7 (reN text) (t7 text)) 0))))]) ?_ (fun K0_13' hK_13' => ?_)
    rotate_left
    ·refine FL.split ((j8 text).isNone) (fun hb => ?_) (fun hb => ?_)
     ·refine FL.set 32 (fun _ => rfl) (congrArg zB hb) ?_
      refine FL.skip rfl (fun _ => rfl) rfl rfl ?_
      refine FL.skip rfl (fun _ => rfl) rfl rfl ?_
      refine FL.skip rfl (fun _ => rfl) rfl rfl ?_
      refine FL.skip rfl (fun _ => rfl) rfl rfl ?_
      refine FL.skip rfl (fun _ => rfl) rfl rfl ?_
      refine fv (fun _ => OV.pickT rfl rfl) ?_
      refine FL.set 38 (fun _ => rfl) (oT (v := !decide (b8 (j8 text) 0 = b8 (c7 (reN text) (t7 text)) 0)) hb) ?_
      exact FL.weak (L' := fun _ => [(3, Tr.val (j8 text)), (5, zP b_1'), (38, zB (((j8 text).isNone) || (!decide (b8 (j8 text) 0 = b8 (c7 (reN text) (t7 text)) 0))))]) (fun _ => ⟨rfl, rfl, rfl, trivial⟩) (FL.nil hK_13')
     ·obtain ⟨o, o_1'⟩ := o_2' hb
      refine FL.set 32 (fun _ => rfl) (congrArg zB hb) ?_
      refine fv (fun _ => OV.move rfl) ?_
      refine FL.call ani (fun _ => rfl) (ajz te fre (j8 text) o) ⟨.inr (List.mem_of_getElem? (i := 0) rfl), trivial⟩ rfl (fun _ => rfl) rfl ?_
      refine fv (fun _ => OV.loadR rfl (At.own 1 rfl) l0) ?_
      refine FL.callL avr (fun _ => rfl) (fun R hR => ao1 w (reN text) (t7 text) o_1' R hR) (LOk.row 2 rfl) rfl (fun _ => rfl) rfl ?_
      refine fv (fun _ => OV.neqS rfl rfl) ?_
      refine fv (fun _ => OV.pickF rfl rfl) ?_
      refine FL.set 38 (fun _ => rfl) (oF (v := !decide (b8 (j8 text) 0 = b8 (c7 (reN text) (t7 text)) 0)) hb) ?_
      exact FL.weak (L' := fun _ => [(3, Tr.val (j8 text)), (5, zP b_1'), (38, zB (((j8 text).isNone) || (!decide (b8 (j8 text) 0 = b8 (c7 (reN text) (t7 text)) 0))))]) (fun _ => ⟨rfl, rfl, rfl, trivial⟩) (FL.nil hK_13')
    refine FL.weak (L' := fun _ => [(3, Tr.val (j8 text)), (5, zP b_1'), (38, zB (((j8 text).isNone) || (!decide (b8 (j8 text) 0 = b8 (c7 (reN text) (t7 text)) 0))))]) (fun _ => ⟨rfl, rfl, rfl, trivial⟩) (FL.nil (hT_1' (fun _ => [(3, Tr.val (j8 text)), (5, zP b_1'), (38, zB (((j8 text).isNone) || (!decide (b8 (j8 text) 0 = b8 (c7 (reN text) (t7 text)) 0))))]) (fun _ => ?_)))
    refine kg (hK_12' [(3, Tr.val (j8 text)), (5, zP b_1'), (38, zB (((j8 text).isNone) || (!decide (b8 (j8 text) 0 = b8 (c7 (reN text) (t7 text)) 0))))] _ ?_)
    refine b5 (b := ((j8 text).isNone) || (!decide (b8 (j8 text) 0 = b8 (c7 (reN text) (t7 text)) 0))) rfl (fun hb => ?_) (fun hb => ?_)
    ·replace h := j4 h hb
     refine a6 (fun _ hK_14' => ?_)
     refine a4 ?_
     refine wa ?_
     refine WL.nil ?_
     refine kg (hK_14' [(2, zB false)] _ ?_)
     refine b9 ?_
     exact hE.ret [] rfl rfl (.inl ⟨_, h, rfl⟩) (d8.of1 rfl (RV.tmp rfl))
    ·replace h := i9 h hb
     refine b7 ?_
     refine kg (hK_11' [(3, Tr.val (j8 text)), (5, zP b_1')] _ ?_)
     refine a6 (fun _ hK_15' => ?_)
     refine ai2 [] f0 (by kernel_rfl) rfl (fun T_2' hT_2' => ?_)
     refine fv (fun _ => OV.move rfl) ?_
     obtain ⟨o_3', h⟩ := h
     refine FL.cv (fun _ => CV.meth rfl o_3' rfl) rfl rfl (fun _ => rfl) rfl ?_
     refine fv (fun _ => OV.loadR rfl (At.own 1 rfl) l0) ?_
     obtain ⟨o_4', h⟩ := h
     refine FL.callL avo (fun _ => rfl) (fun R hR => arn w (reN text) (t7 text) o_4' R hR) (LOk.row 2 rfl) rfl (fun _ => rfl) rfl ?_
     refine fv (fun _ => OV.eql rfl rfl) ?_
     refine fv (fun _ => OV.move rfl) ?_
     obtain ⟨o_7', h⟩ := h
     refine FL.cut 6 rfl (fun _ => [(50, zB ((decide ((((j8 text).size : Nat) : Int) = ((c7 (reN text) (t7 text)).size : Int))) && (((j8 text).null) == ((c7 (reN text) (t7 text)).null))))]) ?_ (fun K0_16' hK_16' => ?_)
     rotate_left
     ·refine FL.split (decide ((((j8 text).size : Nat) : Int) = ((c7 (reN text) (t7 text)).size : Int))) (fun hb => ?_) (fun hb => ?_)
      ·obtain ⟨o_5', o_6'⟩ := o_7' hb
       refine FL.set 44 (fun _ => rfl) (congrArg zB hb) ?_
       refine fv (fun _ => OV.move rfl) ?_
       refine FL.cv (fun _ => CV.meth rfl o_5' rfl) rfl rfl (fun _ => rfl) rfl ?_
       refine fv (fun _ => OV.loadR rfl (At.own 1 rfl) l0) ?_
       refine FL.callL avs (fun _ => rfl) (fun R hR => aru w (reN text) (t7 text) o_6' R hR) (LOk.row 2 rfl) rfl (fun _ => rfl) rfl ?_
       refine fv (fun _ => OV.eqlB rfl rfl Tryd.underlying4) ?_
       refine fv (fun _ => OV.pickT rfl rfl) ?_
       refine FL.set 50 (fun _ => rfl) (bT (v := ((j8 text).null) == ((c7 (reN text) (t7 text)).null)) hb) ?_
       exact FL.weak (L' := fun _ => [(50, zB ((decide ((((j8 text).size : Nat) : Int) = ((c7 (reN text) (t7 text)).size : Int))) && (((j8 text).null) == ((c7 (reN text) (t7 text)).null))))]) (fun _ => ⟨rfl, trivial⟩) (FL.nil hK_16')
      ·refine FL.set 44 (fun _ => rfl) (congrArg zB hb) ?_
       refine FL.skip rfl (fun _ => rfl) rfl rfl ?_
       refine FL.skip rfl (fun _ => rfl) rfl rfl ?_
       refine FL.skip rfl (fun _ => rfl) rfl rfl ?_
       refine FL.skip rfl (fun _ => rfl) rfl rfl ?_
       refine FL.skip rfl (fun _ => rfl) rfl rfl ?_
       refine fv (fun _ => OV.pickF rfl rfl) ?_
       refine FL.set 50 (fun _ => rfl) (bF (v := ((j8 text).null) == ((c7 (reN text) (t7 text)).null)) hb) ?_
       exact FL.weak (L' := fun _ => [(50, zB ((decide ((((j8 text).size : Nat) : Int) = ((c7 (reN text) (t7 text)).size : Int))) && (((j8 text).null) == ((c7 (reN text) (t7 text)).null))))]) (fun _ => ⟨rfl, trivial⟩) (FL.nil hK_16')
     refine fv (fun _ => OV.assign rfl) ?_
     refine FL.weak (L' := fun _ => [(2, zB ((decide ((((j8 text).size : Nat) : Int) = ((c7 (reN text) (t7 text)).size : Int))) && (((j8 text).null) == ((c7 (reN text) (t7 text)).null))))]) (fun _ => ⟨rfl, trivial⟩) (FL.nil (hT_2' (fun _ => [(2, zB ((decide ((((j8 text).size : Nat) : Int) = ((c7 (reN text) (t7 text)).size : Int))) && (((j8 text).null) == ((c7 (reN text) (t7 text)).null))))]) (fun _ => ?_)))
     refine kg (hK_15' [(2, zB ((decide ((((j8 text).size : Nat) : Int) = ((c7 (reN text) (t7 text)).size : Int))) && (((j8 text).null) == ((c7 (reN text) (t7 text)).null))))] _ ?_)
     refine b9 ?_
     exact hE.ret [] rfl rfl (.inl ⟨_, h, rfl⟩) (d8.of1 rfl (RV.tmp rfl))
 ·obtain ⟨w, ho⟩ := hS
  cases ho
theorem apo {t : List UInt8} {x : Tr} (h : v7 t = .ok x) : x.isNone = false := (aiu h).2.2.1 |> Tr.solid_some
theorem an3 (te : TypeId) (fre : Nat × Nat) (t : List UInt8) : c8 Tryd.prog 4 [st t] (z6 te fre) [] (Ret (.bool true) []) := by
 refine c8.one (e := fun v => .bool v) (asp te fre t (fun v => v = true) ?_)
 unfold ahg
 rw [if_neg (by simp [y5])]
 by_cases he : (p8 t).1 = 0
 ·obtain ⟨x, hx, hT⟩ := auc he
  obtain ⟨e1, e2, e3, e4⟩ := azv hx
  obtain ⟨_, hs, hsol, _⟩ := aiu hx
  have hn := apo hx
  rw [if_neg (by simp [he]), hT, e4]
  refine ⟨fun _ => ⟨by omega, e3⟩, ?_⟩
  rw [if_neg (by simp [hn])]
  exact ⟨aa0 x hn (by omega), e3, fun _ => ⟨abj x hn, e3⟩, by simp⟩
 ·rw [if_pos (by simp [he]), (av6 he).2]; rfl
end Go.Proofs.YtohnchdnkbadaaaDoor
namespace Go.Proofs.YtohnchdnkbadaaaDoor
open Go Go.ChangeShapes Go.WideShapes Go.ChangeAt Go.RowKit
theorem aif (t : ByteArray) (_h : t.data.toList.length ≤ reachBytes) : aht 4 #[.string t] (.bool true) :=
 c8.pureE (vs := [st t.data.toList]) fun te fre => an3 te fre _
set_option maxRecDepth 100000 in
theorem aha (os : Os) (started : os.Started) (H : Type) (enc : TypeId × Value → H) :
  ReturnsInHanded {} Tryd.checked os 4 .any (fun w args => (Rows.regexParsesSpec.pre enc Tryd.prog Tryd.f4 [] false w args ∧ laidMetH Tryd.prog adw w) ∧ sizedMet enc Tryd.prog Tryd.f4 (OpenSpec.ofChange Rows.regexParsesSpec) false w args)
   (Rows.regexParsesSpec.post enc Tryd.prog Tryd.f4 false true false false) := by
 refine returnsInHanded_of_change_and (C := Tryd.checked) (X := fun w _ => laidMetH Tryd.prog adw w) (fun _ _ _ hh h => h.of_heap hh) aw8 started (by kernel_rfl) Tryd.func4
  (ChangeSpec.witness_at (enc := enc) (C := Tryd.checked) (os := os) (X := fun w _ => laidMetH Tryd.prog adw w) false (aik os) #[.string ByteArray.empty] 8 rfl (by kernel_rfl) (by kernel_rfl) (by kernel_rfl) (by kernel_rfl) (by kernel_rfl) (ame os _)) ?_
 intro W base args ds gs before hval0 hW _ hwt0 hL _
 have hval : ∀ (j : Nat) t v, Tryd.f4.params[j]? = some t → args[j]? = some v → Value.okWide Tryd.prog W .any base t v := hval0
 have hW' := hW
 obtain ⟨p, q, hA0, hV, rfl, _, _⟩ := hW
 have hA : DataW.TrodAll enc Tryd.prog W 0 (fun _ => true) true Tryd.f4.params.toList args.toList ds p := hA0
 have hwt : (DataW.weightsEach Tryd.prog (Tryd.f4.params.toList ++ Rows.regexParsesSpec.plain.varTypes Tryd.prog) (ds ++ gs)).all (· ≤ reachBytes) = true := hwt0
 rw [Tryd.params4] at hA hval hwt
 obtain ⟨v0, d0, rfl, rfl, h0⟩ := trodAll_one hA
 obtain ⟨rfl, rfl⟩ := trodVars_none hV
 obtain ⟨a0, rfl, e0, _, _⟩ := ChangeMaps.open_string Tryd.underlying9 (hval 0 _ v0 rfl rfl) h0
 have z0 : a0.data.toList.length ≤ reachBytes := sized_string hwt (j := 0) (t := 9) rfl (by rw [e0]; rfl)
 refine (aif a0 z0 W (ap7 hL)).mono fun e W' ⟨he, hb⟩ => ?_
 subst he
 exact ⟨_, rfl, awl axf rfl Tryd.underlying4 (by kernel_rfl) rfl hW' rfl hb⟩
theorem aip : Rows.RegexParsesSaid :=
 OpenClaim.holds_of_wide 4 Tryd.f4 rfl rfl rfl rfl rfl rfl rfl ⟨rfl, rfl, rfl, rfl, rfl⟩ rfl rfl rfl rfl rfl (by kernel_rfl) Tryd.func4 (by kernel_rfl)
  (of_decide_eq_true (by kernel_rfl)) (by unfold Func.isWrapper; rw [if_neg (of_decide_eq_false (by kernel_rfl))]; exact ⟨rfl, rfl⟩)
  (fun os started H enc _ => aha os started H enc)
theorem regexParses_card_holds : Rows.RegexParsesCardSaid :=
 Claim7.holds_tied_plain_at .later [] _ _ _ _ aip (fun _ h => by cases h) (by kernel_rfl) (fun _ h => by cases h) regexParses_row_tie rfl ⟨rfl, rfl⟩ (by kernel_rfl) rfl
  (fun f fn hf hfn => by
   obtain rfl : f = 4 := Option.some.inj ((show Tryd.prog.funcNamed "loupe/loupelaw02.RegexParses" = some 4 by kernel_rfl).symm.trans hf) |>.symm
   obtain rfl : fn = Tryd.f4 := (Option.some.inj (Tryd.func4.symm.trans hfn)).symm
   refine ⟨by kernel_rfl, fun j t ht => ?_⟩
   rw [Tryd.params4] at ht
   have h3 : t = 9 := by simpa using Array.mem_of_getElem? ht
   rcases h3 with rfl
   ·exact (show Tryd.prog.wantsStandIn 9 = false by kernel_rfl))
  (by kernel_rfl)
end Go.Proofs.YtohnchdnkbadaaaDoor
