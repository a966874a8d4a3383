/-
  Merged: RxQ, RxR, RxL, Gwu, RxB.
-/
import Derived.Test.YtohnchdnkbadaaaDoorPb5
namespace Go.Proofs.YtohnchdnkbadaaaDoor
open Go Go.RowKit

theorem tf_ent_160 : entB Tryd.prog 160 = true := by kernel_rfl
theorem tf_scal_24 : scalB Tryd.prog 24 = true := by kernel_rfl
theorem tf_stood_26 : Program.stoodInHeld Tryd.prog 26 = false := by kernel_rfl
theorem tf_eqg_26 : Program.eqGuardType Tryd.prog Tryd.prog.depth 26 = false := by kernel_rfl
theorem tf_field_76_2 : fieldOff Tryd.prog 76 2 = some 2 := by kernel_rfl
theorem tf_scal_74 : scalB Tryd.prog 74 = true := by kernel_rfl
theorem tf_size_74 : sizeB Tryd.prog 74 1 = true := by kernel_rfl
theorem tf_ent_37 : entB Tryd.prog 37 = true := by kernel_rfl
theorem tf_ent_146 : entB Tryd.prog 146 = true := by kernel_rfl
theorem tf_ent_145 : entB Tryd.prog 145 = true := by kernel_rfl
theorem tf_ent_113 : entB Tryd.prog 113 = true := by kernel_rfl
theorem tf_ent_76 : entB Tryd.prog 76 = true := by kernel_rfl

/-- What one piece comes to, ahead of the signs behind it. -/
inductive AtR (t : List UInt8) (d : Nat) (i : Int) : PRes → Prop
 | set {s : CS} {k : Int} : nx t i ≠ 40 → readM t i = (s, k, 0, 0) → AtR t d i (.ok (.cls s, k))
 | setE {s : CS} {k e p : Int} : nx t i ≠ 40 → readM t i = (s, k, e, p) → ¬ (e = 0 ∧ p = 0) → AtR t d i (.error (e, p))
 | nest : nx t i = 40 → 1000 ≤ d → AtR t d i (.error (23, i))
 | par {x : Tr} {k : Int} : nx t i = 40 → d < 1000 → PR t .alt (d + 1) (i + 1) (.ok (x, k)) → k < t.length → AtR t d i (.ok (x, k + 1))
 | parE {e : Int × Int} : nx t i = 40 → d < 1000 → PR t .alt (d + 1) (i + 1) (.error e) → AtR t d i (.error e)
 | parO {x : Tr} {k : Int} : nx t i = 40 → d < 1000 → PR t .alt (d + 1) (i + 1) (.ok (x, k)) → ¬ (k < t.length) → AtR t d i (.error (21, i))
def freeC (t : List UInt8) (j : Int) : Prop := nx t j ≠ 124 ∧ nx t j ≠ 38 ∧ nx t j ≠ 45 ∧ nx t j ≠ 41 ∧ nx t j ≠ 42 ∧ nx t j ≠ 43 ∧ nx t j ≠ 63 ∧ nx t j ≠ 123
theorem freeC.mem {t : List UInt8} {j : Int} (h : freeC t j) (h40 : nx t j ≠ 40) : nx t j ∉ [124, 38, 45, 41, 42, 43, 63, 123, 40] := by
 unfold freeC at h; simp; omega
theorem AtR.row {t : List UInt8} {d : Nat} {j k l : Int} {x y : Tr} {acc : Option Tr} {r : PRes} (h : AtR t d j (.ok (x, k))) (hl : j < t.length) (hc : freeC t j) (hr : RP t x k (.ok (y, l))) (h2 : PR t (.row (accT acc y)) d l r) : PR t (.row acc) d j r := by
 cases h with
 | set a b => exact .rowC hl (hc.mem a) b hr h2
 | par a b c e => exact .rowP hl a b c e hr h2
theorem AtR.rowR {t : List UInt8} {d : Nat} {j k : Int} {x : Tr} {acc : Option Tr} {e : Int × Int} (h : AtR t d j (.ok (x, k))) (hl : j < t.length) (hc : freeC t j) (hr : RP t x k (.error e)) : PR t (.row acc) d j (.error e) := by
 cases h with
 | set a b => exact .rowCR hl (hc.mem a) b hr
 | par a b c e => exact .rowPR hl a b c e hr
theorem AtR.rowE {t : List UInt8} {d : Nat} {j : Int} {acc : Option Tr} {e : Int × Int} (h : AtR t d j (.error e)) (hl : j < t.length) (hc : freeC t j) : PR t (.row acc) d j (.error e) := by
 cases h with
 | setE a b c => exact .rowCE hl (hc.mem a) b c
 | nest a b => exact .rowN hl a b
 | parE a b c => exact .rowPE hl a b c
 | parO a b c d => exact .rowO hl a b c d
theorem AtR.ends {t : List UInt8} {d : Nat} {i k : Int} {x : Tr} (h : AtR t d i (.ok (x, k))) (h0 : 0 ≤ i) (hl : i < t.length) : i < k ∧ k ≤ t.length := by
 cases h with
 | set a b => exact readM_ok b h0
 | par a b c e => have := c.ends (by omega) (by omega) _ _ rfl; omega
/-- What a part of the scanner hands back. -/
def ReadR (R : PRes → Prop) (t : List UInt8) (i : Int) (B B' : List (Nat × Obj)) (j n : Int) (u : Value) : Prop :=
 Sups B B' ∧ RuleB n u ∧ i ≤ j ∧ j ≤ t.length ∧ ∃ x, R (.ok (x, j)) ∧ Is B' n u x
abbrev opR (w : Value) (o : List Int) : HA := .row w 3 1 o.length (o.flatMap intC)
def ScRet (t : List UInt8) (b : Nat) (o : List Int) (i : Int) (B : List (Nat × Obj)) (R : PRes → Prop) : Out → Prop := fun out =>
 (∃ (n : Int) (u : Value) (j : Int) (w : Value) (B' : List (Nat × Obj)), ReadR R t i B B' j n u ∧ out = .ret (.agg [.int .i64 n, u].toArray) [scB b t j w, opR w o, pool B']) ∨
 (∃ (c p q : Int) (w : Value) (o2 : List Int) (B2 : List (Nat × Obj)), R (.error (c, p)) ∧ out = .pan [{ v := faultV c p, recovered := false }] [scB b t q w, opR w o2, pool B2])
def AtomDoes (t : List UInt8) (i : Int) : Prop := ∀ (b : Nat) (te : TypeId) (fre : Nat × Nat) (w : Value) (o : List Int) (B : List (Nat × Obj)), 0 ≤ i ∧ i < (t.length : Int) ∧ t.length ≤ 1048576 ∧ o.length ≤ 1000 →
 Does Tryd.prog 146 [.pointer (some ⟨b, 0, none⟩)] (escTab te fre) [scB b t i w, opR w o, pool B] (ScRet t b o i B (AtR t o.length i))
def PartDoes (f : FuncId) (m : Md) (t : List UInt8) (i : Int) : Prop := ∀ (b : Nat) (te : TypeId) (fre : Nat × Nat) (w : Value) (o : List Int) (B : List (Nat × Obj)), 0 ≤ i ∧ i ≤ (t.length : Int) ∧ t.length ≤ 1048576 ∧ o.length ≤ 1000 →
 Does Tryd.prog f [.pointer (some ⟨b, 0, none⟩)] (escTab te fre) [scB b t i w, opR w o, pool B] (ScRet t b o i B (PR t m o.length i))
abbrev RowDoes (t : List UInt8) (i : Int) : Prop := PartDoes 113 (.row none) t i
abbrev MeetDoes (t : List UInt8) (i : Int) : Prop := PartDoes 76 .meet t i
abbrev AltDoes (t : List UInt8) (i : Int) : Prop := PartDoes 37 .alt t i
abbrev KR (R : PRes → Prop) (t : List UInt8) (o : List Int) (i : Int) (B : List (Nat × Obj)) : Int → Value → List UInt8 → Int → List Int → List (Nat × Obj) → Prop := fun n u t' j o' D => t' = t ∧ o' = o ∧ ReadR R t i B D j n u
abbrev KE (R : PRes → Prop) (t : List UInt8) : Value → List UInt8 → Int → List Int → List (Nat × Obj) → Prop := fun v t' _ _ _ => t' = t ∧ ∃ c p, v = faultV c p ∧ R (.error (c, p))

def atom_vc (s_0 : List UInt8) (s_1 : Int) (sl : List Int) (B : List (Nat × Obj)) (K : Int → Value → (List UInt8) → Int → (List Int) → (List (Nat × Obj)) → Prop) (KP : Value → (List UInt8) → Int → (List Int) → (List (Nat × Obj)) → Prop) : Prop :=
 (0 ≤ s_1) ∧
 (if (!decide (nx s_0 s_1 = 40)) = true then
  (s_0.length ≤ 9223372036854775807) ∧
  (if (!andAll [decide ((readM s_0 s_1).2.2.1 = 0), decide ((readM s_0 s_1).2.2.2 = 0), decide (([] : List UInt8) = [])]) = true then
   KP (Value.iface 26 (Value.agg [zI ((readM s_0 s_1).2.2.1), zI ((readM s_0 s_1).2.2.2), st []].toArray)) s_0 s_1 sl B
  else
   (∀ (sz : Int) (u : Value) (B_1' : List (Nat × Obj)), LeafR B B_1' (.cls ((readM s_0 s_1).1)) sz u →
    (u.oneCell' = true) ∧
    K sz u s_0 ((readM s_0 s_1).2.1) sl B_1'))
 else
  (if (decide (1000 ≤ (sl.length : Int))) = true then
   KP (faultV 23 s_1) s_0 s_1 sl B
  else
   (((sl.length + 1) + (sl.length + 1) / 4 + 192) * 8 ≤ 281474976710656 ∧ sl.length + 1 ≤ 9223372036854775807) ∧
   (I64 (s_1 + 1)) ∧
   (AltDoes s_0 (s_1 + 1)) ∧
   (0 ≤ (s_1 + 1) ∧ (s_1 + 1) ≤ (s_0.length : Int) ∧ s_0.length ≤ 1048576 ∧ (sl ++ [s_1]).length ≤ 1000) ∧
   (∀ (sz_1' : Int) (u_1' : Value) (j : Int) (B_2' : List (Nat × Obj)), ReadR (PR s_0 .alt (sl ++ [s_1]).length (s_1 + 1)) s_0 (s_1 + 1) B B_2' j sz_1' u_1' →
    (u_1'.oneCell' = true) ∧
    (if (decide ((s_0.length : Int) ≤ j)) = true then
     (I64 (((sl ++ [s_1]).length : Int) - 1)) ∧
     (0 ≤ (((sl ++ [s_1]).length : Int) - 1) ∧ (((sl ++ [s_1]).length : Int) - 1) < ((sl ++ [s_1]).length : Int)) ∧
     KP (faultV 21 ((sl ++ [s_1]).getD ((((sl ++ [s_1]).length : Int) - 1)).toNat default)) s_0 j (sl ++ [s_1]) B_2'
    else
     (I64 (j + 1)) ∧
     (I64 (((sl ++ [s_1]).length : Int) - 1)) ∧
     (0 ≤ (((sl ++ [s_1]).length : Int) - 1) ∧ (((sl ++ [s_1]).length : Int) - 1) ≤ ((sl ++ [s_1]).length : Int)) ∧
     (u_1'.oneCell' = true) ∧
     K sz_1' u_1' s_0 (j + 1) ((sl ++ [s_1]).take (((((sl ++ [s_1]).length : Int) - 1)).toNat)) B_2')) ∧
   (∀ (c : Int) (p : Int) (q : Int) (o_5' : List Int) (B_3' : List (Nat × Obj)), PR s_0 .alt (sl ++ [s_1]).length (s_1 + 1) (.error (c, p)) →
    KP (faultV c p) s_0 q o_5' B_3')))
set_option maxRecDepth 100000 in
theorem atom_wp (b : Nat) (w : Value) (te : TypeId) (fre : Nat × Nat) (s_0 : List UInt8) (s_1 : Int) (sl : List Int) (B : List (Nat × Obj)) (K : Int → Value → (List UInt8) → Int → (List Int) → (List (Nat × Obj)) → Prop) (KP : Value → (List UInt8) → Int → (List Int) → (List (Nat × Obj)) → Prop) (h : atom_vc s_0 s_1 sl B K KP) :
  Does Tryd.prog 146 [zP b] [(1, .cells [zU 110, zU 10, zU 114, zU 13, zU 116, zU 9].toArray te fre)] [HA.blk b (.cells [st s_0, zI s_1, w].toArray 76 (0, 0)), HA.row w 3 1 sl.length (sl.flatMap intC), pool B] (fun o => (∃ (v_0 : Int) (v_1 : Value) (d_1' : List UInt8) (d_2' : Int) (w_4' : Value) (d : List Int) (D : List (Nat × Obj)), K v_0 v_1 d_1' d_2' d D ∧ o = .ret (Value.agg [zI v_0, v_1].toArray) [HA.blk b (.cells [st d_1', zI d_2', w_4'].toArray 76 (0, 0)), HA.row w_4' 3 1 d.length (d.flatMap intC), pool D]) ∨ (∃ (pv : Value) (d_1' : List UInt8) (d_2' : Int) (w_4' : Value) (d : List Int) (D : List (Nat × Obj)), KP pv d_1' d_2' d D ∧ o = .pan [{ v := pv, recovered := false }] [HA.blk b (.cells [st d_1', zI d_2', w_4'].toArray 76 (0, 0)), HA.row w_4' 3 1 d.length (d.flatMap intC), pool D])) := by
 unfold atom_vc at h
 refine does_of_wc (n := 108) (L0 := [(0, zP b)]) Tryd.func146 rfl rfl rfl rfl (fun w0 M Q hE => ?_)
 refine wc_seq (fun K0 hK => ?_)
 refine wc_region ?_
 refine WL.make (MV.alloc tf_zero_79) rfl rfl rfl (fun b_1' => ?_)
 refine WL.nil ?_
 refine KX.go (hK [(0, zP b), (2, zP b_1')] _ ?_) ⟨rfl, rfl, trivial⟩
 refine wc_seq (fun K0_1' hK_1' => ?_)
 refine wc_seq (fun K0_2' hK_2' => ?_)
 refine wc_region ?_
 refine wv (OV.move rfl) ?_
 obtain ⟨o, h⟩ := h
 refine WL.call (A := []) tf_ent_77 rfl (next_does b s_0 s_1 w o) rfl ⟨.inl ⟨1, rfl⟩, trivial⟩ rfl rfl ?_
 refine wv (OV.neq rfl rfl) ?_
 refine WL.nil ?_
 refine KX.go (hK_2' [(0, zP b), (2, zP b_1'), (9, zB (!decide (nx s_0 s_1 = 40)))] _ ?_) ⟨rfl, rfl, rfl, trivial⟩
 refine wc_cond (b := !decide (nx s_0 s_1 = 40)) rfl (fun hb => ?_) (fun hb => ?_)
 ·replace h := if_T h hb
  refine wc_seq (fun K0_3' hK_3' => ?_)
  refine wc_draw_st [(13, .cells (wl cs0).toArray 84 (0, 0)), (14, .cells [zI 0, zI 0, st []].toArray 26 (0, 0))] [(15, 13, .cells (wl ((readM s_0 s_1).1)).toArray 84 (0, 0)), (17, 14, .cells [zI ((readM s_0 s_1).2.2.1), zI ((readM s_0 s_1).2.2.2), st []].toArray 26 (0, 0))] tf_mixed (by kernel_rfl) rfl rfl (fun T hT => ?_)
  refine FS.val (fun _ => OV.move rfl) rfl rfl (fun _ => rfl) rfl rfl ?_
  refine FS.val (fun _ => OV.nilCheck rfl) rfl rfl (fun _ => rfl) rfl rfl ?_
  refine FS.val (fun _ => OV.fieldAddr0 rfl tf_field_76_0) rfl rfl (fun _ => rfl) rfl rfl ?_
  refine FS.val (fun _ => OV.load rfl (At.own 1 rfl) rfl tf_scal_9) rfl rfl (fun _ => rfl) rfl rfl ?_
  refine FS.val (fun _ => OV.move rfl) rfl rfl (fun _ => rfl) rfl rfl ?_
  refine FS.val (fun _ => OV.nilCheck rfl) rfl rfl (fun _ => rfl) rfl rfl ?_
  refine FS.val (fun _ => OV.fieldAddr0 rfl tf_field_76_1) rfl rfl (fun _ => rfl) rfl rfl ?_
  refine FS.val (fun _ => OV.load rfl (At.own 1 rfl) rfl tf_scal_3) rfl rfl (fun _ => rfl) rfl rfl ?_
  obtain ⟨o_1', h⟩ := h
  refine FS.call tf_ent_160 (fun _ => rfl) (read_does te fre s_0 s_1 o_1') ⟨.inr (List.mem_of_getElem? (i := 0) rfl), trivial⟩ rfl rfl (fun _ => rfl) rfl ?_
  refine FS.val (fun _ => OV.move rfl) rfl rfl (fun _ => rfl) rfl rfl ?_
  refine FS.val (fun _ => OV.extract 0 rfl rfl) rfl rfl (fun _ => rfl) rfl rfl ?_
  refine FS.val (fun _ => OV.extract 1 rfl rfl) rfl rfl (fun _ => rfl) rfl rfl ?_
  refine FS.val (fun _ => OV.extract 2 rfl rfl) rfl rfl (fun _ => rfl) rfl rfl ?_
  refine FS.make (fun _ => MV.alloc tf_zero_84) rfl rfl (fun _ => rfl) rfl rfl ?_
  refine FS.make (fun _ => MV.alloc tf_zero_26) rfl rfl (fun _ => rfl) rfl rfl ?_
  refine FS.storeW (cs := wl cs0) (vs := wl ((readM s_0 s_1).1)) (n := 4) (fun _ => rfl) (fun _ => rfl) rfl rfl rfl rfl rfl rfl tf_size_84 rfl rfl (fun _ => rfl) ?_
  refine FS.val (fun _ => OV.assign rfl) rfl rfl (fun _ => rfl) rfl rfl ?_
  refine FS.storeW (cs := [zI 0, zI 0, st []]) (vs := [zI ((readM s_0 s_1).2.2.1), zI ((readM s_0 s_1).2.2.2), st []]) (n := 3) (fun _ => rfl) (fun _ => rfl) rfl rfl rfl rfl rfl rfl tf_size_26 rfl rfl (fun _ => rfl) ?_
  refine FS.weak (L' := fun γ => [(0, zP b), (2, zP b_1'), (3, Value.pointer (some ⟨(γ 13), 0, none⟩)), (4, zI ((readM s_0 s_1).2.1)), (5, Value.pointer (some ⟨(γ 14), 0, none⟩))]) (fun γ => ⟨rfl, rfl, rfl, rfl, rfl, trivial⟩) (FS.nil (hT (fun γ => [(0, zP b), (2, zP b_1'), (3, Value.pointer (some ⟨(γ 13), 0, none⟩)), (4, zI ((readM s_0 s_1).2.1)), (5, Value.pointer (some ⟨(γ 14), 0, none⟩))]) (fun γ => ?_)))
  show QX _ _ _ [(0, zP b), (2, zP b_1'), (3, Value.pointer (some ⟨(γ 13), 0, none⟩)), (4, zI ((readM s_0 s_1).2.1)), (5, Value.pointer (some ⟨(γ 14), 0, none⟩))] [HA.blk (γ 13) (.cells (wl ((readM s_0 s_1).1)).toArray 84 (0, 0)), HA.blk (γ 14) (.cells [zI ((readM s_0 s_1).2.2.1), zI ((readM s_0 s_1).2.2.2), st []].toArray 26 (0, 0)), HA.blk b_1' (.cells [zI 0, Value.nilFunc].toArray 79 (0, 0)), HA.blk b (.cells [st s_0, zI s_1, w].toArray 76 (0, 0)), HA.row w 3 1 sl.length (sl.flatMap intC), pool B]
  generalize γ 13 = b_2'
  generalize γ 14 = b_3'
  refine KX.go (hK_3' [(0, zP b), (2, zP b_1'), (3, zP b_2'), (4, zI ((readM s_0 s_1).2.1)), (5, zP b_3')] _ ?_) ⟨rfl, rfl, rfl, rfl, rfl, trivial⟩
  refine wc_seq (fun K0_4' hK_4' => ?_)
  refine wc_seq (fun K0_5' hK_5' => ?_)
  refine wc_region ?_
  refine wv (OV.loadR rfl (At.own 1 rfl) tf_row_26) ?_
  refine wv (OV.build rfl (cs := [zI 0, zI 0, st []]) rfl) ?_
  refine wv (OV.neqF (rs := [decide ((readM s_0 s_1).2.2.1 = 0), decide ((readM s_0 s_1).2.2.2 = 0), decide (([] : List UInt8) = [])]) rfl rfl Tryd.underlying26 tf_stood_26 tf_eqg_26 ⟨rfl, tf_scal_24, ⟨_, _, rfl, rfl, ScalEq.int Tryd.underlying24⟩, ⟨rfl, tf_scal_3, ⟨_, _, rfl, rfl, ScalEq.int Tryd.underlying3⟩, ⟨rfl, tf_scal_9, ⟨_, _, rfl, rfl, ScalEq.str Tryd.underlying9⟩, trivial⟩⟩⟩) ?_
  refine WL.nil ?_
  refine KX.go (hK_5' [(0, zP b), (2, zP b_1'), (3, zP b_2'), (4, zI ((readM s_0 s_1).2.1)), (5, zP b_3'), (25, zB (!andAll [decide ((readM s_0 s_1).2.2.1 = 0), decide ((readM s_0 s_1).2.2.2 = 0), decide (([] : List UInt8) = [])]))] _ ?_) ⟨rfl, rfl, rfl, rfl, rfl, rfl, trivial⟩
  refine wc_cond (b := !andAll [decide ((readM s_0 s_1).2.2.1 = 0), decide ((readM s_0 s_1).2.2.2 = 0), decide (([] : List UInt8) = [])]) rfl (fun hb => ?_) (fun hb => ?_)
  ·replace h := if_T h hb
   refine wc_region ?_
   refine wv (OV.loadR rfl (At.own 1 rfl) tf_row_26) ?_
   refine wv (OV.iface rfl tf_conc_26) ?_
   refine WL.panic rfl rfl ?_
   exact hE.pan [3, 4, 5] rfl rfl (.inr ⟨_, _, _, _, _, _, h, rfl⟩)
  ·replace h := if_F h hb
   refine wc_skip ?_
   refine KX.go (hK_4' [(0, zP b), (2, zP b_1'), (3, zP b_2'), (4, zI ((readM s_0 s_1).2.1))] _ ?_) ⟨rfl, rfl, rfl, rfl, trivial⟩
   refine wc_seq (fun K0_6' hK_6' => ?_)
   refine wc_region ?_
   refine wv (OV.move rfl) ?_
   refine wv (OV.move rfl) ?_
   refine wv (OV.nilCheck rfl) ?_
   refine wv (OV.fieldAddr0 rfl tf_field_76_1) ?_
   refine WL.store (vs := [zI ((readM s_0 s_1).2.1)]) (cs' := [st s_0, zI ((readM s_0 s_1).2.1), w]) 3 rfl rfl rfl rfl tf_size_3 (Nat.le_of_ble_eq_true rfl) rfl rfl rfl ?_
   refine WL.nil ?_
   refine KX.go (hK_6' [(2, zP b_1'), (3, zP b_2')] _ ?_) ⟨rfl, rfl, trivial⟩
   refine wc_seq (fun K0_7' hK_7' => ?_)
   refine wc_region ?_
   refine wv (OV.loadR rfl (At.own 0 rfl) tf_row_84) ?_
   refine wv (OV.build rfl (cs := wl ((readM s_0 s_1).1)) rfl) ?_
   refine wv (OV.cast (OV.iface rfl tf_conc_87) (v' := Tr.val (.cls ((readM s_0 s_1).1))) rfl) ?_
   refine WL.pick (H' := [pool B, HA.blk b_2' (.cells (wl ((readM s_0 s_1).1)).toArray 84 (0, 0)), HA.blk b_3' (.cells [zI ((readM s_0 s_1).2.2.1), zI ((readM s_0 s_1).2.2.2), st []].toArray 26 (0, 0)), HA.blk b_1' (.cells [zI 0, Value.nilFunc].toArray 79 (0, 0)), HA.blk b (.cells [st s_0, zI ((readM s_0 s_1).2.1), w].toArray 76 (0, 0)), HA.row w 3 1 sl.length (sl.flatMap intC)]) [5, 0, 1, 2, 3, 4] rfl rfl ?_
   refine WL.callS tf_ent_144 rfl (leaf_does (.cls ((readM s_0 s_1).1)) B) rfl trivial rfl rfl (fun r H' hS => ?_) (fun c H' hS => ?_)
   ·obtain ⟨sz, u, B_1', hc, ho⟩ := hS
    cases ho
    replace h := h sz u B_1' hc
    obtain ⟨o_2', h⟩ := h
    refine WL.storeW (vs := [zI sz, u]) 3 rfl rfl rfl rfl rfl tf_size_79 rfl (one_cons rfl (one_cons o_2' one_nil)) rfl ?_
    refine WL.nil ?_
    refine KX.go (hK_7' [(2, zP b_1')] _ ?_) ⟨rfl, trivial⟩
    refine wc_ret ?_
    exact hE.ret [4, 5, 0] rfl rfl (.inl ⟨_, _, _, _, _, _, _, h, rfl⟩) (ResV.of1 rfl (RV.row rfl (At.own 3 rfl) tf_row_79))
   ·obtain ⟨sz, u, B_1', hc, ho⟩ := hS
    cases ho
 ·replace h := if_F h hb
  refine wc_skip ?_
  refine KX.go (hK_1' [(0, zP b), (2, zP b_1')] _ ?_) ⟨rfl, rfl, trivial⟩
  refine wc_seq (fun K0_8' hK_8' => ?_)
  refine wc_seq (fun K0_9' hK_9' => ?_)
  refine wc_region ?_
  refine wv (OV.move rfl) ?_
  refine wv (OV.nilCheck rfl) ?_
  refine wv (OV.fieldAddr0 rfl tf_field_76_2) ?_
  refine wv (OV.load rfl (At.own 1 rfl) rfl tf_scal_74) ?_
  refine wv (OV.lenRow 2 rfl rfl tf_sl_74) ?_
  refine wv (OV.geq rfl rfl) ?_
  refine WL.nil ?_
  refine KX.go (hK_9' [(0, zP b), (2, zP b_1'), (41, zB (decide (1000 ≤ (sl.length : Int))))] _ ?_) ⟨rfl, rfl, rfl, trivial⟩
  refine wc_cond (b := decide (1000 ≤ (sl.length : Int))) rfl (fun hb => ?_) (fun hb => ?_)
  ·replace h := if_T h hb
   refine wc_region ?_
   refine wv (OV.move rfl) ?_
   refine wv (OV.move rfl) ?_
   refine wv (OV.nilCheck rfl) ?_
   refine wv (OV.fieldAddr0 rfl tf_field_76_1) ?_
   refine wv (OV.load rfl (At.own 1 rfl) rfl tf_scal_3) ?_
   refine WL.callS tf_ent_39 rfl (rfail_does (zP b) 23 s_1) rfl trivial rfl rfl (fun r H' hS => by cases hS) (fun c H' hS => ?_)
   cases hS
   exact hE.pan [1, 2, 3] rfl rfl (.inr ⟨_, _, _, _, _, _, h, rfl⟩)
  ·replace h := if_F h hb
   refine wc_skip ?_
   refine KX.go (hK_8' [(0, zP b), (2, zP b_1')] _ ?_) ⟨rfl, rfl, trivial⟩
   refine wc_seq (fun K0_10' hK_10' => ?_)
   refine wc_drawC 9 [0, 1, 3] [HA.blk b_1' (.cells [zI 0, Value.nilFunc].toArray 79 (0, 0)), HA.blk b (.cells [st s_0, zI s_1, w].toArray 76 (0, 0)), pool B] rfl rfl tf_mixed (by kernel_rfl) (fun T_1' hT_1' => ?_)
   refine TW.val (OV.move rfl) rfl rfl rfl ?_
   refine TW.val (OV.move rfl) rfl rfl rfl ?_
   refine TW.val (OV.nilCheck rfl) rfl rfl rfl ?_
   refine TW.val (OV.fieldAddr0 rfl tf_field_76_2) rfl rfl rfl ?_
   refine TW.val (OV.load rfl (At.own 1 rfl) rfl tf_scal_74) rfl rfl rfl ?_
   refine TW.val (OV.move rfl) rfl rfl rfl ?_
   refine TW.val (OV.nilCheck rfl) rfl rfl rfl ?_
   refine TW.val (OV.fieldAddr0 rfl tf_field_76_1) rfl rfl rfl ?_
   refine TW.val (OV.load rfl (At.own 1 rfl) rfl tf_scal_3) rfl rfl rfl ?_
   refine TW.nil (hT_1' _ ?_)
   refine WLX.make (MV.buildSlice (cs := [zI s_1]) rfl tf_sl_74 (by kernel_rfl)) [1, 2, 4] rfl (fun _ => rfl) rfl rfl rfl (fun b_4' => ?_)
   obtain ⟨o_3', h⟩ := h
   refine WLX.valX (append_valX (f := intC) (ms := [s_1]) 3 0 rfl rfl rfl rfl rfl rfl intC_len (by decide) rfl tf_sl_74 tf_info_3 rfl o_3') [1, 2, 4] rfl (fun _ _ e => by cases e; rfl) rfl rfl rfl (fun w_1' _ e => ?_)
   cases e
   refine WLX.op [1, 2, 4] rfl rfl (OpK.val (OV.nilCheck rfl) rfl rfl) rfl ?_
   refine WLX.op [1, 2, 4] rfl rfl (OpK.val (OV.fieldAddr0 rfl tf_field_76_2) rfl rfl) rfl ?_
   refine WLX.opZ (OpK.storeSl (cs' := [st s_0, zI s_1, w_1']) 2 3 rfl rfl rfl rfl tf_size_74 (Nat.le_of_ble_eq_true rfl) rfl) rfl ?_
   refine WLX.nil ?_
   refine KX.go (hK_10' [(0, zP b), (2, zP b_1')] _ ?_) ⟨rfl, rfl, trivial⟩
   refine wc_seq (fun K0_11' hK_11' => ?_)
   refine wc_region ?_
   refine wv (OV.move rfl) ?_
   refine wv (OV.nilCheck rfl) ?_
   refine wv (OV.fieldAddr0 rfl tf_field_76_1) ?_
   refine wv (OV.load rfl (At.own 2 rfl) rfl tf_scal_3) ?_
   obtain ⟨o_4', h⟩ := h
   refine wv (OV.add rfl rfl o_4') ?_
   refine wv (OV.nilCheck rfl) ?_
   refine wv (OV.fieldAddr0 rfl tf_field_76_1) ?_
   refine WL.store (vs := [zI (s_1 + 1)]) (cs' := [st s_0, zI (s_1 + 1), w_1']) 2 rfl rfl rfl rfl tf_size_3 (Nat.le_of_ble_eq_true rfl) rfl rfl rfl ?_
   refine WL.nil ?_
   refine KX.go (hK_11' [(0, zP b), (2, zP b_1')] _ ?_) ⟨rfl, rfl, trivial⟩
   refine wc_seq (fun K0_12' hK_12' => ?_)
   refine wc_region ?_
   refine wv (OV.move rfl) ?_
   obtain ⟨o_6', h⟩ := h
   obtain ⟨o_7', h⟩ := h
   refine WL.pick (H' := [HA.blk b (.cells [st s_0, zI (s_1 + 1), w_1'].toArray 76 (0, 0)), HA.row w_1' 3 1 (sl ++ [s_1]).length ((sl ++ [s_1]).flatMap intC), pool B, HA.blk b_4' (.cells [zI s_1].toArray 3 (0, 0)), HA.blk b_1' (.cells [zI 0, Value.nilFunc].toArray 79 (0, 0))]) [2, 3, 4, 0, 1] rfl rfl ?_
   refine WL.callS tf_ent_37 rfl (o_6' b te fre w_1' (sl ++ [s_1]) B o_7') rfl ⟨.inr (List.mem_of_getElem? (i := 0) rfl), trivial⟩ rfl rfl (fun r H' hS => ?_) (fun c H' hS => ?_)
   ·rcases hS with ⟨sz_1', u_1', j, w_2', B_2', hc, ho⟩ | ⟨c, p, q, w_3', o_5', B_3', hc, ho⟩ <;> cases ho
    replace h := h.1 sz_1' u_1' j B_2' hc
    refine WL.make (MV.alloc tf_zero_79) rfl rfl rfl (fun b_5' => ?_)
    obtain ⟨o_8', h⟩ := h
    refine WL.storeW (vs := [zI sz_1', u_1']) 0 rfl rfl rfl rfl rfl tf_size_79 rfl (one_cons rfl (one_cons o_8' one_nil)) rfl ?_
    refine WL.nil ?_
    refine KX.go (hK_12' [(0, zP b), (2, zP b_1'), (6, zP b_5')] _ ?_) ⟨rfl, rfl, rfl, trivial⟩
    refine wc_seq (fun K0_13' hK_13' => ?_)
    refine wc_seq (fun K0_14' hK_14' => ?_)
    refine wc_region ?_
    refine wv (OV.move rfl) ?_
    refine WL.call (A := []) tf_ent_38 rfl (ended_does b s_0 j w_2') rfl ⟨.inl ⟨1, rfl⟩, trivial⟩ rfl rfl ?_
    refine WL.nil ?_
    refine KX.go (hK_14' [(0, zP b), (2, zP b_1'), (6, zP b_5'), (71, zB (decide ((s_0.length : Int) ≤ j)))] _ ?_) ⟨rfl, rfl, rfl, rfl, trivial⟩
    refine wc_cond (b := decide ((s_0.length : Int) ≤ j)) rfl (fun hb => ?_) (fun hb => ?_)
    ·replace h := if_T h hb
     refine wc_draw 13 [] tf_mixed (by kernel_rfl) rfl (fun T_2' hT_2' => ?_)
     refine FL.val (fun _ => OV.move rfl) rfl (fun _ => rfl) rfl rfl ?_
     refine FL.val (fun _ => OV.move rfl) rfl (fun _ => rfl) rfl rfl ?_
     refine FL.val (fun _ => OV.nilCheck rfl) rfl (fun _ => rfl) rfl rfl ?_
     refine FL.val (fun _ => OV.fieldAddr0 rfl tf_field_76_2) rfl (fun _ => rfl) rfl rfl ?_
     refine FL.val (fun _ => OV.load rfl (At.own 1 rfl) rfl tf_scal_74) rfl (fun _ => rfl) rfl rfl ?_
     refine FL.val (fun _ => OV.move rfl) rfl (fun _ => rfl) rfl rfl ?_
     refine FL.val (fun _ => OV.nilCheck rfl) rfl (fun _ => rfl) rfl rfl ?_
     refine FL.val (fun _ => OV.fieldAddr0 rfl tf_field_76_2) rfl (fun _ => rfl) rfl rfl ?_
     refine FL.val (fun _ => OV.load rfl (At.own 1 rfl) rfl tf_scal_74) rfl (fun _ => rfl) rfl rfl ?_
     refine FL.val (fun _ => OV.lenRow 2 rfl rfl tf_sl_74) rfl (fun _ => rfl) rfl rfl ?_
     obtain ⟨o_9', h⟩ := h
     refine FL.val (fun _ => OV.sub rfl rfl o_9') rfl (fun _ => rfl) rfl rfl ?_
     obtain ⟨o_10', h⟩ := h
     refine FL.val (fun _ => OV.indexRow 2 rfl rfl rfl tf_sl_74 o_10') rfl (fun _ => rfl) rfl rfl ?_
     refine FL.val (fun _ => OV.loadE1 (f := intC) 2 rfl rfl intC_len (by omega) rfl tf_scal_3) rfl (fun _ => rfl) rfl rfl ?_
     refine FL.weak (L' := fun γ => [(0, zP b), (2, zP b_1'), (6, zP b_5'), (72, zP b), (84, zI ((sl ++ [s_1]).getD ((((sl ++ [s_1]).length : Int) - 1)).toNat default))]) (fun γ => ⟨rfl, rfl, rfl, rfl, rfl, trivial⟩) (FL.nil (hT_2' (fun γ => [(0, zP b), (2, zP b_1'), (6, zP b_5'), (72, zP b), (84, zI ((sl ++ [s_1]).getD ((((sl ++ [s_1]).length : Int) - 1)).toNat default))]) (fun γ => ?_)))
     refine WL.callS tf_ent_39 rfl (rfail_does (zP b) 21 ((sl ++ [s_1]).getD ((((sl ++ [s_1]).length : Int) - 1)).toNat default)) rfl trivial rfl rfl (fun r H' hS => by cases hS) (fun c H' hS => ?_)
     cases hS
     exact hE.pan [1, 2, 3] rfl rfl (.inr ⟨_, _, _, _, _, _, h, rfl⟩)
    ·replace h := if_F h hb
     refine wc_skip ?_
     refine KX.go (hK_13' [(0, zP b), (2, zP b_1'), (6, zP b_5')] _ ?_) ⟨rfl, rfl, rfl, trivial⟩
     refine wc_seq (fun K0_15' hK_15' => ?_)
     refine wc_region ?_
     refine wv (OV.move rfl) ?_
     refine wv (OV.nilCheck rfl) ?_
     refine wv (OV.fieldAddr0 rfl tf_field_76_1) ?_
     refine wv (OV.load rfl (At.own 1 rfl) rfl tf_scal_3) ?_
     obtain ⟨o_11', h⟩ := h
     refine wv (OV.add rfl rfl o_11') ?_
     refine wv (OV.nilCheck rfl) ?_
     refine wv (OV.fieldAddr0 rfl tf_field_76_1) ?_
     refine WL.store (vs := [zI (j + 1)]) (cs' := [st s_0, zI (j + 1), w_2']) 1 rfl rfl rfl rfl tf_size_3 (Nat.le_of_ble_eq_true rfl) rfl rfl rfl ?_
     refine WL.nil ?_
     refine KX.go (hK_15' [(0, zP b), (2, zP b_1'), (6, zP b_5')] _ ?_) ⟨rfl, rfl, rfl, trivial⟩
     refine wc_seq (fun K0_16' hK_16' => ?_)
     refine wc_draw 12 [] tf_mixed (by kernel_rfl) rfl (fun T_3' hT_3' => ?_)
     refine FL.val (fun _ => OV.move rfl) rfl (fun _ => rfl) rfl rfl ?_
     refine FL.val (fun _ => OV.move rfl) rfl (fun _ => rfl) rfl rfl ?_
     refine FL.val (fun _ => OV.nilCheck rfl) rfl (fun _ => rfl) rfl rfl ?_
     refine FL.val (fun _ => OV.fieldAddr0 rfl tf_field_76_2) rfl (fun _ => rfl) rfl rfl ?_
     refine FL.val (fun _ => OV.load rfl (At.own 1 rfl) rfl tf_scal_74) rfl (fun _ => rfl) rfl rfl ?_
     refine FL.val (fun _ => OV.move rfl) rfl (fun _ => rfl) rfl rfl ?_
     refine FL.val (fun _ => OV.nilCheck rfl) rfl (fun _ => rfl) rfl rfl ?_
     refine FL.val (fun _ => OV.fieldAddr0 rfl tf_field_76_2) rfl (fun _ => rfl) rfl rfl ?_
     refine FL.val (fun _ => OV.load rfl (At.own 1 rfl) rfl tf_scal_74) rfl (fun _ => rfl) rfl rfl ?_
     refine FL.val (fun _ => OV.lenRow 2 rfl rfl tf_sl_74) rfl (fun _ => rfl) rfl rfl ?_
     obtain ⟨o_12', h⟩ := h
     refine FL.val (fun _ => OV.sub rfl rfl o_12') rfl (fun _ => rfl) rfl rfl ?_
     obtain ⟨o_13', h⟩ := h
     refine FL.val (fun _ => OV.sliceTo 2 rfl rfl rfl tf_sl_74 o_13') rfl (fun _ => rfl) rfl rfl ?_
     refine FL.weak (L' := fun γ => [(2, zP b_1'), (6, zP b_5'), (93, zP b), (104, slTo w_2' ((((sl ++ [s_1]).length : Int) - 1)).toNat)]) (fun γ => ⟨rfl, rfl, rfl, rfl, trivial⟩) (FL.nil (hT_3' (fun γ => [(2, zP b_1'), (6, zP b_5'), (93, zP b), (104, slTo w_2' ((((sl ++ [s_1]).length : Int) - 1)).toNat)]) (fun γ => ?_)))
     refine wv (OV.nilCheck rfl) ?_
     refine wv (OV.fieldAddr0 rfl tf_field_76_2) ?_
     refine WL.shorter (m := ((((sl ++ [s_1]).length : Int) - 1)).toNat) 2 rfl intC_len (by omega) ?_
     refine WL.storeSl (cs' := [st s_0, zI (j + 1), slTo w_2' ((((sl ++ [s_1]).length : Int) - 1)).toNat]) 1 2 rfl rfl rfl rfl tf_size_74 (Nat.le_of_ble_eq_true rfl) rfl rfl ?_
     refine WL.nil ?_
     refine KX.go (hK_16' [(2, zP b_1'), (6, zP b_5')] _ ?_) ⟨rfl, rfl, trivial⟩
     refine wc_seq (fun K0_17' hK_17' => ?_)
     refine wc_region ?_
     refine wv (OV.loadR rfl (At.own 0 rfl) tf_row_79) ?_
     obtain ⟨o_14', h⟩ := h
     refine WL.storeW (vs := [zI sz_1', u_1']) 5 rfl rfl rfl rfl rfl tf_size_79 rfl (one_cons rfl (one_cons o_14' one_nil)) rfl ?_
     refine WL.nil ?_
     refine KX.go (hK_17' [(2, zP b_1')] _ ?_) ⟨rfl, trivial⟩
     refine wc_ret ?_
     exact hE.ret [1, 2, 3] rfl rfl (.inl ⟨_, _, _, _, _, _, _, h, rfl⟩) (ResV.of1 rfl (RV.row rfl (At.own 5 rfl) tf_row_79))
   ·rcases hS with ⟨sz_1', u_1', j, w_2', B_2', hc, ho⟩ | ⟨c, p, q, w_3', o_5', B_3', hc, ho⟩ <;> cases ho
    replace h := h.2 c p q o_5' B_3' hc
    exact hE.pan [0, 1, 2] rfl rfl (.inr ⟨_, _, _, _, _, _, h, rfl⟩)

theorem atom_does {t : List UInt8} {i : Int} (hA : AltDoes t (i + 1)) : AtomDoes t i := by
 rintro b te fre w o B ⟨h0, h1, h2, h3⟩
 refine (atom_wp b w te fre t i o B (KR (AtR t o.length i) t o i B) (KE (AtR t o.length i) t) ?_).weak ?_
 ·unfold atom_vc
  refine ⟨h0, ?_⟩
  by_cases hc : nx t i = 40
  ·rw [if_neg (by simpa using hc)]
   by_cases hn : 1000 ≤ (o.length : Int)
   ·rw [if_pos (by simpa using hn)]
    exact ⟨rfl, 23, i, rfl, .nest hc (by omega)⟩
   rw [if_neg (by simpa using hn)]
   have hl : (o ++ [i]).length = o.length + 1 := by simp
   refine ⟨⟨by omega, by omega⟩, by unfold I64; omega, hA, ⟨by omega, by omega, h2, by omega⟩, ?_, ?_⟩
   ·rintro n u j B2 ⟨g1, g2, g3, g4, x, g5, g6⟩
    rw [hl] at g5
    refine ⟨g2.2, ?_⟩
    by_cases he : (t.length : Int) ≤ j
    ·rw [if_pos (by simpa using he)]
     have hg : (o ++ [i]).getD ((((o ++ [i]).length : Int) - 1)).toNat default = i := by
      rw [hl, show (((o.length + 1 : Nat) : Int) - 1).toNat = o.length by omega]
      simp [List.getD_eq_getElem?_getD]
     rw [hg]
     exact ⟨by rw [hl]; unfold I64; omega, ⟨by rw [hl]; omega, by omega⟩, rfl, 21, i, rfl, .parO hc (by omega) g5 (by omega)⟩
    ·rw [if_neg (by simpa using he)]
     have hg : (o ++ [i]).take ((((o ++ [i]).length : Int) - 1)).toNat = o := by
      rw [hl, show (((o.length + 1 : Nat) : Int) - 1).toNat = o.length by omega]
      simp
     rw [hg]
     exact ⟨by unfold I64; omega, by rw [hl]; unfold I64; omega, ⟨by rw [hl]; omega, by omega⟩, g2.2, rfl, rfl, g1, g2, by omega, by omega, x, .par hc (by omega) g5 (by omega), g6⟩
   ·intro c p q o2 B3 hE
    rw [hl] at hE
    exact ⟨rfl, c, p, rfl, .parE hc (by omega) hE⟩
  ·rw [if_pos (by simpa using hc)]
   refine ⟨by omega, ?_⟩
   rcases hm : readM t i with ⟨s, k, e, p⟩
   by_cases hz : e = 0 ∧ p = 0
   ·rw [if_neg (by simp [andAll, hz])]
    obtain ⟨rfl, rfl⟩ := hz
    have := readM_ok hm h0
    rintro n u B1 ⟨g1, g2, g3⟩
    exact ⟨g2.2, rfl, rfl, g1, g2, by show i ≤ k; omega, this.2, .cls s, .set hc hm, g3 rfl⟩
   ·rw [if_pos (by simp [andAll]; omega)]
    exact ⟨rfl, e, p, rfl, .setE hc hm hz⟩
 ·rintro out (⟨n, u, t', j, w', o', D, ⟨rfl, rfl, hR⟩, rfl⟩ | ⟨v, t', q, w', o', D, ⟨rfl, c, p, rfl, hR⟩, rfl⟩)
  ·exact .inl ⟨n, u, j, w', D, hR, rfl⟩
  ·exact .inr ⟨c, p, q, w', o', D, hR, rfl⟩

def row_vc (s_0 : List UInt8) (s_1 : Int) (sl : List Int) (B : List (Nat × Obj)) (K : Int → Value → (List UInt8) → Int → (List Int) → (List (Nat × Obj)) → Prop) (KP : Value → (List UInt8) → Int → (List Int) → (List (Nat × Obj)) → Prop) : Prop :=
 (∀ (sz : Int) (u : Value) (B_1' : List (Nat × Obj)), LeafR B B_1' .eps sz u →
  (u.oneCell' = true) ∧
  ∃ (Inv : Bool → Int → Value → (List (Nat × Obj)) → Int → Prop) (mu : Bool → Int → Value → (List (Nat × Obj)) → Int → Nat),
   Inv false sz u B_1' s_1 ∧ ∀ (any_1' : Bool) (out_0_1' : Int) (out_1_1' : Value) (c_6' : List (Nat × Obj)) (s_1_2' : Int), Inv any_1' out_0_1' out_1_1' c_6' s_1_2' →
    (if (!(decide ((s_0.length : Int) ≤ s_1_2'))) = true then
     (0 ≤ s_1_2') ∧
     ∃ (J0_6' : Bool → Prop),
      (∀ (t14_2' : Bool), J0_6' t14_2' →
       (if t14_2' = true then
        (out_1_1'.oneCell' = true) ∧
        K out_0_1' out_1_1' s_0 s_1_2' sl c_6'
       else
        ∃ (J0_7' : Bool → Prop),
         (∀ (t20_2' : Bool), J0_7' t20_2' →
          (if t20_2' = true then
           KP (faultV 20 s_1_2') s_0 s_1_2' sl c_6'
          else
           (AtomDoes s_0 s_1_2') ∧
           (0 ≤ s_1_2' ∧ s_1_2' < (s_0.length : Int) ∧ s_0.length ≤ 1048576 ∧ sl.length ≤ 1000) ∧
           (∀ (sz_7' : Int) (u_7' : Value) (j_4' : Int) (B_12' : List (Nat × Obj)), ReadR (AtR s_0 sl.length s_1_2') s_0 s_1_2' c_6' B_12' j_4' sz_7' u_7' →
            (0 ≤ j_4' ∧ j_4' ≤ (s_0.length : Int) ∧ s_0.length ≤ 1048576 ∧ RuleB sz_7' u_7') ∧
            (∀ (sz_8' : Int) (u_8' : Value) (j_5' : Int) (B_14' : List (Nat × Obj)), RepR s_0 j_4' B_12' B_14' sz_7' u_7' j_5' sz_8' u_8' →
             (u_8'.oneCell' = true) ∧
             ∃ (J0_8' : (List (Nat × Obj)) → Int → Value → Prop),
              (∀ (c_9' : List (Nat × Obj)) (piece_0_1' : Int) (piece_1_1' : Value), J0_8' c_9' piece_0_1' piece_1_1' →
               (piece_1_1'.oneCell' = true) ∧
               Inv true piece_0_1' piece_1_1' c_9' j_5' ∧ mu true piece_0_1' piece_1_1' c_9' j_5' < mu any_1' out_0_1' out_1_1' c_6' s_1_2') ∧
              (if any_1' = true then
               (SizeB out_0_1' ∧ SizeB sz_8') ∧
               (∀ (sz_10' : Int) (u_10' : Value) (B_17' : List (Nat × Obj)), JoinR Tr.cat B_14' B_17' out_0_1' out_1_1' sz_8' u_8' sz_10' u_10' →
                (u_10'.oneCell' = true) ∧
                J0_8' B_17' sz_10' u_10')
              else
               J0_8' B_14' sz_8' u_8')) ∧
            (∀ (c_8' : Int) (p_5' : Int) (q_5' : Int) (B_15' : List (Nat × Obj)), RepE s_0 j_4' B_12' sz_7' u_7' c_8' p_5' →
             KP (faultV c_8' p_5') s_0 q_5' sl B_15')) ∧
           (∀ (c_7' : Int) (p_4' : Int) (q_4' : Int) (o_23' : List Int) (B_13' : List (Nat × Obj)), AtR s_0 sl.length s_1_2' (.error (c_7', p_4')) →
            KP (faultV c_7' p_4') s_0 q_4' o_23' B_13'))) ∧
         (if (decide (nx s_0 s_1_2' = 42)) = true then
          J0_7' (decide (nx s_0 s_1_2' = 42))
         else
          (if (decide (nx s_0 s_1_2' = 43)) = true then
           J0_7' (decide (nx s_0 s_1_2' = 43))
          else
           (if (decide (nx s_0 s_1_2' = 63)) = true then
            J0_7' (decide (nx s_0 s_1_2' = 63))
           else
            J0_7' (decide (nx s_0 s_1_2' = 123))))))) ∧
      (if (decide (nx s_0 s_1_2' = 124)) = true then
       J0_6' (decide (nx s_0 s_1_2' = 124))
      else
       (if (decide (nx s_0 s_1_2' = 38)) = true then
        J0_6' (decide (nx s_0 s_1_2' = 38))
       else
        (if (decide (nx s_0 s_1_2' = 45)) = true then
         J0_6' (decide (nx s_0 s_1_2' = 45))
        else
         J0_6' (decide (nx s_0 s_1_2' = 41)))))
    else
     (out_1_1'.oneCell' = true) ∧
     K out_0_1' out_1_1' s_0 s_1_2' sl c_6'))
set_option maxRecDepth 100000 in
theorem row_wp (b : Nat) (w : Value) (te : TypeId) (fre : Nat × Nat) (s_0 : List UInt8) (s_1 : Int) (sl : List Int) (B : List (Nat × Obj)) (K : Int → Value → (List UInt8) → Int → (List Int) → (List (Nat × Obj)) → Prop) (KP : Value → (List UInt8) → Int → (List Int) → (List (Nat × Obj)) → Prop) (h : row_vc s_0 s_1 sl B K KP) :
  Does Tryd.prog 113 [zP b] [(1, .cells [zU 110, zU 10, zU 114, zU 13, zU 116, zU 9].toArray te fre)] [HA.blk b (.cells [st s_0, zI s_1, w].toArray 76 (0, 0)), HA.row w 3 1 sl.length (sl.flatMap intC), pool B] (fun o => (∃ (v_0 : Int) (v_1 : Value) (d_1' : List UInt8) (d_2' : Int) (w_9' : Value) (d : List Int) (D : List (Nat × Obj)), K v_0 v_1 d_1' d_2' d D ∧ o = .ret (Value.agg [zI v_0, v_1].toArray) [HA.blk b (.cells [st d_1', zI d_2', w_9'].toArray 76 (0, 0)), HA.row w_9' 3 1 d.length (d.flatMap intC), pool D]) ∨ (∃ (pv : Value) (d_1' : List UInt8) (d_2' : Int) (w_9' : Value) (d : List Int) (D : List (Nat × Obj)), KP pv d_1' d_2' d D ∧ o = .pan [{ v := pv, recovered := false }] [HA.blk b (.cells [st d_1', zI d_2', w_9'].toArray 76 (0, 0)), HA.row w_9' 3 1 d.length (d.flatMap intC), pool D])) := by
 unfold row_vc at h
 refine does_of_wc (n := 41) (L0 := [(0, zP b)]) Tryd.func113 rfl rfl rfl rfl (fun w0 M Q hE => ?_)
 refine wc_seq (fun K0 hK => ?_)
 refine wc_region ?_
 refine WL.make (MV.alloc tf_zero_79) rfl rfl rfl (fun b_1' => ?_)
 refine WL.nil ?_
 refine KX.go (hK [(0, zP b), (2, zP b_1')] _ ?_) ⟨rfl, rfl, trivial⟩
 refine wc_seq (fun K0_1' hK_1' => ?_)
 refine wc_region ?_
 refine wv (OV.build rfl (cs := []) rfl) ?_
 refine wv (OV.cast (OV.iface rfl tf_conc_49) (v' := Tr.val .eps) rfl) ?_
 refine WL.pick (H' := [pool B, HA.blk b_1' (.cells [zI 0, Value.nilFunc].toArray 79 (0, 0)), HA.blk b (.cells [st s_0, zI s_1, w].toArray 76 (0, 0)), HA.row w 3 1 sl.length (sl.flatMap intC)]) [3, 0, 1, 2] rfl rfl ?_
 refine WL.callS tf_ent_144 rfl (leaf_does .eps B) rfl trivial rfl rfl (fun r H' hS => ?_) (fun c H' hS => ?_)
 ·obtain ⟨sz, u, B_1', hc, ho⟩ := hS
  cases ho
  replace h := h sz u B_1' hc
  refine WL.make (MV.alloc tf_zero_79) rfl rfl rfl (fun b_2' => ?_)
  obtain ⟨o, h⟩ := h
  refine WL.storeW (vs := [zI sz, u]) 0 rfl rfl rfl rfl rfl tf_size_79 rfl (one_cons rfl (one_cons o one_nil)) rfl ?_
  refine wv (OV.assign rfl) ?_
  refine WL.nil ?_
  refine KX.go (hK_1' [(0, zP b), (2, zP b_1'), (3, zP b_2'), (4, zB false)] _ ?_) ⟨rfl, rfl, rfl, rfl, trivial⟩
  refine wc_seq (fun K0_2' hK_2' => ?_)
  refine wc_block ?_
  obtain ⟨Inv, mu, h0, hr⟩ := h
  refine wc_loop (S := Bool × Int × Value × (List (Nat × Obj)) × Int × Value) (fun σ => Inv σ.1 σ.2.1 σ.2.2.1 σ.2.2.2.1 σ.2.2.2.2.1) (fun σ => mu σ.1 σ.2.1 σ.2.2.1 σ.2.2.2.1 σ.2.2.2.2.1) (fun σ => [(0, zP b), (2, zP b_1'), (3, zP b_2'), (4, zB σ.1)]) (fun σ => [HA.blk b_2' (.cells [zI σ.2.1, σ.2.2.1].toArray 79 (0, 0)), pool σ.2.2.2.1, HA.blk b_1' (.cells [zI 0, Value.nilFunc].toArray 79 (0, 0)), HA.blk b (.cells [st s_0, zI σ.2.2.2.2.1, σ.2.2.2.2.2].toArray 76 (0, 0)), HA.row σ.2.2.2.2.2 3 1 sl.length (sl.flatMap intC)]) (false, sz, u, B_1', s_1, w) h0 ⟨rfl, rfl, rfl, rfl, trivial⟩ rfl ?_
  rintro ⟨any_1', out_0_1', out_1_1', c_6', s_1_2', w_6'⟩ hi K0_49' hK_49'
  have h := hr any_1' out_0_1' out_1_1' c_6' s_1_2' hi
  show WC _ _ _ _ [(0, zP b), (2, zP b_1'), (3, zP b_2'), (4, zB any_1')] [HA.blk b_2' (.cells [zI out_0_1', out_1_1'].toArray 79 (0, 0)), pool c_6', HA.blk b_1' (.cells [zI 0, Value.nilFunc].toArray 79 (0, 0)), HA.blk b (.cells [st s_0, zI s_1_2', w_6'].toArray 76 (0, 0)), HA.row w_6' 3 1 sl.length (sl.flatMap intC)]
  refine wc_seq (fun K0_50' hK_50' => ?_)
  refine wc_seq (fun K0_51' hK_51' => ?_)
  refine wc_region ?_
  refine wv (OV.move rfl) ?_
  refine WL.call (A := []) tf_ent_38 rfl (ended_does b s_0 s_1_2' w_6') rfl ⟨.inl ⟨3, rfl⟩, trivial⟩ rfl rfl ?_
  refine wv (OV.not rfl) ?_
  refine WL.nil ?_
  refine KX.go (hK_51' [(0, zP b), (2, zP b_1'), (3, zP b_2'), (4, zB any_1'), (11, zB (!(decide ((s_0.length : Int) ≤ s_1_2'))))] _ ?_) ⟨rfl, rfl, rfl, rfl, rfl, trivial⟩
  refine wc_cond (b := !(decide ((s_0.length : Int) ≤ s_1_2'))) rfl (fun hb => ?_) (fun hb => ?_)
  ·replace h := if_T h hb
   refine wc_skip ?_
   refine KX.go (hK_50' [(0, zP b), (2, zP b_1'), (3, zP b_2'), (4, zB any_1')] _ ?_) ⟨rfl, rfl, rfl, rfl, trivial⟩
   refine wc_block ?_
   refine wc_seq (fun K0_52' hK_52' => ?_)
   refine wc_seq (fun K0_53' hK_53' => ?_)
   refine wc_region ?_
   refine wv (OV.move rfl) ?_
   obtain ⟨o_21', h⟩ := h
   refine WL.call (A := []) tf_ent_77 rfl (next_does b s_0 s_1_2' w_6' o_21') rfl ⟨.inl ⟨3, rfl⟩, trivial⟩ rfl rfl ?_
   refine WL.nil ?_
   refine KX.go (hK_53' [(0, zP b), (2, zP b_1'), (3, zP b_2'), (4, zB any_1'), (13, zU (nx s_0 s_1_2'))] _ ?_) ⟨rfl, rfl, rfl, rfl, rfl, trivial⟩
   refine wc_block ?_
   obtain ⟨J0_6', hJ_6', h⟩ := h
   refine wc_seqJ (X := Bool) (fun σ => J0_6' σ) (fun σ => [(0, zP b), (2, zP b_1'), (3, zP b_2'), (4, zB any_1'), (13, zU (nx s_0 s_1_2')), (14, zB σ)]) (fun σ => [HA.blk b_2' (.cells [zI out_0_1', out_1_1'].toArray 79 (0, 0)), pool c_6', HA.blk b_1' (.cells [zI 0, Value.nilFunc].toArray 79 (0, 0)), HA.blk b (.cells [st s_0, zI s_1_2', w_6'].toArray 76 (0, 0)), HA.row w_6' 3 1 sl.length (sl.flatMap intC)]) ?_ (fun K0_57' hK_57' => ?_)
   ·rintro t14_2' hj
    replace h := hJ_6' t14_2' hj
    show WC _ _ _ _ [(0, zP b), (2, zP b_1'), (3, zP b_2'), (4, zB any_1'), (13, zU (nx s_0 s_1_2')), (14, zB t14_2')] [HA.blk b_2' (.cells [zI out_0_1', out_1_1'].toArray 79 (0, 0)), pool c_6', HA.blk b_1' (.cells [zI 0, Value.nilFunc].toArray 79 (0, 0)), HA.blk b (.cells [st s_0, zI s_1_2', w_6'].toArray 76 (0, 0)), HA.row w_6' 3 1 sl.length (sl.flatMap intC)]
    refine wc_cond (b := t14_2') rfl (fun hb => ?_) (fun hb => ?_)
    ·replace h := if_T h hb
     refine wc_seq (fun K0_58' hK_58' => ?_)
     refine wc_region ?_
     refine wv (OV.loadR rfl (At.own 0 rfl) tf_row_79) ?_
     obtain ⟨o_22', h⟩ := h
     refine WL.storeW (vs := [zI out_0_1', out_1_1']) 2 rfl rfl rfl rfl rfl tf_size_79 rfl (one_cons rfl (one_cons o_22' one_nil)) rfl ?_
     refine WL.nil ?_
     refine KX.go (hK_58' [(2, zP b_1')] _ ?_) ⟨rfl, trivial⟩
     refine wc_ret ?_
     exact hE.ret [3, 4, 1] rfl rfl (.inl ⟨_, _, _, _, _, _, _, h, rfl⟩) (ResV.of1 rfl (RV.row rfl (At.own 2 rfl) tf_row_79))
    ·replace h := if_F h hb
     obtain ⟨J0_7', hJ_7', h⟩ := h
     refine wc_seqJ (X := Bool) (fun σ => J0_7' σ) (fun σ => [(0, zP b), (2, zP b_1'), (3, zP b_2'), (4, zB any_1'), (20, zB σ)]) (fun σ => [HA.blk b_2' (.cells [zI out_0_1', out_1_1'].toArray 79 (0, 0)), pool c_6', HA.blk b_1' (.cells [zI 0, Value.nilFunc].toArray 79 (0, 0)), HA.blk b (.cells [st s_0, zI s_1_2', w_6'].toArray 76 (0, 0)), HA.row w_6' 3 1 sl.length (sl.flatMap intC)]) ?_ (fun K0_62' hK_62' => ?_)
     ·rintro t20_2' hj
      replace h := hJ_7' t20_2' hj
      show WC _ _ _ _ [(0, zP b), (2, zP b_1'), (3, zP b_2'), (4, zB any_1'), (20, zB t20_2')] [HA.blk b_2' (.cells [zI out_0_1', out_1_1'].toArray 79 (0, 0)), pool c_6', HA.blk b_1' (.cells [zI 0, Value.nilFunc].toArray 79 (0, 0)), HA.blk b (.cells [st s_0, zI s_1_2', w_6'].toArray 76 (0, 0)), HA.row w_6' 3 1 sl.length (sl.flatMap intC)]
      refine wc_cond (b := t20_2') rfl (fun hb => ?_) (fun hb => ?_)
      ·replace h := if_T h hb
       refine wc_region ?_
       refine wv (OV.move rfl) ?_
       refine wv (OV.move rfl) ?_
       refine wv (OV.nilCheck rfl) ?_
       refine wv (OV.fieldAddr0 rfl tf_field_76_1) ?_
       refine wv (OV.load rfl (At.own 3 rfl) rfl tf_scal_3) ?_
       refine WL.callS tf_ent_39 rfl (rfail_does (zP b) 20 s_1_2') rfl trivial rfl rfl (fun r H' hS => by cases hS) (fun c H' hS => ?_)
       cases hS
       exact hE.pan [3, 4, 1] rfl rfl (.inr ⟨_, _, _, _, _, _, h, rfl⟩)
      ·replace h := if_F h hb
       refine wc_skip ?_
       refine KX.go (hK_52' [(0, zP b), (2, zP b_1'), (3, zP b_2'), (4, zB any_1')] _ ?_) ⟨rfl, rfl, rfl, rfl, trivial⟩
       refine wc_seq (fun K0_63' hK_63' => ?_)
       refine wc_region ?_
       refine wv (OV.move rfl) ?_
       refine wv (OV.move rfl) ?_
       obtain ⟨o_24', h⟩ := h
       obtain ⟨o_25', h⟩ := h
       refine WL.pick (H' := [HA.blk b (.cells [st s_0, zI s_1_2', w_6'].toArray 76 (0, 0)), HA.row w_6' 3 1 sl.length (sl.flatMap intC), pool c_6', HA.blk b_2' (.cells [zI out_0_1', out_1_1'].toArray 79 (0, 0)), HA.blk b_1' (.cells [zI 0, Value.nilFunc].toArray 79 (0, 0))]) [3, 4, 1, 0, 2] rfl rfl ?_
       refine WL.callS tf_ent_146 rfl (o_24' b te fre w_6' sl c_6' o_25') rfl ⟨.inr (List.mem_of_getElem? (i := 0) rfl), trivial⟩ rfl rfl (fun r H' hS => ?_) (fun c H' hS => ?_)
       ·rcases hS with ⟨sz_7', u_7', j_4', w_7', B_12', hc, ho⟩ | ⟨c_7', p_4', q_4', w_8', o_23', B_13', hc, ho⟩ <;> cases ho
        replace h := h.1 sz_7' u_7' j_4' B_12' hc
        obtain ⟨o_26', h⟩ := h
        refine WL.pick (H' := [HA.blk b (.cells [st s_0, zI j_4', w_7'].toArray 76 (0, 0)), pool B_12', HA.row w_7' 3 1 sl.length (sl.flatMap intC), HA.blk b_2' (.cells [zI out_0_1', out_1_1'].toArray 79 (0, 0)), HA.blk b_1' (.cells [zI 0, Value.nilFunc].toArray 79 (0, 0))]) [0, 2, 1, 3, 4] rfl rfl ?_
        refine WL.callS tf_ent_145 rfl (repeats_does b s_0 j_4' w_7' sz_7' u_7' B_12' o_26') rfl trivial rfl rfl (fun r H' hS => ?_) (fun c H' hS => ?_)
        ·rcases hS with ⟨sz_8', u_8', j_5', B_14', hc, ho⟩ | ⟨c_8', p_5', q_5', B_15', hc, ho⟩ <;> cases ho
         replace h := h.1 sz_8' u_8' j_5' B_14' hc
         refine WL.make (MV.alloc tf_zero_79) rfl rfl rfl (fun b_5' => ?_)
         obtain ⟨o_27', h⟩ := h
         refine WL.storeW (vs := [zI sz_8', u_8']) 0 rfl rfl rfl rfl rfl tf_size_79 rfl (one_cons rfl (one_cons o_27' one_nil)) rfl ?_
         refine WL.nil ?_
         refine KX.go (hK_63' [(0, zP b), (2, zP b_1'), (3, zP b_2'), (4, zB any_1'), (5, zP b_5')] _ ?_) ⟨rfl, rfl, rfl, rfl, rfl, trivial⟩
         obtain ⟨J0_8', hJ_8', h⟩ := h
         refine wc_seqJ (X := (List (Nat × Obj)) × Int × Value) (fun σ => J0_8' σ.1 σ.2.1 σ.2.2) (fun σ => [(0, zP b), (2, zP b_1'), (3, zP b_2'), (5, zP b_5')]) (fun σ => [pool σ.1, HA.blk b_5' (.cells [zI σ.2.1, σ.2.2].toArray 79 (0, 0)), HA.blk b (.cells [st s_0, zI j_5', w_7'].toArray 76 (0, 0)), HA.row w_7' 3 1 sl.length (sl.flatMap intC), HA.blk b_2' (.cells [zI out_0_1', out_1_1'].toArray 79 (0, 0)), HA.blk b_1' (.cells [zI 0, Value.nilFunc].toArray 79 (0, 0))]) ?_ (fun K0_65' hK_65' => ?_)
         ·rintro ⟨c_9', piece_0_1', piece_1_1'⟩ hj
          replace h := hJ_8' c_9' piece_0_1' piece_1_1' hj
          show WC _ _ _ _ [(0, zP b), (2, zP b_1'), (3, zP b_2'), (5, zP b_5')] [pool c_9', HA.blk b_5' (.cells [zI piece_0_1', piece_1_1'].toArray 79 (0, 0)), HA.blk b (.cells [st s_0, zI j_5', w_7'].toArray 76 (0, 0)), HA.row w_7' 3 1 sl.length (sl.flatMap intC), HA.blk b_2' (.cells [zI out_0_1', out_1_1'].toArray 79 (0, 0)), HA.blk b_1' (.cells [zI 0, Value.nilFunc].toArray 79 (0, 0))]
          refine wc_region ?_
          refine wv (OV.loadR rfl (At.own 1 rfl) tf_row_79) ?_
          obtain ⟨o_30', h⟩ := h
          refine WL.storeW (vs := [zI piece_0_1', piece_1_1']) 4 rfl rfl rfl rfl rfl tf_size_79 rfl (one_cons rfl (one_cons o_30' one_nil)) rfl ?_
          refine wv (OV.assign rfl) ?_
          refine WL.nil ?_
          exact KX.goH (hK_49' (true, piece_0_1', piece_1_1', c_9', j_5', w_7') h.1 h.2) ⟨rfl, rfl, rfl, rfl, trivial⟩ [4, 0, 5, 2, 3] rfl rfl
         ·skip
          refine wc_seq (fun K0_66' hK_66' => ?_)
          refine wc_region ?_
          refine wv (OV.move rfl) ?_
          refine WL.nil ?_
          refine KX.go (hK_66' [(0, zP b), (2, zP b_1'), (3, zP b_2'), (5, zP b_5'), (35, zB any_1')] _ ?_) ⟨rfl, rfl, rfl, rfl, rfl, trivial⟩
          refine wc_cond (b := any_1') rfl (fun hb => ?_) (fun hb => ?_)
          ·replace h := if_T h hb
           refine wc_region ?_
           refine wv (OV.loadR rfl (At.own 4 rfl) tf_row_79) ?_
           refine wv (OV.loadR rfl (At.own 0 rfl) tf_row_79) ?_
           obtain ⟨o_31', h⟩ := h
           refine WL.pick (H' := [pool B_14', HA.blk b_5' (.cells [zI sz_8', u_8'].toArray 79 (0, 0)), HA.blk b (.cells [st s_0, zI j_5', w_7'].toArray 76 (0, 0)), HA.row w_7' 3 1 sl.length (sl.flatMap intC), HA.blk b_2' (.cells [zI out_0_1', out_1_1'].toArray 79 (0, 0)), HA.blk b_1' (.cells [zI 0, Value.nilFunc].toArray 79 (0, 0))]) [2, 0, 1, 3, 4, 5] rfl rfl ?_
           refine WL.callS tf_ent_78 rfl (join_does Tr.cat_op out_0_1' out_1_1' sz_8' u_8' B_14' o_31') rfl trivial rfl rfl (fun r H' hS => ?_) (fun c H' hS => ?_)
           ·obtain ⟨sz_10', u_10', B_17', hc, ho⟩ := hS
            cases ho
            replace h := h sz_10' u_10' B_17' hc
            obtain ⟨o_32', h⟩ := h
            refine WL.storeW (vs := [zI sz_10', u_10']) 1 rfl rfl rfl rfl rfl tf_size_79 rfl (one_cons rfl (one_cons o_32' one_nil)) rfl ?_
            refine WL.nil ?_
            exact KX.goH (hK_65' (B_17', sz_10', u_10') h) ⟨rfl, rfl, rfl, rfl, trivial⟩ [0, 1, 2, 3, 4, 5] rfl rfl
           ·obtain ⟨sz_10', u_10', B_17', hc, ho⟩ := hS
            cases ho
          ·replace h := if_F h hb
           refine wc_skip ?_
           exact KX.goH (hK_65' (B_14', sz_8', u_8') h) ⟨rfl, rfl, rfl, rfl, trivial⟩ [2, 0, 1, 3, 4, 5] rfl rfl
        ·rcases hS with ⟨sz_8', u_8', j_5', B_14', hc, ho⟩ | ⟨c_8', p_5', q_5', B_15', hc, ho⟩ <;> cases ho
         replace h := h.2 c_8' p_5' q_5' B_15' hc
         exact hE.pan [0, 2, 1] rfl rfl (.inr ⟨_, _, _, _, _, _, h, rfl⟩)
       ·rcases hS with ⟨sz_7', u_7', j_4', w_7', B_12', hc, ho⟩ | ⟨c_7', p_4', q_4', w_8', o_23', B_13', hc, ho⟩ <;> cases ho
        replace h := h.2 c_7' p_4' q_4' o_23' B_13' hc
        exact hE.pan [0, 1, 2] rfl rfl (.inr ⟨_, _, _, _, _, _, h, rfl⟩)
     ·skip
      refine wc_seq (fun K0_67' hK_67' => ?_)
      refine wc_region ?_
      refine wv (OV.eql rfl rfl) ?_
      refine wv (OV.assign rfl) ?_
      refine WL.nil ?_
      refine KX.go (hK_67' [(0, zP b), (2, zP b_1'), (3, zP b_2'), (4, zB any_1'), (13, zU (nx s_0 s_1_2')), (20, zB (decide (nx s_0 s_1_2' = 42)))] _ ?_) ⟨rfl, rfl, rfl, rfl, rfl, rfl, trivial⟩
      refine wc_cond (b := decide (nx s_0 s_1_2' = 42)) rfl (fun hb => ?_) (fun hb => ?_)
      ·replace h := if_T h hb
       refine wc_skip ?_
       exact KX.goH (hK_62' (decide (nx s_0 s_1_2' = 42)) h) ⟨rfl, rfl, rfl, rfl, rfl, trivial⟩ [0, 1, 2, 3, 4] rfl rfl
      ·replace h := if_F h hb
       refine wc_seq (fun K0_68' hK_68' => ?_)
       refine wc_region ?_
       refine wv (OV.eql rfl rfl) ?_
       refine wv (OV.assign rfl) ?_
       refine WL.nil ?_
       refine KX.go (hK_68' [(0, zP b), (2, zP b_1'), (3, zP b_2'), (4, zB any_1'), (13, zU (nx s_0 s_1_2')), (20, zB (decide (nx s_0 s_1_2' = 43)))] _ ?_) ⟨rfl, rfl, rfl, rfl, rfl, rfl, trivial⟩
       refine wc_cond (b := decide (nx s_0 s_1_2' = 43)) rfl (fun hb => ?_) (fun hb => ?_)
       ·replace h := if_T h hb
        refine wc_skip ?_
        exact KX.goH (hK_62' (decide (nx s_0 s_1_2' = 43)) h) ⟨rfl, rfl, rfl, rfl, rfl, trivial⟩ [0, 1, 2, 3, 4] rfl rfl
       ·replace h := if_F h hb
        refine wc_seq (fun K0_69' hK_69' => ?_)
        refine wc_region ?_
        refine wv (OV.eql rfl rfl) ?_
        refine wv (OV.assign rfl) ?_
        refine WL.nil ?_
        refine KX.go (hK_69' [(0, zP b), (2, zP b_1'), (3, zP b_2'), (4, zB any_1'), (13, zU (nx s_0 s_1_2')), (20, zB (decide (nx s_0 s_1_2' = 63)))] _ ?_) ⟨rfl, rfl, rfl, rfl, rfl, rfl, trivial⟩
        refine wc_cond (b := decide (nx s_0 s_1_2' = 63)) rfl (fun hb => ?_) (fun hb => ?_)
        ·replace h := if_T h hb
         refine wc_skip ?_
         exact KX.goH (hK_62' (decide (nx s_0 s_1_2' = 63)) h) ⟨rfl, rfl, rfl, rfl, rfl, trivial⟩ [0, 1, 2, 3, 4] rfl rfl
        ·replace h := if_F h hb
         refine wc_region ?_
         refine wv (OV.eql rfl rfl) ?_
         refine wv (OV.assign rfl) ?_
         refine WL.nil ?_
         exact KX.goH (hK_62' (decide (nx s_0 s_1_2' = 123)) h) ⟨rfl, rfl, rfl, rfl, rfl, trivial⟩ [0, 1, 2, 3, 4] rfl rfl
   ·skip
    refine wc_seq (fun K0_70' hK_70' => ?_)
    refine wc_region ?_
    refine wv (OV.eql rfl rfl) ?_
    refine wv (OV.assign rfl) ?_
    refine WL.nil ?_
    refine KX.go (hK_70' [(0, zP b), (2, zP b_1'), (3, zP b_2'), (4, zB any_1'), (13, zU (nx s_0 s_1_2')), (14, zB (decide (nx s_0 s_1_2' = 124)))] _ ?_) ⟨rfl, rfl, rfl, rfl, rfl, rfl, trivial⟩
    refine wc_cond (b := decide (nx s_0 s_1_2' = 124)) rfl (fun hb => ?_) (fun hb => ?_)
    ·replace h := if_T h hb
     refine wc_skip ?_
     exact KX.goH (hK_57' (decide (nx s_0 s_1_2' = 124)) h) ⟨rfl, rfl, rfl, rfl, rfl, rfl, trivial⟩ [0, 1, 2, 3, 4] rfl rfl
    ·replace h := if_F h hb
     refine wc_seq (fun K0_71' hK_71' => ?_)
     refine wc_region ?_
     refine wv (OV.eql rfl rfl) ?_
     refine wv (OV.assign rfl) ?_
     refine WL.nil ?_
     refine KX.go (hK_71' [(0, zP b), (2, zP b_1'), (3, zP b_2'), (4, zB any_1'), (13, zU (nx s_0 s_1_2')), (14, zB (decide (nx s_0 s_1_2' = 38)))] _ ?_) ⟨rfl, rfl, rfl, rfl, rfl, rfl, trivial⟩
     refine wc_cond (b := decide (nx s_0 s_1_2' = 38)) rfl (fun hb => ?_) (fun hb => ?_)
     ·replace h := if_T h hb
      refine wc_skip ?_
      exact KX.goH (hK_57' (decide (nx s_0 s_1_2' = 38)) h) ⟨rfl, rfl, rfl, rfl, rfl, rfl, trivial⟩ [0, 1, 2, 3, 4] rfl rfl
     ·replace h := if_F h hb
      refine wc_seq (fun K0_72' hK_72' => ?_)
      refine wc_region ?_
      refine wv (OV.eql rfl rfl) ?_
      refine wv (OV.assign rfl) ?_
      refine WL.nil ?_
      refine KX.go (hK_72' [(0, zP b), (2, zP b_1'), (3, zP b_2'), (4, zB any_1'), (13, zU (nx s_0 s_1_2')), (14, zB (decide (nx s_0 s_1_2' = 45)))] _ ?_) ⟨rfl, rfl, rfl, rfl, rfl, rfl, trivial⟩
      refine wc_cond (b := decide (nx s_0 s_1_2' = 45)) rfl (fun hb => ?_) (fun hb => ?_)
      ·replace h := if_T h hb
       refine wc_skip ?_
       exact KX.goH (hK_57' (decide (nx s_0 s_1_2' = 45)) h) ⟨rfl, rfl, rfl, rfl, rfl, rfl, trivial⟩ [0, 1, 2, 3, 4] rfl rfl
      ·replace h := if_F h hb
       refine wc_region ?_
       refine wv (OV.eql rfl rfl) ?_
       refine wv (OV.assign rfl) ?_
       refine WL.nil ?_
       exact KX.goH (hK_57' (decide (nx s_0 s_1_2' = 41)) h) ⟨rfl, rfl, rfl, rfl, rfl, rfl, trivial⟩ [0, 1, 2, 3, 4] rfl rfl
  ·replace h := if_F h hb
   refine wc_exit ?_
   refine KX.go (hK_2' [(2, zP b_1'), (3, zP b_2')] _ ?_) ⟨rfl, rfl, trivial⟩
   refine wc_seq (fun K0_73' hK_73' => ?_)
   refine wc_region ?_
   refine wv (OV.loadR rfl (At.own 0 rfl) tf_row_79) ?_
   obtain ⟨o_33', h⟩ := h
   refine WL.storeW (vs := [zI out_0_1', out_1_1']) 2 rfl rfl rfl rfl rfl tf_size_79 rfl (one_cons rfl (one_cons o_33' one_nil)) rfl ?_
   refine WL.nil ?_
   refine KX.go (hK_73' [(2, zP b_1')] _ ?_) ⟨rfl, trivial⟩
   refine wc_ret ?_
   exact hE.ret [3, 4, 1] rfl rfl (.inl ⟨_, _, _, _, _, _, _, h, rfl⟩) (ResV.of1 rfl (RV.row rfl (At.own 2 rfl) tf_row_79))
 ·obtain ⟨sz, u, B_1', hc, ho⟩ := hS
  cases ho

theorem row_does {t : List UInt8} {i : Int} (hA : ∀ j, i ≤ j → AtomDoes t j) : RowDoes t i := by
 rintro b te fre w o B ⟨h0, h1, h2, h3⟩
 refine (row_wp b w te fre t i o B (KR (PR t (.row none) o.length i) t o i B) (KE (PR t (.row none) o.length i) t) ?_).weak ?_
 ·unfold row_vc
  rintro n0 u0 B0 ⟨g1, g2, g3⟩
  refine ⟨g2.2, fun any n u c j => Sups B c ∧ RuleB n u ∧ i ≤ j ∧ j ≤ t.length ∧ ∃ acc : Option Tr, any = acc.isSome ∧ Is c n u (acc.getD .eps) ∧ ∀ r, PR t (.row acc) o.length j r → PR t (.row none) o.length i r,
   fun _ _ _ _ j => (t.length - j).toNat, ⟨g1, g2, by omega, by omega, none, rfl, g3 rfl, fun _ h => h⟩, ?_⟩
  rintro any n u c j ⟨i1, i2, i3, i4, acc, i5, i6, i7⟩
  have hstop : ¬ (j < t.length ∧ nx t j ≠ 124 ∧ nx t j ≠ 38 ∧ nx t j ≠ 45 ∧ nx t j ≠ 41) → ReadR (PR t (.row none) o.length i) t i B c j n u := fun hs => ⟨i1, i2, i3, i4, _, i7 _ (.rowZ hs), i6⟩
  by_cases hl : (t.length : Int) ≤ j
  ·rw [if_neg (by simpa using hl)]
   exact ⟨i2.2, rfl, rfl, hstop (by omega)⟩
  rw [if_pos (by simpa using hl)]
  refine ⟨by omega, fun q => q = decide (nx t j = 124 ∨ nx t j = 38 ∨ nx t j = 45 ∨ nx t j = 41), ?_, ?_⟩
  ·rintro q rfl
   by_cases hs : nx t j = 124 ∨ nx t j = 38 ∨ nx t j = 45 ∨ nx t j = 41
   ·rw [if_pos (by simpa using hs)]
    exact ⟨i2.2, rfl, rfl, hstop (by omega)⟩
   rw [if_neg (by simpa using hs)]
   refine ⟨fun q => q = decide (nx t j = 42 ∨ nx t j = 43 ∨ nx t j = 63 ∨ nx t j = 123), ?_, ?_⟩
   ·rintro q rfl
    by_cases hp : nx t j = 42 ∨ nx t j = 43 ∨ nx t j = 63 ∨ nx t j = 123
    ·rw [if_pos (by simpa using hp)]
     exact ⟨rfl, 20, j, rfl, i7 _ (.rowB (by omega) hp)⟩
    rw [if_neg (by simpa using hp)]
    have hf : freeC t j := by unfold freeC; omega
    refine ⟨hA j i3, ⟨by omega, by omega, h2, h3⟩, ?_, fun c2 p2 q2 o2 B2 hE => ⟨rfl, c2, p2, rfl, i7 _ (hE.rowE (by omega) hf)⟩⟩
    rintro n2 u2 k B2 ⟨q1, q2, q3, q4, x, q5, q6⟩
    have hk := q5.ends (by omega) (by omega)
    refine ⟨⟨by omega, q4, h2, q2⟩, ?_, fun c2 p2 q2 B3 hE => ⟨rfl, c2, p2, rfl, i7 _ (q5.rowR (by omega) hf (hE x q6))⟩⟩
    rintro n3 u3 l B3 ⟨e1, e2, e3, e4, e5⟩
    obtain ⟨y, e6, e7⟩ := e5 x q6
    refine ⟨e2.2, fun c' n' u' => Sups B c' ∧ RuleB n' u' ∧ Is c' n' u' ((accT acc y).getD .eps), ?_, ?_⟩
    ·rintro c' n' u' ⟨f1, f2, f3⟩
     exact ⟨f2.2, ⟨f1, f2, by omega, by omega, accT acc y, by cases acc <;> rfl, f3, fun r hr => i7 r (q5.row (by omega) hf e6 hr)⟩, by show (t.length - l).toNat < (t.length - j).toNat; omega⟩
    ·cases acc with
     | none =>
      rw [if_neg (by simp [i5])]
      exact ⟨(i1.trans q1).trans e1, e2, e7⟩
     | some z =>
      rw [if_pos (by simp [i5])]
      refine ⟨⟨i2.1, e2.1⟩, ?_⟩
      rintro n4 u4 B4 ⟨z1, z2, z3⟩
      exact ⟨z2.2, ((i1.trans q1).trans e1).trans z1, z2, z3 z y (i6.more (q1.trans e1)) e7⟩
   ·by_cases k1 : nx t j = 42 <;> by_cases k2 : nx t j = 43 <;> by_cases k3 : nx t j = 63 <;> by_cases k4 : nx t j = 123 <;> first | omega | simp [k1, k2, k3, k4]
  ·by_cases k1 : nx t j = 124 <;> by_cases k2 : nx t j = 38 <;> by_cases k3 : nx t j = 45 <;> by_cases k4 : nx t j = 41 <;> first | omega | simp [k1, k2, k3, k4]
 ·rintro out (⟨n, u, t', j, w', o', D, ⟨rfl, rfl, hR⟩, rfl⟩ | ⟨v, t', q, w', o', D, ⟨rfl, c, p, rfl, hR⟩, rfl⟩)
  ·exact .inl ⟨n, u, j, w', D, hR, rfl⟩
  ·exact .inr ⟨c, p, q, w', o', D, hR, rfl⟩

def meets_vc (s_0 : List UInt8) (s_1 : Int) (sl : List Int) (B : List (Nat × Obj)) (K : Int → Value → (List UInt8) → Int → (List Int) → (List (Nat × Obj)) → Prop) (KP : Value → (List UInt8) → Int → (List Int) → (List (Nat × Obj)) → Prop) : Prop :=
 (RowDoes s_0 s_1) ∧
 (0 ≤ s_1 ∧ s_1 ≤ (s_0.length : Int) ∧ s_0.length ≤ 1048576 ∧ sl.length ≤ 1000) ∧
 (∀ (sz : Int) (u : Value) (j : Int) (B_1' : List (Nat × Obj)), ReadR (PR s_0 (.row none) sl.length s_1) s_0 s_1 B B_1' j sz u →
  (u.oneCell' = true) ∧
  ∃ (Inv : Int → Value → Int → (List (Nat × Obj)) → Prop) (mu : Int → Value → Int → (List (Nat × Obj)) → Nat),
   Inv sz u j B_1' ∧ ∀ (out_0_1' : Int) (out_1_1' : Value) (s_1_2' : Int) (c_6' : List (Nat × Obj)), Inv out_0_1' out_1_1' s_1_2' c_6' →
    (if (!(decide ((s_0.length : Int) ≤ s_1_2'))) = true then
     (0 ≤ s_1_2') ∧
     (if (decide (nx s_0 s_1_2' = 38)) = true then
      (I64 (s_1_2' + 1)) ∧
      (RowDoes s_0 (s_1_2' + 1)) ∧
      (0 ≤ (s_1_2' + 1) ∧ (s_1_2' + 1) ≤ (s_0.length : Int) ∧ s_0.length ≤ 1048576 ∧ sl.length ≤ 1000) ∧
      (∀ (sz_9' : Int) (u_9' : Value) (j_5' : Int) (B_15' : List (Nat × Obj)), ReadR (PR s_0 (.row none) sl.length (s_1_2' + 1)) s_0 (s_1_2' + 1) c_6' B_15' j_5' sz_9' u_9' →
       (SizeB out_0_1' ∧ SizeB sz_9') ∧
       (∀ (sz_10' : Int) (u_10' : Value) (B_17' : List (Nat × Obj)), JoinR Tr.and B_15' B_17' out_0_1' out_1_1' sz_9' u_9' sz_10' u_10' →
        (u_10'.oneCell' = true) ∧
        Inv sz_10' u_10' j_5' B_17' ∧ mu sz_10' u_10' j_5' B_17' < mu out_0_1' out_1_1' s_1_2' c_6')) ∧
      (∀ (c_7' : Int) (p_5' : Int) (q_5' : Int) (o_34' : List Int) (B_16' : List (Nat × Obj)), PR s_0 (.row none) sl.length (s_1_2' + 1) (.error (c_7', p_5')) →
       KP (faultV c_7' p_5') s_0 q_5' o_34' B_16')
     else
      (if (decide (nx s_0 s_1_2' = 45)) = true then
       (I64 (s_1_2' + 1)) ∧
       (RowDoes s_0 (s_1_2' + 1)) ∧
       (0 ≤ (s_1_2' + 1) ∧ (s_1_2' + 1) ≤ (s_0.length : Int) ∧ s_0.length ≤ 1048576 ∧ sl.length ≤ 1000) ∧
       (∀ (sz_11' : Int) (u_11' : Value) (j_6' : Int) (B_18' : List (Nat × Obj)), ReadR (PR s_0 (.row none) sl.length (s_1_2' + 1)) s_0 (s_1_2' + 1) c_6' B_18' j_6' sz_11' u_11' →
        (SizeB out_0_1' ∧ SizeB sz_11') ∧
        (∀ (sz_12' : Int) (u_12' : Value) (B_20' : List (Nat × Obj)), JoinR Tr.minus B_18' B_20' out_0_1' out_1_1' sz_11' u_11' sz_12' u_12' →
         (u_12'.oneCell' = true) ∧
         Inv sz_12' u_12' j_6' B_20' ∧ mu sz_12' u_12' j_6' B_20' < mu out_0_1' out_1_1' s_1_2' c_6')) ∧
       (∀ (c_8' : Int) (p_6' : Int) (q_6' : Int) (o_40' : List Int) (B_19' : List (Nat × Obj)), PR s_0 (.row none) sl.length (s_1_2' + 1) (.error (c_8', p_6')) →
        KP (faultV c_8' p_6') s_0 q_6' o_40' B_19')
      else
       (out_1_1'.oneCell' = true) ∧
       K out_0_1' out_1_1' s_0 s_1_2' sl c_6'))
    else
     (out_1_1'.oneCell' = true) ∧
     K out_0_1' out_1_1' s_0 s_1_2' sl c_6')) ∧
 (∀ (c : Int) (p : Int) (q : Int) (o : List Int) (B_2' : List (Nat × Obj)), PR s_0 (.row none) sl.length s_1 (.error (c, p)) →
  KP (faultV c p) s_0 q o B_2')
set_option maxRecDepth 100000 in
theorem meets_wp (b : Nat) (w : Value) (te : TypeId) (fre : Nat × Nat) (s_0 : List UInt8) (s_1 : Int) (sl : List Int) (B : List (Nat × Obj)) (K : Int → Value → (List UInt8) → Int → (List Int) → (List (Nat × Obj)) → Prop) (KP : Value → (List UInt8) → Int → (List Int) → (List (Nat × Obj)) → Prop) (h : meets_vc s_0 s_1 sl B K KP) :
  Does Tryd.prog 76 [zP b] [(1, .cells [zU 110, zU 10, zU 114, zU 13, zU 116, zU 9].toArray te fre)] [HA.blk b (.cells [st s_0, zI s_1, w].toArray 76 (0, 0)), HA.row w 3 1 sl.length (sl.flatMap intC), pool B] (fun o => (∃ (v_0 : Int) (v_1 : Value) (d_1' : List UInt8) (d_2' : Int) (w_17' : Value) (d : List Int) (D : List (Nat × Obj)), K v_0 v_1 d_1' d_2' d D ∧ o = .ret (Value.agg [zI v_0, v_1].toArray) [HA.blk b (.cells [st d_1', zI d_2', w_17'].toArray 76 (0, 0)), HA.row w_17' 3 1 d.length (d.flatMap intC), pool D]) ∨ (∃ (pv : Value) (d_1' : List UInt8) (d_2' : Int) (w_17' : Value) (d : List Int) (D : List (Nat × Obj)), KP pv d_1' d_2' d D ∧ o = .pan [{ v := pv, recovered := false }] [HA.blk b (.cells [st d_1', zI d_2', w_17'].toArray 76 (0, 0)), HA.row w_17' 3 1 d.length (d.flatMap intC), pool D])) := by
 unfold meets_vc at h
 refine does_of_wc (n := 39) (L0 := [(0, zP b)]) Tryd.func76 rfl rfl rfl rfl (fun w0 M Q hE => ?_)
 refine wc_seq (fun K0 hK => ?_)
 refine wc_region ?_
 refine WL.make (MV.alloc tf_zero_79) rfl rfl rfl (fun b_1' => ?_)
 refine WL.nil ?_
 refine KX.go (hK [(0, zP b), (2, zP b_1')] _ ?_) ⟨rfl, rfl, trivial⟩
 refine wc_seq (fun K0_1' hK_1' => ?_)
 refine wc_region ?_
 refine wv (OV.move rfl) ?_
 obtain ⟨o_1', h⟩ := h
 obtain ⟨o_2', h⟩ := h
 refine WL.pick (H' := [HA.blk b (.cells [st s_0, zI s_1, w].toArray 76 (0, 0)), HA.row w 3 1 sl.length (sl.flatMap intC), pool B, HA.blk b_1' (.cells [zI 0, Value.nilFunc].toArray 79 (0, 0))]) [1, 2, 3, 0] rfl rfl ?_
 refine WL.callS tf_ent_113 rfl (o_1' b te fre w sl B o_2') rfl ⟨.inr (List.mem_of_getElem? (i := 0) rfl), trivial⟩ rfl rfl (fun r H' hS => ?_) (fun c H' hS => ?_)
 ·rcases hS with ⟨sz, u, j, w_1', B_1', hc, ho⟩ | ⟨c, p, q, w_2', o, B_2', hc, ho⟩ <;> cases ho
  replace h := h.1 sz u j B_1' hc
  refine WL.make (MV.alloc tf_zero_79) rfl rfl rfl (fun b_2' => ?_)
  obtain ⟨o_3', h⟩ := h
  refine WL.storeW (vs := [zI sz, u]) 0 rfl rfl rfl rfl rfl tf_size_79 rfl (one_cons rfl (one_cons o_3' one_nil)) rfl ?_
  refine WL.nil ?_
  refine KX.go (hK_1' [(0, zP b), (2, zP b_1'), (3, zP b_2')] _ ?_) ⟨rfl, rfl, rfl, trivial⟩
  refine wc_seq (fun K0_2' hK_2' => ?_)
  refine wc_block ?_
  obtain ⟨Inv, mu, h0, hr⟩ := h
  refine wc_loop (S := Int × Value × Int × Value × (List (Nat × Obj))) (fun σ => Inv σ.1 σ.2.1 σ.2.2.1 σ.2.2.2.2) (fun σ => mu σ.1 σ.2.1 σ.2.2.1 σ.2.2.2.2) (fun σ => [(0, zP b), (2, zP b_1'), (3, zP b_2')]) (fun σ => [HA.blk b_2' (.cells [zI σ.1, σ.2.1].toArray 79 (0, 0)), HA.blk b (.cells [st s_0, zI σ.2.2.1, σ.2.2.2.1].toArray 76 (0, 0)), HA.row σ.2.2.2.1 3 1 sl.length (sl.flatMap intC), pool σ.2.2.2.2, HA.blk b_1' (.cells [zI 0, Value.nilFunc].toArray 79 (0, 0))]) (sz, u, j, w_1', B_1') h0 ⟨rfl, rfl, rfl, trivial⟩ rfl ?_
  rintro ⟨out_0_1', out_1_1', s_1_2', w_12', c_6'⟩ hi K0_19' hK_19'
  have h := hr out_0_1' out_1_1' s_1_2' c_6' hi
  show WC _ _ _ _ [(0, zP b), (2, zP b_1'), (3, zP b_2')] [HA.blk b_2' (.cells [zI out_0_1', out_1_1'].toArray 79 (0, 0)), HA.blk b (.cells [st s_0, zI s_1_2', w_12'].toArray 76 (0, 0)), HA.row w_12' 3 1 sl.length (sl.flatMap intC), pool c_6', HA.blk b_1' (.cells [zI 0, Value.nilFunc].toArray 79 (0, 0))]
  refine wc_seq (fun K0_20' hK_20' => ?_)
  refine wc_seq (fun K0_21' hK_21' => ?_)
  refine wc_region ?_
  refine wv (OV.move rfl) ?_
  refine WL.call (A := []) tf_ent_38 rfl (ended_does b s_0 s_1_2' w_12') rfl ⟨.inl ⟨1, rfl⟩, trivial⟩ rfl rfl ?_
  refine wv (OV.not rfl) ?_
  refine WL.nil ?_
  refine KX.go (hK_21' [(0, zP b), (2, zP b_1'), (3, zP b_2'), (8, zB (!(decide ((s_0.length : Int) ≤ s_1_2'))))] _ ?_) ⟨rfl, rfl, rfl, rfl, trivial⟩
  refine wc_cond (b := !(decide ((s_0.length : Int) ≤ s_1_2'))) rfl (fun hb => ?_) (fun hb => ?_)
  ·replace h := if_T h hb
   refine wc_skip ?_
   refine KX.go (hK_20' [(0, zP b), (2, zP b_1'), (3, zP b_2')] _ ?_) ⟨rfl, rfl, rfl, trivial⟩
   refine wc_block ?_
   refine wc_seq (fun K0_22' hK_22' => ?_)
   refine wc_region ?_
   refine wv (OV.move rfl) ?_
   obtain ⟨o_32', h⟩ := h
   refine WL.call (A := []) tf_ent_77 rfl (next_does b s_0 s_1_2' w_12' o_32') rfl ⟨.inl ⟨1, rfl⟩, trivial⟩ rfl rfl ?_
   refine WL.nil ?_
   refine KX.go (hK_22' [(0, zP b), (2, zP b_1'), (3, zP b_2'), (10, zU (nx s_0 s_1_2'))] _ ?_) ⟨rfl, rfl, rfl, rfl, trivial⟩
   refine wc_block ?_
   refine wc_seq (fun K0_23' hK_23' => ?_)
   refine wc_region ?_
   refine wv (OV.eql rfl rfl) ?_
   refine wv (OV.assign rfl) ?_
   refine WL.nil ?_
   refine KX.go (hK_23' [(0, zP b), (2, zP b_1'), (3, zP b_2'), (10, zU (nx s_0 s_1_2')), (12, zB (decide (nx s_0 s_1_2' = 38)))] _ ?_) ⟨rfl, rfl, rfl, rfl, rfl, trivial⟩
   refine wc_cond (b := decide (nx s_0 s_1_2' = 38)) rfl (fun hb => ?_) (fun hb => ?_)
   ·replace h := if_T h hb
    refine wc_seq (fun K0_24' hK_24' => ?_)
    refine wc_region ?_
    refine wv (OV.move rfl) ?_
    refine wv (OV.nilCheck rfl) ?_
    refine wv (OV.fieldAddr0 rfl tf_field_76_1) ?_
    refine wv (OV.load rfl (At.own 1 rfl) rfl tf_scal_3) ?_
    obtain ⟨o_33', h⟩ := h
    refine wv (OV.add rfl rfl o_33') ?_
    refine wv (OV.nilCheck rfl) ?_
    refine wv (OV.fieldAddr0 rfl tf_field_76_1) ?_
    refine WL.store (vs := [zI (s_1_2' + 1)]) (cs' := [st s_0, zI (s_1_2' + 1), w_12']) 1 rfl rfl rfl rfl tf_size_3 (Nat.le_of_ble_eq_true rfl) rfl rfl rfl ?_
    refine WL.nil ?_
    refine KX.go (hK_24' [(0, zP b), (2, zP b_1'), (3, zP b_2')] _ ?_) ⟨rfl, rfl, rfl, trivial⟩
    refine wc_drawC 2 [0, 4] [HA.blk b_2' (.cells [zI out_0_1', out_1_1'].toArray 79 (0, 0)), HA.blk b_1' (.cells [zI 0, Value.nilFunc].toArray 79 (0, 0))] rfl rfl tf_mixed (by kernel_rfl) (fun T_4' hT_4' => ?_)
    refine TW.val (OV.loadR rfl (At.own 0 rfl) tf_row_79) rfl rfl rfl ?_
    refine TW.val (OV.move rfl) rfl rfl rfl ?_
    refine TW.nil (hT_4' _ ?_)
    obtain ⟨o_35', h⟩ := h
    obtain ⟨o_36', h⟩ := h
    refine WLX.pick (H' := [HA.blk b (.cells [st s_0, zI (s_1_2' + 1), w_12'].toArray 76 (0, 0)), HA.row w_12' 3 1 sl.length (sl.flatMap intC), pool c_6', HA.blk b_2' (.cells [zI out_0_1', out_1_1'].toArray 79 (0, 0)), HA.blk b_1' (.cells [zI 0, Value.nilFunc].toArray 79 (0, 0))]) [1, 2, 3, 0, 4] rfl rfl ?_
    refine WLX.callS [0, 1] rfl (EN.fn tf_ent_113 rfl) rfl (o_35' b te fre w_12' sl c_6' o_36') rfl rfl ⟨.inr (List.mem_of_getElem? (i := 0) rfl), trivial⟩ rfl rfl (fun r H' hS => ?_) (fun c H' hS => ?_)
    ·rcases hS with ⟨sz_9', u_9', j_5', w_13', B_15', hc, ho⟩ | ⟨c_7', p_5', q_5', w_14', o_34', B_16', hc, ho⟩ <;> cases ho
     replace h := h.1 sz_9' u_9' j_5' B_15' hc
     obtain ⟨o_37', h⟩ := h
     refine WLX.pick (H' := [pool B_15', HA.blk b (.cells [st s_0, zI j_5', w_13'].toArray 76 (0, 0)), HA.row w_13' 3 1 sl.length (sl.flatMap intC), HA.blk b_2' (.cells [zI out_0_1', out_1_1'].toArray 79 (0, 0)), HA.blk b_1' (.cells [zI 0, Value.nilFunc].toArray 79 (0, 0))]) [2, 0, 1, 3, 4] rfl rfl ?_
     refine WLX.callS [2, 3] rfl (EN.fn tf_ent_78 rfl) rfl (join_does Tr.and_op out_0_1' out_1_1' sz_9' u_9' B_15' o_37') rfl rfl trivial rfl rfl (fun r H' hS => ?_) (fun c H' hS => ?_)
     ·obtain ⟨sz_10', u_10', B_17', hc, ho⟩ := hS
      cases ho
      replace h := h sz_10' u_10' B_17' hc
      obtain ⟨o_38', h⟩ := h
      refine WLX.opZ (OpK.storeW (vs := [zI sz_10', u_10']) 3 rfl rfl rfl rfl rfl tf_size_79 rfl (one_cons rfl (one_cons o_38' one_nil))) rfl ?_
      refine WLX.nil ?_
      exact KX.goH (hK_19' (sz_10', u_10', j_5', w_13', B_17') h.1 h.2) ⟨rfl, rfl, rfl, trivial⟩ [3, 1, 2, 0, 4] rfl rfl
     ·obtain ⟨sz_10', u_10', B_17', hc, ho⟩ := hS
      cases ho
    ·rcases hS with ⟨sz_9', u_9', j_5', w_13', B_15', hc, ho⟩ | ⟨c_7', p_5', q_5', w_14', o_34', B_16', hc, ho⟩ <;> cases ho
     replace h := h.2 c_7' p_5' q_5' o_34' B_16' hc
     refine QX.strong ?_
     exact hE.pan [0, 1, 2] rfl rfl (.inr ⟨_, _, _, _, _, _, h, rfl⟩)
   ·replace h := if_F h hb
    refine wc_seq (fun K0_25' hK_25' => ?_)
    refine wc_region ?_
    refine wv (OV.eql rfl rfl) ?_
    refine wv (OV.assign rfl) ?_
    refine WL.nil ?_
    refine KX.go (hK_25' [(0, zP b), (2, zP b_1'), (3, zP b_2'), (25, zB (decide (nx s_0 s_1_2' = 45)))] _ ?_) ⟨rfl, rfl, rfl, rfl, trivial⟩
    refine wc_cond (b := decide (nx s_0 s_1_2' = 45)) rfl (fun hb => ?_) (fun hb => ?_)
    ·replace h := if_T h hb
     refine wc_seq (fun K0_26' hK_26' => ?_)
     refine wc_region ?_
     refine wv (OV.move rfl) ?_
     refine wv (OV.nilCheck rfl) ?_
     refine wv (OV.fieldAddr0 rfl tf_field_76_1) ?_
     refine wv (OV.load rfl (At.own 1 rfl) rfl tf_scal_3) ?_
     obtain ⟨o_39', h⟩ := h
     refine wv (OV.add rfl rfl o_39') ?_
     refine wv (OV.nilCheck rfl) ?_
     refine wv (OV.fieldAddr0 rfl tf_field_76_1) ?_
     refine WL.store (vs := [zI (s_1_2' + 1)]) (cs' := [st s_0, zI (s_1_2' + 1), w_12']) 1 rfl rfl rfl rfl tf_size_3 (Nat.le_of_ble_eq_true rfl) rfl rfl rfl ?_
     refine WL.nil ?_
     refine KX.go (hK_26' [(0, zP b), (2, zP b_1'), (3, zP b_2')] _ ?_) ⟨rfl, rfl, rfl, trivial⟩
     refine wc_drawC 2 [0, 4] [HA.blk b_2' (.cells [zI out_0_1', out_1_1'].toArray 79 (0, 0)), HA.blk b_1' (.cells [zI 0, Value.nilFunc].toArray 79 (0, 0))] rfl rfl tf_mixed (by kernel_rfl) (fun T_5' hT_5' => ?_)
     refine TW.val (OV.loadR rfl (At.own 0 rfl) tf_row_79) rfl rfl rfl ?_
     refine TW.val (OV.move rfl) rfl rfl rfl ?_
     refine TW.nil (hT_5' _ ?_)
     obtain ⟨o_41', h⟩ := h
     obtain ⟨o_42', h⟩ := h
     refine WLX.pick (H' := [HA.blk b (.cells [st s_0, zI (s_1_2' + 1), w_12'].toArray 76 (0, 0)), HA.row w_12' 3 1 sl.length (sl.flatMap intC), pool c_6', HA.blk b_2' (.cells [zI out_0_1', out_1_1'].toArray 79 (0, 0)), HA.blk b_1' (.cells [zI 0, Value.nilFunc].toArray 79 (0, 0))]) [1, 2, 3, 0, 4] rfl rfl ?_
     refine WLX.callS [0, 1] rfl (EN.fn tf_ent_113 rfl) rfl (o_41' b te fre w_12' sl c_6' o_42') rfl rfl ⟨.inr (List.mem_of_getElem? (i := 0) rfl), trivial⟩ rfl rfl (fun r H' hS => ?_) (fun c H' hS => ?_)
     ·rcases hS with ⟨sz_11', u_11', j_6', w_15', B_18', hc, ho⟩ | ⟨c_8', p_6', q_6', w_16', o_40', B_19', hc, ho⟩ <;> cases ho
      replace h := h.1 sz_11' u_11' j_6' B_18' hc
      obtain ⟨o_43', h⟩ := h
      refine WLX.pick (H' := [pool B_18', HA.blk b (.cells [st s_0, zI j_6', w_15'].toArray 76 (0, 0)), HA.row w_15' 3 1 sl.length (sl.flatMap intC), HA.blk b_2' (.cells [zI out_0_1', out_1_1'].toArray 79 (0, 0)), HA.blk b_1' (.cells [zI 0, Value.nilFunc].toArray 79 (0, 0))]) [2, 0, 1, 3, 4] rfl rfl ?_
      refine WLX.callS [2, 3] rfl (EN.fn tf_ent_78 rfl) rfl (join_does Tr.minus_op out_0_1' out_1_1' sz_11' u_11' B_18' o_43') rfl rfl trivial rfl rfl (fun r H' hS => ?_) (fun c H' hS => ?_)
      ·obtain ⟨sz_12', u_12', B_20', hc, ho⟩ := hS
       cases ho
       replace h := h sz_12' u_12' B_20' hc
       obtain ⟨o_44', h⟩ := h
       refine WLX.opZ (OpK.storeW (vs := [zI sz_12', u_12']) 3 rfl rfl rfl rfl rfl tf_size_79 rfl (one_cons rfl (one_cons o_44' one_nil))) rfl ?_
       refine WLX.nil ?_
       exact KX.goH (hK_19' (sz_12', u_12', j_6', w_15', B_20') h.1 h.2) ⟨rfl, rfl, rfl, trivial⟩ [3, 1, 2, 0, 4] rfl rfl
      ·obtain ⟨sz_12', u_12', B_20', hc, ho⟩ := hS
       cases ho
     ·rcases hS with ⟨sz_11', u_11', j_6', w_15', B_18', hc, ho⟩ | ⟨c_8', p_6', q_6', w_16', o_40', B_19', hc, ho⟩ <;> cases ho
      replace h := h.2 c_8' p_6' q_6' o_40' B_19' hc
      refine QX.strong ?_
      exact hE.pan [0, 1, 2] rfl rfl (.inr ⟨_, _, _, _, _, _, h, rfl⟩)
    ·replace h := if_F h hb
     refine wc_seq (fun K0_27' hK_27' => ?_)
     refine wc_region ?_
     refine wv (OV.loadR rfl (At.own 0 rfl) tf_row_79) ?_
     obtain ⟨o_45', h⟩ := h
     refine WL.storeW (vs := [zI out_0_1', out_1_1']) 4 rfl rfl rfl rfl rfl tf_size_79 rfl (one_cons rfl (one_cons o_45' one_nil)) rfl ?_
     refine WL.nil ?_
     refine KX.go (hK_27' [(2, zP b_1')] _ ?_) ⟨rfl, trivial⟩
     refine wc_ret ?_
     exact hE.ret [1, 2, 3] rfl rfl (.inl ⟨_, _, _, _, _, _, _, h, rfl⟩) (ResV.of1 rfl (RV.row rfl (At.own 4 rfl) tf_row_79))
  ·replace h := if_F h hb
   refine wc_exit ?_
   refine KX.go (hK_2' [(2, zP b_1'), (3, zP b_2')] _ ?_) ⟨rfl, rfl, trivial⟩
   refine wc_seq (fun K0_28' hK_28' => ?_)
   refine wc_region ?_
   refine wv (OV.loadR rfl (At.own 0 rfl) tf_row_79) ?_
   obtain ⟨o_46', h⟩ := h
   refine WL.storeW (vs := [zI out_0_1', out_1_1']) 4 rfl rfl rfl rfl rfl tf_size_79 rfl (one_cons rfl (one_cons o_46' one_nil)) rfl ?_
   refine WL.nil ?_
   refine KX.go (hK_28' [(2, zP b_1')] _ ?_) ⟨rfl, trivial⟩
   refine wc_ret ?_
   exact hE.ret [1, 2, 3] rfl rfl (.inl ⟨_, _, _, _, _, _, _, h, rfl⟩) (ResV.of1 rfl (RV.row rfl (At.own 4 rfl) tf_row_79))
 ·rcases hS with ⟨sz, u, j, w_1', B_1', hc, ho⟩ | ⟨c, p, q, w_2', o, B_2', hc, ho⟩ <;> cases ho
  replace h := h.2 c p q o B_2' hc
  exact hE.pan [0, 1, 2] rfl rfl (.inr ⟨_, _, _, _, _, _, h, rfl⟩)

theorem meet_does {t : List UInt8} {i : Int} (hA : ∀ j, i ≤ j → RowDoes t j) : MeetDoes t i := by
 rintro b te fre w o B ⟨h0, h1, h2, h3⟩
 refine (meets_wp b w te fre t i o B (KR (PR t .meet o.length i) t o i B) (KE (PR t .meet o.length i) t) ?_).weak ?_
 ·unfold meets_vc
  refine ⟨hA i (by omega), ⟨h0, h1, h2, h3⟩, ?_, fun c p q o2 B2 hE => ⟨rfl, c, p, rfl, .meetE hE⟩⟩
  rintro n0 u0 j0 B0 ⟨g1, g2, g3, g4, x0, g5, g6⟩
  refine ⟨g2.2, fun n u j c => Sups B c ∧ RuleB n u ∧ i ≤ j ∧ j ≤ t.length ∧ ∃ x, Is c n u x ∧ ∀ r, PR t (.meetL x) o.length j r → PR t .meet o.length i r,
   fun _ _ j _ => (t.length - j).toNat, ⟨g1, g2, g3, g4, x0, g6, fun r hr => .meet g5 hr⟩, ?_⟩
  rintro n u j c ⟨i1, i2, i3, i4, x, i5, i6⟩
  have hstop : ¬ (j < t.length ∧ (nx t j = 38 ∨ nx t j = 45)) → ReadR (PR t .meet o.length i) t i B c j n u := fun hs => ⟨i1, i2, i3, i4, x, i6 _ (.meetZ hs), i5⟩
  by_cases hl : (t.length : Int) ≤ j
  ·rw [if_neg (by simpa using hl)]
   exact ⟨i2.2, rfl, rfl, hstop (by omega)⟩
  rw [if_pos (by simpa using hl)]
  refine ⟨by omega, ?_⟩
  by_cases c1 : nx t j = 38
  ·rw [if_pos (by simpa using c1)]
   refine ⟨by unfold I64; omega, hA (j + 1) (by omega), ⟨by omega, by omega, h2, h3⟩, ?_, fun c2 p2 q2 o2 B2 hE => ⟨rfl, c2, p2, rfl, i6 _ (.meetLE (by omega) (.inl c1) hE)⟩⟩
   rintro n2 u2 k B2 ⟨q1, q2, q3, q4, y, q5, q6⟩
   refine ⟨⟨i2.1, q2.1⟩, ?_⟩
   rintro n3 u3 B3 ⟨z1, z2, z3⟩
   exact ⟨z2.2, ⟨(i1.trans q1).trans z1, z2, by omega, q4, .and x y, z3 x y (i5.more q1) q6, fun r hr => i6 r (.meetL (by omega) (.inl c1) q5 (by rw [andT, if_pos c1]; exact hr))⟩, by show (t.length - k).toNat < (t.length - j).toNat; omega⟩
  rw [if_neg (by simpa using c1)]
  by_cases c2 : nx t j = 45
  ·rw [if_pos (by simpa using c2)]
   refine ⟨by unfold I64; omega, hA (j + 1) (by omega), ⟨by omega, by omega, h2, h3⟩, ?_, fun c3 p2 q2 o2 B2 hE => ⟨rfl, c3, p2, rfl, i6 _ (.meetLE (by omega) (.inr c2) hE)⟩⟩
   rintro n2 u2 k B2 ⟨q1, q2, q3, q4, y, q5, q6⟩
   refine ⟨⟨i2.1, q2.1⟩, ?_⟩
   rintro n3 u3 B3 ⟨z1, z2, z3⟩
   exact ⟨z2.2, ⟨(i1.trans q1).trans z1, z2, by omega, q4, .minus x y, z3 x y (i5.more q1) q6, fun r hr => i6 r (.meetL (by omega) (.inr c2) q5 (by rw [andT, if_neg c1]; exact hr))⟩, by show (t.length - k).toNat < (t.length - j).toNat; omega⟩
  rw [if_neg (by simpa using c2)]
  exact ⟨i2.2, rfl, rfl, hstop (by omega)⟩
 ·rintro out (⟨n, u, t', j, w', o', D, ⟨rfl, rfl, hR⟩, rfl⟩ | ⟨v, t', q, w', o', D, ⟨rfl, c, p, rfl, hR⟩, rfl⟩)
  ·exact .inl ⟨n, u, j, w', D, hR, rfl⟩
  ·exact .inr ⟨c, p, q, w', o', D, hR, rfl⟩

def alts_vc (s_0 : List UInt8) (s_1 : Int) (sl : List Int) (B : List (Nat × Obj)) (K : Int → Value → (List UInt8) → Int → (List Int) → (List (Nat × Obj)) → Prop) (KP : Value → (List UInt8) → Int → (List Int) → (List (Nat × Obj)) → Prop) : Prop :=
 (MeetDoes s_0 s_1) ∧
 (0 ≤ s_1 ∧ s_1 ≤ (s_0.length : Int) ∧ s_0.length ≤ 1048576 ∧ sl.length ≤ 1000) ∧
 (∀ (sz : Int) (u : Value) (j : Int) (B_1' : List (Nat × Obj)), ReadR (PR s_0 .meet sl.length s_1) s_0 s_1 B B_1' j sz u →
  (u.oneCell' = true) ∧
  ∃ (Inv : Int → Value → Int → (List (Nat × Obj)) → Prop) (mu : Int → Value → Int → (List (Nat × Obj)) → Nat),
   Inv sz u j B_1' ∧ ∀ (out_0_1' : Int) (out_1_1' : Value) (s_1_2' : Int) (c_4' : List (Nat × Obj)), Inv out_0_1' out_1_1' s_1_2' c_4' →
    ((!(decide ((s_0.length : Int) ≤ s_1_2'))) = true → (0 ≤ s_1_2')) ∧
    (if ((!(decide ((s_0.length : Int) ≤ s_1_2'))) && (decide (nx s_0 s_1_2' = 124))) = true then
     (I64 (s_1_2' + 1)) ∧
     (MeetDoes s_0 (s_1_2' + 1)) ∧
     (0 ≤ (s_1_2' + 1) ∧ (s_1_2' + 1) ≤ (s_0.length : Int) ∧ s_0.length ≤ 1048576 ∧ sl.length ≤ 1000) ∧
     (∀ (sz_5' : Int) (u_5' : Value) (j_3' : Int) (B_9' : List (Nat × Obj)), ReadR (PR s_0 .meet sl.length (s_1_2' + 1)) s_0 (s_1_2' + 1) c_4' B_9' j_3' sz_5' u_5' →
      (SizeB out_0_1' ∧ SizeB sz_5') ∧
      (∀ (sz_6' : Int) (u_6' : Value) (B_11' : List (Nat × Obj)), JoinR Tr.alt B_9' B_11' out_0_1' out_1_1' sz_5' u_5' sz_6' u_6' →
       (u_6'.oneCell' = true) ∧
       Inv sz_6' u_6' j_3' B_11' ∧ mu sz_6' u_6' j_3' B_11' < mu out_0_1' out_1_1' s_1_2' c_4')) ∧
     (∀ (c_5' : Int) (p_3' : Int) (q_3' : Int) (o_23' : List Int) (B_10' : List (Nat × Obj)), PR s_0 .meet sl.length (s_1_2' + 1) (.error (c_5', p_3')) →
      KP (faultV c_5' p_3') s_0 q_3' o_23' B_10')
    else
     (out_1_1'.oneCell' = true) ∧
     K out_0_1' out_1_1' s_0 s_1_2' sl c_4')) ∧
 (∀ (c : Int) (p : Int) (q : Int) (o : List Int) (B_2' : List (Nat × Obj)), PR s_0 .meet sl.length s_1 (.error (c, p)) →
  KP (faultV c p) s_0 q o B_2')
set_option maxRecDepth 100000 in
theorem alts_wp (b : Nat) (w : Value) (te : TypeId) (fre : Nat × Nat) (s_0 : List UInt8) (s_1 : Int) (sl : List Int) (B : List (Nat × Obj)) (K : Int → Value → (List UInt8) → Int → (List Int) → (List (Nat × Obj)) → Prop) (KP : Value → (List UInt8) → Int → (List Int) → (List (Nat × Obj)) → Prop) (h : alts_vc s_0 s_1 sl B K KP) :
  Does Tryd.prog 37 [zP b] [(1, .cells [zU 110, zU 10, zU 114, zU 13, zU 116, zU 9].toArray te fre)] [HA.blk b (.cells [st s_0, zI s_1, w].toArray 76 (0, 0)), HA.row w 3 1 sl.length (sl.flatMap intC), pool B] (fun o => (∃ (v_0 : Int) (v_1 : Value) (d_1' : List UInt8) (d_2' : Int) (w_11' : Value) (d : List Int) (D : List (Nat × Obj)), K v_0 v_1 d_1' d_2' d D ∧ o = .ret (Value.agg [zI v_0, v_1].toArray) [HA.blk b (.cells [st d_1', zI d_2', w_11'].toArray 76 (0, 0)), HA.row w_11' 3 1 d.length (d.flatMap intC), pool D]) ∨ (∃ (pv : Value) (d_1' : List UInt8) (d_2' : Int) (w_11' : Value) (d : List Int) (D : List (Nat × Obj)), KP pv d_1' d_2' d D ∧ o = .pan [{ v := pv, recovered := false }] [HA.blk b (.cells [st d_1', zI d_2', w_11'].toArray 76 (0, 0)), HA.row w_11' 3 1 d.length (d.flatMap intC), pool D])) := by
 unfold alts_vc at h
 refine does_of_wc (n := 26) (L0 := [(0, zP b)]) Tryd.func37 rfl rfl rfl rfl (fun w0 M Q hE => ?_)
 refine wc_seq (fun K0 hK => ?_)
 refine wc_region ?_
 refine WL.make (MV.alloc tf_zero_79) rfl rfl rfl (fun b_1' => ?_)
 refine WL.nil ?_
 refine KX.go (hK [(0, zP b), (2, zP b_1')] _ ?_) ⟨rfl, rfl, trivial⟩
 refine wc_seq (fun K0_1' hK_1' => ?_)
 refine wc_region ?_
 refine wv (OV.move rfl) ?_
 obtain ⟨o_1', h⟩ := h
 obtain ⟨o_2', h⟩ := h
 refine WL.pick (H' := [HA.blk b (.cells [st s_0, zI s_1, w].toArray 76 (0, 0)), HA.row w 3 1 sl.length (sl.flatMap intC), pool B, HA.blk b_1' (.cells [zI 0, Value.nilFunc].toArray 79 (0, 0))]) [1, 2, 3, 0] rfl rfl ?_
 refine WL.callS tf_ent_76 rfl (o_1' b te fre w sl B o_2') rfl ⟨.inr (List.mem_of_getElem? (i := 0) rfl), trivial⟩ rfl rfl (fun r H' hS => ?_) (fun c H' hS => ?_)
 ·rcases hS with ⟨sz, u, j, w_1', B_1', hc, ho⟩ | ⟨c, p, q, w_2', o, B_2', hc, ho⟩ <;> cases ho
  replace h := h.1 sz u j B_1' hc
  refine WL.make (MV.alloc tf_zero_79) rfl rfl rfl (fun b_2' => ?_)
  obtain ⟨o_3', h⟩ := h
  refine WL.storeW (vs := [zI sz, u]) 0 rfl rfl rfl rfl rfl tf_size_79 rfl (one_cons rfl (one_cons o_3' one_nil)) rfl ?_
  refine WL.nil ?_
  refine KX.go (hK_1' [(0, zP b), (2, zP b_1'), (3, zP b_2')] _ ?_) ⟨rfl, rfl, rfl, trivial⟩
  refine wc_seq (fun K0_2' hK_2' => ?_)
  refine wc_block ?_
  obtain ⟨Inv, mu, h0, hr⟩ := h
  refine wc_loop (S := Int × Value × Int × Value × (List (Nat × Obj))) (fun σ => Inv σ.1 σ.2.1 σ.2.2.1 σ.2.2.2.2) (fun σ => mu σ.1 σ.2.1 σ.2.2.1 σ.2.2.2.2) (fun σ => [(0, zP b), (2, zP b_1'), (3, zP b_2')]) (fun σ => [HA.blk b_2' (.cells [zI σ.1, σ.2.1].toArray 79 (0, 0)), HA.blk b (.cells [st s_0, zI σ.2.2.1, σ.2.2.2.1].toArray 76 (0, 0)), HA.row σ.2.2.2.1 3 1 sl.length (sl.flatMap intC), pool σ.2.2.2.2, HA.blk b_1' (.cells [zI 0, Value.nilFunc].toArray 79 (0, 0))]) (sz, u, j, w_1', B_1') h0 ⟨rfl, rfl, rfl, trivial⟩ rfl ?_
  rintro ⟨out_0_1', out_1_1', s_1_2', w_8', c_4'⟩ hi K0_11' hK_11'
  have h := hr out_0_1' out_1_1' s_1_2' c_4' hi
  show WC _ _ _ _ [(0, zP b), (2, zP b_1'), (3, zP b_2')] [HA.blk b_2' (.cells [zI out_0_1', out_1_1'].toArray 79 (0, 0)), HA.blk b (.cells [st s_0, zI s_1_2', w_8'].toArray 76 (0, 0)), HA.row w_8' 3 1 sl.length (sl.flatMap intC), pool c_4', HA.blk b_1' (.cells [zI 0, Value.nilFunc].toArray 79 (0, 0))]
  refine wc_seq (fun K0_12' hK_12' => ?_)
  refine wc_seq (fun K0_13' hK_13' => ?_)
  refine wc_region ?_
  refine wv (OV.move rfl) ?_
  refine WL.call (A := []) tf_ent_38 rfl (ended_does b s_0 s_1_2' w_8') rfl ⟨.inl ⟨1, rfl⟩, trivial⟩ rfl rfl ?_
  refine wv (OV.not rfl) ?_
  refine wv (OV.move rfl) ?_
  obtain ⟨o_21', h⟩ := h
  refine WL.cut 4 [(0, zP b), (2, zP b_1'), (3, zP b_2'), (13, zB ((!(decide ((s_0.length : Int) ≤ s_1_2'))) && (decide (nx s_0 s_1_2' = 124))))] ?_ (fun K0_14' hK_14' => ?_)
  rotate_left
  ·refine WL.split (!(decide ((s_0.length : Int) ≤ s_1_2'))) (fun hb => ?_) (fun hb => ?_)
   ·have o_20' := o_21' hb
    refine WL.set 9 rfl (congrArg zB hb) ?_
    refine wv (OV.move rfl) ?_
    refine WL.call (A := []) tf_ent_77 rfl (next_does b s_0 s_1_2' w_8' o_20') rfl ⟨.inl ⟨1, rfl⟩, trivial⟩ rfl rfl ?_
    refine wv (OV.eql rfl rfl) ?_
    refine wv (OV.pickT rfl rfl) ?_
    refine WL.set 13 rfl (bT (v := decide (nx s_0 s_1_2' = 124)) hb) ?_
    exact WL.end_ (KX.go hK_14' ⟨rfl, rfl, rfl, rfl, trivial⟩)
   ·refine WL.set 9 rfl (congrArg zB hb) ?_
    refine WL.skip rfl rfl rfl ?_
    refine WL.skip rfl rfl rfl ?_
    refine WL.skip rfl rfl rfl ?_
    refine wv (OV.pickF rfl rfl) ?_
    refine WL.set 13 rfl (bF (v := decide (nx s_0 s_1_2' = 124)) hb) ?_
    exact WL.end_ (KX.go hK_14' ⟨rfl, rfl, rfl, rfl, trivial⟩)
  refine WL.nil ?_
  refine KX.go (hK_13' [(0, zP b), (2, zP b_1'), (3, zP b_2'), (13, zB ((!(decide ((s_0.length : Int) ≤ s_1_2'))) && (decide (nx s_0 s_1_2' = 124))))] _ ?_) ⟨rfl, rfl, rfl, rfl, trivial⟩
  refine wc_cond (b := (!(decide ((s_0.length : Int) ≤ s_1_2'))) && (decide (nx s_0 s_1_2' = 124))) rfl (fun hb => ?_) (fun hb => ?_)
  ·replace h := if_T h hb
   refine wc_skip ?_
   refine KX.go (hK_12' [(0, zP b), (2, zP b_1'), (3, zP b_2')] _ ?_) ⟨rfl, rfl, rfl, trivial⟩
   refine wc_block ?_
   refine wc_seq (fun K0_15' hK_15' => ?_)
   refine wc_region ?_
   refine wv (OV.move rfl) ?_
   refine wv (OV.nilCheck rfl) ?_
   refine wv (OV.fieldAddr0 rfl tf_field_76_1) ?_
   refine wv (OV.load rfl (At.own 1 rfl) rfl tf_scal_3) ?_
   obtain ⟨o_22', h⟩ := h
   refine wv (OV.add rfl rfl o_22') ?_
   refine wv (OV.nilCheck rfl) ?_
   refine wv (OV.fieldAddr0 rfl tf_field_76_1) ?_
   refine WL.store (vs := [zI (s_1_2' + 1)]) (cs' := [st s_0, zI (s_1_2' + 1), w_8']) 1 rfl rfl rfl rfl tf_size_3 (Nat.le_of_ble_eq_true rfl) rfl rfl rfl ?_
   refine WL.nil ?_
   refine KX.go (hK_15' [(0, zP b), (2, zP b_1'), (3, zP b_2')] _ ?_) ⟨rfl, rfl, rfl, trivial⟩
   refine wc_drawC 2 [0, 4] [HA.blk b_2' (.cells [zI out_0_1', out_1_1'].toArray 79 (0, 0)), HA.blk b_1' (.cells [zI 0, Value.nilFunc].toArray 79 (0, 0))] rfl rfl tf_mixed (by kernel_rfl) (fun T_2' hT_2' => ?_)
   refine TW.val (OV.loadR rfl (At.own 0 rfl) tf_row_79) rfl rfl rfl ?_
   refine TW.val (OV.move rfl) rfl rfl rfl ?_
   refine TW.nil (hT_2' _ ?_)
   obtain ⟨o_24', h⟩ := h
   obtain ⟨o_25', h⟩ := h
   refine WLX.pick (H' := [HA.blk b (.cells [st s_0, zI (s_1_2' + 1), w_8'].toArray 76 (0, 0)), HA.row w_8' 3 1 sl.length (sl.flatMap intC), pool c_4', HA.blk b_2' (.cells [zI out_0_1', out_1_1'].toArray 79 (0, 0)), HA.blk b_1' (.cells [zI 0, Value.nilFunc].toArray 79 (0, 0))]) [1, 2, 3, 0, 4] rfl rfl ?_
   refine WLX.callS [0, 1] rfl (EN.fn tf_ent_76 rfl) rfl (o_24' b te fre w_8' sl c_4' o_25') rfl rfl ⟨.inr (List.mem_of_getElem? (i := 0) rfl), trivial⟩ rfl rfl (fun r H' hS => ?_) (fun c H' hS => ?_)
   ·rcases hS with ⟨sz_5', u_5', j_3', w_9', B_9', hc, ho⟩ | ⟨c_5', p_3', q_3', w_10', o_23', B_10', hc, ho⟩ <;> cases ho
    replace h := h.1 sz_5' u_5' j_3' B_9' hc
    obtain ⟨o_26', h⟩ := h
    refine WLX.pick (H' := [pool B_9', HA.blk b (.cells [st s_0, zI j_3', w_9'].toArray 76 (0, 0)), HA.row w_9' 3 1 sl.length (sl.flatMap intC), HA.blk b_2' (.cells [zI out_0_1', out_1_1'].toArray 79 (0, 0)), HA.blk b_1' (.cells [zI 0, Value.nilFunc].toArray 79 (0, 0))]) [2, 0, 1, 3, 4] rfl rfl ?_
    refine WLX.callS [2, 3] rfl (EN.fn tf_ent_78 rfl) rfl (join_does Tr.alt_op out_0_1' out_1_1' sz_5' u_5' B_9' o_26') rfl rfl trivial rfl rfl (fun r H' hS => ?_) (fun c H' hS => ?_)
    ·obtain ⟨sz_6', u_6', B_11', hc, ho⟩ := hS
     cases ho
     replace h := h sz_6' u_6' B_11' hc
     obtain ⟨o_27', h⟩ := h
     refine WLX.opZ (OpK.storeW (vs := [zI sz_6', u_6']) 3 rfl rfl rfl rfl rfl tf_size_79 rfl (one_cons rfl (one_cons o_27' one_nil))) rfl ?_
     refine WLX.nil ?_
     exact KX.goH (hK_11' (sz_6', u_6', j_3', w_9', B_11') h.1 h.2) ⟨rfl, rfl, rfl, trivial⟩ [3, 1, 2, 0, 4] rfl rfl
    ·obtain ⟨sz_6', u_6', B_11', hc, ho⟩ := hS
     cases ho
   ·rcases hS with ⟨sz_5', u_5', j_3', w_9', B_9', hc, ho⟩ | ⟨c_5', p_3', q_3', w_10', o_23', B_10', hc, ho⟩ <;> cases ho
    replace h := h.2 c_5' p_3' q_3' o_23' B_10' hc
    refine QX.strong ?_
    exact hE.pan [0, 1, 2] rfl rfl (.inr ⟨_, _, _, _, _, _, h, rfl⟩)
  ·replace h := if_F h hb
   refine wc_exit ?_
   refine KX.go (hK_2' [(2, zP b_1'), (3, zP b_2')] _ ?_) ⟨rfl, rfl, trivial⟩
   refine wc_seq (fun K0_16' hK_16' => ?_)
   refine wc_region ?_
   refine wv (OV.loadR rfl (At.own 0 rfl) tf_row_79) ?_
   obtain ⟨o_28', h⟩ := h
   refine WL.storeW (vs := [zI out_0_1', out_1_1']) 4 rfl rfl rfl rfl rfl tf_size_79 rfl (one_cons rfl (one_cons o_28' one_nil)) rfl ?_
   refine WL.nil ?_
   refine KX.go (hK_16' [(2, zP b_1')] _ ?_) ⟨rfl, trivial⟩
   refine wc_ret ?_
   exact hE.ret [1, 2, 3] rfl rfl (.inl ⟨_, _, _, _, _, _, _, h, rfl⟩) (ResV.of1 rfl (RV.row rfl (At.own 4 rfl) tf_row_79))
 ·rcases hS with ⟨sz, u, j, w_1', B_1', hc, ho⟩ | ⟨c, p, q, w_2', o, B_2', hc, ho⟩ <;> cases ho
  replace h := h.2 c p q o B_2' hc
  exact hE.pan [0, 1, 2] rfl rfl (.inr ⟨_, _, _, _, _, _, h, rfl⟩)

theorem alt_does {t : List UInt8} {i : Int} (hA : ∀ j, i ≤ j → MeetDoes t j) : AltDoes t i := by
 rintro b te fre w o B ⟨h0, h1, h2, h3⟩
 refine (alts_wp b w te fre t i o B (KR (PR t .alt o.length i) t o i B) (KE (PR t .alt o.length i) t) ?_).weak ?_
 ·unfold alts_vc
  refine ⟨hA i (by omega), ⟨h0, h1, h2, h3⟩, ?_, fun c p q o2 B2 hE => ⟨rfl, c, p, rfl, .altE hE⟩⟩
  rintro n0 u0 j0 B0 ⟨g1, g2, g3, g4, x0, g5, g6⟩
  refine ⟨g2.2, fun n u j c => Sups B c ∧ RuleB n u ∧ i ≤ j ∧ j ≤ t.length ∧ ∃ x, Is c n u x ∧ ∀ r, PR t (.altL x) o.length j r → PR t .alt o.length i r,
   fun _ _ j _ => (t.length - j).toNat, ⟨g1, g2, g3, g4, x0, g6, fun r hr => .alt g5 hr⟩, ?_⟩
  rintro n u j c ⟨i1, i2, i3, i4, x, i5, i6⟩
  refine ⟨fun _ => by omega, ?_⟩
  by_cases hl : j < t.length ∧ nx t j = 124
  ·rw [if_pos (by simp; omega)]
   refine ⟨by unfold I64; omega, hA (j + 1) (by omega), ⟨by omega, by omega, h2, h3⟩, ?_, fun c2 p2 q2 o2 B2 hE => ⟨rfl, c2, p2, rfl, i6 _ (.altLE hl.1 hl.2 hE)⟩⟩
   rintro n2 u2 k B2 ⟨q1, q2, q3, q4, y, q5, q6⟩
   refine ⟨⟨i2.1, q2.1⟩, ?_⟩
   rintro n3 u3 B3 ⟨z1, z2, z3⟩
   exact ⟨z2.2, ⟨(i1.trans q1).trans z1, z2, by omega, q4, .alt x y, z3 x y (i5.more q1) q6, fun r hr => i6 r (.altL hl.1 hl.2 q5 hr)⟩, by show (t.length - k).toNat < (t.length - j).toNat; omega⟩
  ·rw [if_neg (by simp; omega)]
   exact ⟨i2.2, rfl, rfl, i1, i2, i3, i4, x, i6 _ (.altZ hl), i5⟩
 ·rintro out (⟨n, u, t', j, w', o', D, ⟨rfl, rfl, hR⟩, rfl⟩ | ⟨v, t', q, w', o', D, ⟨rfl, c, p, rfl, hR⟩, rfl⟩)
  ·exact .inl ⟨n, u, j, w', D, hR, rfl⟩
  ·exact .inr ⟨c, p, q, w', o', D, hR, rfl⟩
theorem alt_all (t : List UInt8) : ∀ (n : Nat) (i : Int), (t.length : Int) - i < n → AltDoes t i
 | 0, _, h => fun _ _ _ _ _ _ hb => by omega
 | n + 1, i, h => by
  have hA : ∀ j, i ≤ j → AtomDoes t j := fun j hj => atom_does (alt_all t n (j + 1) (by omega))
  have hR : ∀ j, i ≤ j → RowDoes t j := fun j hj => row_does fun k hk => hA k (by omega)
  have hM : ∀ j, i ≤ j → MeetDoes t j := fun j hj => meet_does fun k hk => hR k (by omega)
  exact alt_does hM
theorem alternatives_does (t : List UInt8) (i : Int) : AltDoes t i := alt_all t ((t.length : Int) - i + 1).toNat i (by omega)

end Go.Proofs.YtohnchdnkbadaaaDoor
namespace Go.Proofs.YtohnchdnkbadaaaDoor
open Go Go.RowKit

theorem tf_size_23 : sizeB Tryd.prog 23 1 = true := by kernel_rfl
theorem tf_zero_23 : zeroB Tryd.prog 23 = some [Tr.val Tr.none] := by kernel_rfl
theorem tf_ent_36 : entB Tryd.prog 36 = true := by kernel_rfl

def parsecr_vc (c : Tr) (c_1'_0 : Int) (c_1'_1 : Int) (c_1'_2 : List UInt8) (K : Tr → Int → Int → (List UInt8) → Prop) : Prop :=
 K c c_1'_0 c_1'_1 c_1'_2
set_option maxRecDepth 100000 in
theorem parsecr_wp (b : Nat) (b_1' : Nat) (c : Tr) (c_1'_0 : Int) (c_1'_1 : Int) (c_1'_2 : List UInt8) (K : Tr → Int → Int → (List UInt8) → Prop) (h : parsecr_vc c c_1'_0 c_1'_1 c_1'_2 K) :
  DoesD Tryd.prog 36 [zP b, zP b_1'] (.returning) (.returning) [] [HA.blk b (.cells [Tr.val c].toArray 23 (0, 0)), HA.blk b_1' (.cells [zI c_1'_0, zI c_1'_1, st c_1'_2].toArray 26 (0, 0))] (fun o => (∃ (d : Tr) (d_1'_0 : Int) (d_1'_1 : Int) (d_1'_2 : List UInt8), K d d_1'_0 d_1'_1 d_1'_2 ∧ o = .ret (Value.tuple #[]) [HA.blk b (.cells [Tr.val d].toArray 23 (0, 0)), HA.blk b_1' (.cells [zI d_1'_0, zI d_1'_1, st d_1'_2].toArray 26 (0, 0))]) ∨ (False)) := by
 unfold parsecr_vc at h
 refine doesD_rec (n := 8) (L0 := [(0, zP b), (1, zP b_1')]) (v := Value.nilIface) Tryd.func36 rfl rfl rfl rfl rfl rfl (.inl ⟨rfl, rfl, rfl⟩) (fun w0 M Q hE => ?_)
 refine wc_seq (fun K0 hK => ?_)
 refine wc_region ?_
 refine wv (OV.move rfl) ?_
 refine wv (OV.neqNil0 rfl Tryd.underlying20) ?_
 refine WL.nil ?_
 refine KX.go (hK [(0, zP b), (1, zP b_1'), (2, Value.nilIface), (5, zB false)] _ ?_) ⟨rfl, rfl, rfl, rfl, trivial⟩
 refine wc_condF rfl ?_
 refine wc_skip ?_
 exact hE.norm [0, 1] rfl rfl (.inl ⟨_, _, _, _, h, rfl⟩) (ResV.none rfl)

def parsecp_vc (_ : Tr) (_ : Int) (_ : Int) (_ : List UInt8) (fc : Int) (fa : Int) (ft : List UInt8) (K : Tr → Int → Int → (List UInt8) → Prop) : Prop :=
 K Tr.none fc fa ft
set_option maxRecDepth 100000 in
theorem parsecp_wp (b : Nat) (b_1' : Nat) (c : Tr) (c_1'_0 : Int) (c_1'_1 : Int) (c_1'_2 : List UInt8) (fc : Int) (fa : Int) (ft : List UInt8) (K : Tr → Int → Int → (List UInt8) → Prop) (h : parsecp_vc c c_1'_0 c_1'_1 c_1'_2 fc fa ft K) :
  DoesD Tryd.prog 36 [zP b, zP b_1'] (.panicking [{ v := Value.iface 26 (Value.agg [zI fc, zI fa, st ft].toArray), recovered := false }]) (.panicking [{ v := Value.iface 26 (Value.agg [zI fc, zI fa, st ft].toArray), recovered := true }]) [] [HA.blk b (.cells [Tr.val c].toArray 23 (0, 0)), HA.blk b_1' (.cells [zI c_1'_0, zI c_1'_1, st c_1'_2].toArray 26 (0, 0))] (fun o => (∃ (d : Tr) (d_1'_0 : Int) (d_1'_1 : Int) (d_1'_2 : List UInt8), K d d_1'_0 d_1'_1 d_1'_2 ∧ o = .ret (Value.tuple #[]) [HA.blk b (.cells [Tr.val d].toArray 23 (0, 0)), HA.blk b_1' (.cells [zI d_1'_0, zI d_1'_1, st d_1'_2].toArray 26 (0, 0))]) ∨ (False)) := by
 unfold parsecp_vc at h
 refine doesD_rec (n := 8) (L0 := [(0, zP b), (1, zP b_1')]) (v := Value.iface 26 (Value.agg [zI fc, zI fa, st ft].toArray)) Tryd.func36 rfl rfl rfl rfl rfl rfl (.inr ⟨_, rfl, rfl, rfl⟩) (fun w0 M Q hE => ?_)
 refine wc_seq (fun K0 hK => ?_)
 refine wc_region ?_
 refine wv (OV.move rfl) ?_
 refine wv (OV.neqNil rfl rfl Tryd.underlying20) ?_
 refine WL.nil ?_
 refine KX.go (hK [(0, zP b), (1, zP b_1'), (2, Value.iface 26 (Value.agg [zI fc, zI fa, st ft].toArray)), (5, zB true)] _ ?_) ⟨rfl, rfl, rfl, rfl, trivial⟩
 refine wc_condT rfl ?_
 refine wc_drawT 2 [] [] rfl rfl tf_mixed (by kernel_rfl) (fun T hT => ?_)
 refine TW.val (OV.move rfl) rfl rfl rfl ?_
 refine TW.val (OV.assertIs rfl Tryd.underlying26 rfl) rfl rfl rfl ?_
 refine TW.nil (hT _ ?_)
 refine WLK.op [] rfl rfl (OpK.store (vs := [Value.nilIface]) (cs' := [Value.nilIface]) 0 rfl rfl rfl rfl tf_size_23 (Nat.le_of_ble_eq_true rfl) rfl rfl) rfl ?_
 refine WLK.op [] rfl rfl (OpK.storeW (vs := [zI fc, zI fa, st ft]) 1 rfl rfl rfl rfl rfl tf_size_26 rfl rfl) rfl ?_
 refine WLK.nil ?_
 exact hE.norm [0, 1] rfl rfl (.inl ⟨_, _, _, _, h, rfl⟩) (ResV.none rfl)

abbrev parBlks (b b1 : Nat) (c : Tr) (x y : Int) (z : List UInt8) : List HA :=
 [.blk b (.cells [c.val].toArray 23 (0, 0)), .blk b1 (.cells [zI x, zI y, st z].toArray 26 (0, 0))]
theorem parsec_ret (b b1 : Nat) (c : Tr) (x y : Int) (z : List UInt8) : DoesD Tryd.prog 36 [.pointer (some ⟨b, 0, none⟩), .pointer (some ⟨b1, 0, none⟩)] .returning .returning [] (parBlks b b1 c x y z) (Ret (.tuple #[]) (parBlks b b1 c x y z)) := by
 refine (parsecr_wp b b1 c x y z (fun c' x' y' z' => c' = c ∧ x' = x ∧ y' = y ∧ z' = z) ?_).weak ?_
 ·unfold parsecr_vc; exact ⟨rfl, rfl, rfl, rfl⟩
 ·rintro o (⟨c', x', y', z', ⟨rfl, rfl, rfl, rfl⟩, rfl⟩ | h)
  ·rfl
  ·exact h.elim
theorem parsec_pan (b b1 : Nat) (c : Tr) (x y : Int) (z : List UInt8) (fc fa : Int) (ft : List UInt8) : DoesD Tryd.prog 36 [.pointer (some ⟨b, 0, none⟩), .pointer (some ⟨b1, 0, none⟩)]
  (.panicking [{ v := .iface 26 (.agg [.int .i64 fc, .int .i64 fa, st ft].toArray), recovered := false }]) (.panicking [{ v := .iface 26 (.agg [.int .i64 fc, .int .i64 fa, st ft].toArray), recovered := true }]) [] (parBlks b b1 c x y z) (Ret (.tuple #[]) (parBlks b b1 .none fc fa ft)) := by
 refine (parsecp_wp b b1 c x y z fc fa ft (fun c' x' y' z' => c' = .none ∧ x' = fc ∧ y' = fa ∧ z' = ft) ?_).weak ?_
 ·unfold parsecp_vc; exact ⟨rfl, rfl, rfl, rfl⟩
 ·rintro o (⟨c', x', y', z', ⟨rfl, rfl, rfl, rfl⟩, rfl⟩ | h)
  ·rfl
  ·exact h.elim

def parse_vc (text : List UInt8) (K : Tr → Int → Int → (List UInt8) → Prop) : Prop :=
 (if (decide (1048576 < (text.length : Int))) = true then
  K Tr.none 1 0 []
 else
  (AltDoes text 0) ∧
  (0 ≤ (0 : Int) ∧ (0 : Int) ≤ (text.length : Int) ∧ text.length ≤ 1048576 ∧ ([] : List Int).length ≤ 1000) ∧
  (∀ (sz : Int) (u : Value) (j : Int) (B : List (Nat × Obj)), ReadR (PR text .alt ([] : List Int).length 0) text 0 ([] : List (Nat × Obj)) B j sz u →
   (u.oneCell' = true) ∧
   (if (!(decide ((text.length : Int) ≤ j))) = true then
    K Tr.none 20 j []
   else
    (if (decide (2000 < sz)) = true then
     K Tr.none 24 0 []
    else
     ∃ (y : Tr), (Grows B u y) ∧ (
     K y 0 0 [])))) ∧
  (∀ (c : Int) (p : Int) (_q : Int) (_o : List Int) (_B_1' : List (Nat × Obj)), PR text .alt ([] : List Int).length 0 (.error (c, p)) →
   K Tr.none c p []))
set_option maxRecDepth 100000 in
theorem parse_wp (te : TypeId) (fre : Nat × Nat) (text : List UInt8) (K : Tr → Int → Int → (List UInt8) → Prop) (h : parse_vc text K) :
  Does Tryd.prog 14 [st text] [(1, .cells [zU 110, zU 10, zU 114, zU 13, zU 116, zU 9].toArray te fre)] [] (fun o => (∃ (v : Tr) (v_1'_0 : Int) (v_1'_1 : Int) (v_1'_2 : List UInt8), K v v_1'_0 v_1'_1 v_1'_2 ∧ o = .ret (Value.tuple #[Tr.val v, Value.agg [zI v_1'_0, zI v_1'_1, st v_1'_2].toArray]) []) ∨ (False)) := by
 unfold parse_vc at h
 refine does_of_wcD (n := 33) (L0 := [(0, st text)]) Tryd.func14 rfl rfl rfl rfl (fun w0 M Q hE => ?_)
 refine WC.newPool ?_
 refine wc_seq (fun K0 hK => ?_)
 refine wc_region ?_
 refine WL.make (MV.alloc tf_zero_23) rfl rfl rfl (fun b => ?_)
 refine WL.make (MV.alloc tf_zero_26) rfl rfl rfl (fun b_1' => ?_)
 refine WL.nil ?_
 refine KX.go (hK [(0, st text), (2, zP b), (3, zP b_1')] _ ?_) ⟨rfl, rfl, rfl, trivial⟩
 refine wc_seq (fun K0_1' hK_1' => ?_)
 refine wc_seq (fun K0_2' hK_2' => ?_)
 refine wc_region ?_
 refine wv (OV.move rfl) ?_
 refine wv (OV.len rfl tf_str_9) ?_
 refine wv (OV.gtr rfl rfl) ?_
 refine WL.nil ?_
 refine KX.go (hK_2' [(0, st text), (2, zP b), (3, zP b_1'), (8, zB (decide (1048576 < (text.length : Int))))] _ ?_) ⟨rfl, rfl, rfl, rfl, trivial⟩
 refine wc_cond (b := decide (1048576 < (text.length : Int))) rfl (fun hb => ?_) (fun hb => ?_)
 ·replace h := if_T h hb
  refine wc_seq (fun K0_3' hK_3' => ?_)
  refine wc_region ?_
  refine wv (OV.build rfl (cs := [zI 1, zI 0, st []]) rfl) ?_
  refine WL.store (vs := [Value.nilIface]) (cs' := [Value.nilIface]) 1 rfl rfl rfl rfl tf_size_23 (Nat.le_of_ble_eq_true rfl) rfl rfl rfl ?_
  refine WL.storeW (vs := [zI 1, zI 0, st []]) 0 rfl rfl rfl rfl rfl tf_size_26 rfl rfl rfl ?_
  refine WL.nil ?_
  refine KX.go (hK_3' [(2, zP b), (3, zP b_1')] _ ?_) ⟨rfl, rfl, trivial⟩
  refine wc_ret ?_
  exact hE.ret (leaves0 [] rfl rfl (.inl ⟨_, _, _, _, h, rfl⟩) (ResV.of2 rfl (RV.cell rfl (At.own 1 rfl) rfl tf_scal_23) (RV.row rfl (At.own 0 rfl) tf_row_26)))
 ·replace h := if_F h hb
  refine wc_skip ?_
  refine KX.go (hK_1' [(0, st text), (2, zP b), (3, zP b_1')] _ ?_) ⟨rfl, rfl, rfl, trivial⟩
  refine wc_seqC (fun K0_4' hK_4' => ?_)
  refine wc_region ?_
  refine wv (OV.makeFunc rfl) ?_
  refine WL.defer rfl rfl ?_
  refine WL.nil ?_
  refine KX.go (hK_4' _ [(0, st text), (2, zP b), (3, zP b_1')] _ ?_) ⟨rfl, rfl, rfl, trivial⟩
  refine wc_seq (fun K0_5' hK_5' => ?_)
  refine wc_region ?_
  refine wv (OV.move rfl) ?_
  refine wv (OV.build rfl (cs := [st text, zI 0, Value.slice none 0 0]) rfl) ?_
  refine WL.make (MV.box (cs := [st text, zI 0, Value.slice none 0 0]) rfl rfl) rfl rfl rfl (fun b_2' => ?_)
  refine WL.nilRow 3 1 intC ?_
  refine wv (OV.assign rfl) ?_
  refine WL.nil ?_
  refine KX.go (hK_5' [(2, zP b), (3, zP b_1'), (4, zP b_2')] _ ?_) ⟨rfl, rfl, rfl, trivial⟩
  refine wc_seq (fun K0_6' hK_6' => ?_)
  refine wc_region ?_
  refine wv (OV.move rfl) ?_
  obtain ⟨o_1', h⟩ := h
  obtain ⟨o_2', h⟩ := h
  refine WL.pick (H' := [HA.blk b_2' (.cells [st text, zI 0, Value.slice none 0 0].toArray 76 (0, 0)), HA.row (Value.slice none 0 0) 3 1 ([] : List Int).length (([] : List Int).flatMap intC), pool ([] : List (Nat × Obj)), HA.blk b_1' (.cells [zI 0, zI 0, st []].toArray 26 (0, 0)), HA.blk b (.cells [Tr.val Tr.none].toArray 23 (0, 0))]) [1, 0, 4, 2, 3] rfl rfl ?_
  refine WL.callS tf_ent_37 rfl (o_1' b_2' te fre (Value.slice none 0 0) ([] : List Int) ([] : List (Nat × Obj)) o_2') rfl ⟨.inr (List.mem_of_getElem? (i := 0) rfl), trivial⟩ rfl rfl (fun r H' hS => ?_) (fun c H' hS => ?_)
  ·rcases hS with ⟨sz, u, j, w, B, hc, ho⟩ | ⟨c, p, q, w_1', o, B_1', hc, ho⟩ <;> cases ho
   replace h := h.1 sz u j B hc
   refine WL.make (MV.alloc tf_zero_79) rfl rfl rfl (fun b_3' => ?_)
   obtain ⟨o_3', h⟩ := h
   refine WL.storeW (vs := [zI sz, u]) 0 rfl rfl rfl rfl rfl tf_size_79 rfl (one_cons rfl (one_cons o_3' one_nil)) rfl ?_
   refine WL.nil ?_
   refine KX.go (hK_6' [(2, zP b), (3, zP b_1'), (4, zP b_2'), (5, zP b_3')] _ ?_) ⟨rfl, rfl, rfl, rfl, trivial⟩
   refine wc_seq (fun K0_7' hK_7' => ?_)
   refine wc_seq (fun K0_8' hK_8' => ?_)
   refine wc_region ?_
   refine wv (OV.move rfl) ?_
   refine WL.call (A := []) tf_ent_38 rfl (ended_does b_2' text j w) rfl ⟨.inl ⟨1, rfl⟩, trivial⟩ rfl rfl ?_
   refine wv (OV.not rfl) ?_
   refine WL.nil ?_
   refine KX.go (hK_8' [(2, zP b), (3, zP b_1'), (4, zP b_2'), (5, zP b_3'), (18, zB (!(decide ((text.length : Int) ≤ j))))] _ ?_) ⟨rfl, rfl, rfl, rfl, rfl, trivial⟩
   refine wc_cond (b := !(decide ((text.length : Int) ≤ j))) rfl (fun hb => ?_) (fun hb => ?_)
   ·replace h := if_T h hb
    refine wc_region ?_
    refine wv (OV.move rfl) ?_
    refine wv (OV.move rfl) ?_
    refine wv (OV.nilCheck rfl) ?_
    refine wv (OV.fieldAddr0 rfl tf_field_76_1) ?_
    refine wv (OV.load rfl (At.own 1 rfl) rfl tf_scal_3) ?_
    refine WL.callS tf_ent_39 rfl (rfail_does (zP b_2') 20 j) rfl trivial rfl rfl (fun r H' hS => by cases hS) (fun c H' hS => ?_)
    cases hS
    exact hE.pan (leaves1 (A := [HA.blk b (.cells [Tr.val Tr.none].toArray 23 (0, 0)), HA.blk b_1' (.cells [zI 0, zI 0, st []].toArray 26 (0, 0))]) (A' := [HA.blk b (.cells [Tr.val Tr.none].toArray 23 (0, 0)), HA.blk b_1' (.cells [zI 20, zI j, st []].toArray 26 (0, 0))]) (Rest := [HA.blk b_3' (.cells [zI sz, u].toArray 79 (0, 0)), HA.blk b_2' (.cells [st text, zI j, w].toArray 76 (0, 0)), HA.row w 3 1 ([] : List Int).length (([] : List Int).flatMap intC), pool B]) [5, 4, 0, 1, 2, 3] rfl rfl tf_ent_36 (parsec_pan b b_1' Tr.none 0 0 [] 20 j []) (by intro hx; cases hx) rfl trivial [] rfl rfl (.inl ⟨_, _, _, _, h, rfl⟩) (ResV.of2 rfl (RV.cell rfl (At.own 0 rfl) rfl tf_scal_23) (RV.row rfl (At.own 1 rfl) tf_row_26)))
   ·replace h := if_F h hb
    refine wc_skip ?_
    refine KX.go (hK_7' [(2, zP b), (3, zP b_1'), (5, zP b_3')] _ ?_) ⟨rfl, rfl, rfl, trivial⟩
    refine wc_seq (fun K0_9' hK_9' => ?_)
    refine wc_seq (fun K0_10' hK_10' => ?_)
    refine wc_region ?_
    refine wv (OV.fieldAddr0 rfl tf_field_79_0) ?_
    refine wv (OV.load rfl (At.own 0 rfl) rfl tf_scal_3) ?_
    refine wv (OV.gtr rfl rfl) ?_
    refine WL.nil ?_
    refine KX.go (hK_10' [(2, zP b), (3, zP b_1'), (5, zP b_3'), (27, zB (decide (2000 < sz)))] _ ?_) ⟨rfl, rfl, rfl, rfl, trivial⟩
    refine wc_cond (b := decide (2000 < sz)) rfl (fun hb => ?_) (fun hb => ?_)
    ·replace h := if_T h hb
     refine wc_seq (fun K0_11' hK_11' => ?_)
     refine wc_region ?_
     refine wv (OV.build rfl (cs := [zI 24, zI 0, st []]) rfl) ?_
     refine WL.store (vs := [Value.nilIface]) (cs' := [Value.nilIface]) 5 rfl rfl rfl rfl tf_size_23 (Nat.le_of_ble_eq_true rfl) rfl rfl rfl ?_
     refine WL.storeW (vs := [zI 24, zI 0, st []]) 4 rfl rfl rfl rfl rfl tf_size_26 rfl rfl rfl ?_
     refine WL.nil ?_
     refine KX.go (hK_11' [(2, zP b), (3, zP b_1')] _ ?_) ⟨rfl, rfl, trivial⟩
     refine wc_ret ?_
     exact hE.ret (leaves1 (A := [HA.blk b (.cells [Value.nilIface].toArray 23 (0, 0)), HA.blk b_1' (.cells [zI 24, zI 0, st []].toArray 26 (0, 0))]) (A' := [HA.blk b (.cells [Value.nilIface].toArray 23 (0, 0)), HA.blk b_1' (.cells [zI 24, zI 0, st []].toArray 26 (0, 0))]) (Rest := [HA.blk b_3' (.cells [zI sz, u].toArray 79 (0, 0)), HA.blk b_2' (.cells [st text, zI j, w].toArray 76 (0, 0)), HA.row w 3 1 ([] : List Int).length (([] : List Int).flatMap intC), pool B]) [5, 4, 0, 1, 2, 3] rfl rfl tf_ent_36 (parsec_ret b b_1' Tr.none 24 0 []) (by intro hx; cases hx) rfl trivial [] rfl rfl (.inl ⟨_, _, _, _, h, rfl⟩) (ResV.of2 rfl (RV.cell rfl (At.own 0 rfl) rfl tf_scal_23) (RV.row rfl (At.own 1 rfl) tf_row_26)))
    ·replace h := if_F h hb
     refine wc_skip ?_
     refine KX.go (hK_9' [(2, zP b), (3, zP b_1'), (5, zP b_3')] _ ?_) ⟨rfl, rfl, rfl, trivial⟩
     refine wc_seq (fun K0_12' hK_12' => ?_)
     refine wc_region ?_
     refine wv (OV.fieldAddr0 rfl tf_field_79_1) ?_
     refine wv (OV.load rfl (At.own 0 rfl) rfl tf_scal_77) ?_
     obtain ⟨y, o_4', h⟩ := h
     refine WL.cv (CV.value rfl o_4' rfl (Rd.pool 3 rfl)) rfl rfl rfl ?_
     refine wv (OV.build rfl (cs := [zI 0, zI 0, st []]) rfl) ?_
     refine WL.store (vs := [Tr.val y]) (cs' := [Tr.val y]) 5 rfl rfl rfl (Tr.val_cells _) tf_size_23 (Nat.le_of_ble_eq_true rfl) (one_cons (Tr.val_one _) one_nil) rfl rfl ?_
     refine WL.storeW (vs := [zI 0, zI 0, st []]) 4 rfl rfl rfl rfl rfl tf_size_26 rfl rfl rfl ?_
     refine WL.nil ?_
     refine KX.go (hK_12' [(2, zP b), (3, zP b_1')] _ ?_) ⟨rfl, rfl, trivial⟩
     refine wc_ret ?_
     exact hE.ret (leaves1 (A := [HA.blk b (.cells [Tr.val y].toArray 23 (0, 0)), HA.blk b_1' (.cells [zI 0, zI 0, st []].toArray 26 (0, 0))]) (A' := [HA.blk b (.cells [Tr.val y].toArray 23 (0, 0)), HA.blk b_1' (.cells [zI 0, zI 0, st []].toArray 26 (0, 0))]) (Rest := [HA.blk b_3' (.cells [zI sz, u].toArray 79 (0, 0)), HA.blk b_2' (.cells [st text, zI j, w].toArray 76 (0, 0)), HA.row w 3 1 ([] : List Int).length (([] : List Int).flatMap intC), pool B]) [5, 4, 0, 1, 2, 3] rfl rfl tf_ent_36 (parsec_ret b b_1' y 0 0 []) (by intro hx; cases hx) rfl trivial [] rfl rfl (.inl ⟨_, _, _, _, h, rfl⟩) (ResV.of2 rfl (RV.cell rfl (At.own 0 rfl) rfl tf_scal_23) (RV.row rfl (At.own 1 rfl) tf_row_26)))
  ·rcases hS with ⟨sz, u, j, w, B, hc, ho⟩ | ⟨c, p, q, w_1', o, B_1', hc, ho⟩ <;> cases ho
   replace h := h.2 c p q o B_1' hc
   exact hE.pan (leaves1 (A := [HA.blk b (.cells [Tr.val Tr.none].toArray 23 (0, 0)), HA.blk b_1' (.cells [zI 0, zI 0, st []].toArray 26 (0, 0))]) (A' := [HA.blk b (.cells [Tr.val Tr.none].toArray 23 (0, 0)), HA.blk b_1' (.cells [zI c, zI p, st []].toArray 26 (0, 0))]) (Rest := [HA.blk b_2' (.cells [st text, zI q, w_1'].toArray 76 (0, 0)), HA.row w_1' 3 1 o.length (o.flatMap intC), pool B_1']) [4, 3, 0, 1, 2] rfl rfl tf_ent_36 (parsec_pan b b_1' Tr.none 0 0 [] c p []) (by intro hx; cases hx) rfl trivial [] rfl rfl (.inl ⟨_, _, _, _, h, rfl⟩) (ResV.of2 rfl (RV.cell rfl (At.own 0 rfl) rfl tf_scal_23) (RV.row rfl (At.own 1 rfl) tf_row_26)))

theorem parse_does (te : TypeId) (fre : Nat × Nat) (t : List UInt8) : Does Tryd.prog 14 [st t] (escTab te fre) [] (Ret (.tuple #[(treeT t).val, .agg [.int .i64 (errT t).1, .int .i64 (errT t).2, st []].toArray]) []) := by
 refine (parse_wp te fre t (fun v c p x => v = treeT t ∧ c = (errT t).1 ∧ p = (errT t).2 ∧ x = []) ?_).weak ?_
 ·have hE : ∀ e, parseT t = .error e → Tr.none = treeT t ∧ e.1 = (errT t).1 ∧ e.2 = (errT t).2 ∧ ([] : List UInt8) = [] := fun e h => by
   unfold treeT errT; rw [h]; exact ⟨rfl, rfl, rfl, rfl⟩
  unfold parse_vc
  by_cases hl : 1048576 < t.length
  ·rw [if_pos (by simp; omega)]
   exact hE (1, 0) (by unfold parseT; rw [if_pos hl])
  rw [if_neg (by simp; omega)]
  refine ⟨alternatives_does t 0, ⟨by omega, by omega, by omega, by simp⟩, ?_, fun c p _ _ _ hR => hE (c, p) (by
   unfold parseT; rw [if_neg hl, topT_eq (R := .error (c, p)) ⟨_, hR, rfl⟩])⟩
  rintro n u j B ⟨g1, g2, g3, g4, x, g5, g6⟩
  refine ⟨g2.2, ?_⟩
  by_cases hj : j < t.length
  ·rw [if_pos (by simp; omega)]
   exact hE (20, j) (by unfold parseT; rw [if_neg hl, topT_eq (R := .error (20, j)) ⟨_, g5, by simp only [if_pos hj]⟩])
  rw [if_neg (by simp; omega)]
  have hT : topT t = .ok x := topT_eq ⟨_, g5, by simp only [if_neg hj]⟩
  have hn := g6.2
  by_cases hz : 2000 < x.size
  ·rw [if_pos (by simp; omega)]
   exact hE (24, 0) (by unfold parseT; rw [if_neg hl, hT]; simp only [if_pos hz])
  ·rw [if_neg (by simp; omega)]
   have hP : parseT t = .ok x := by unfold parseT; rw [if_neg hl, hT]; simp only [if_neg hz]
   refine ⟨x, g6.1, ?_⟩
   unfold treeT errT; rw [hP]; exact ⟨rfl, rfl, rfl, rfl⟩
 ·rintro o (⟨v, c, p, x, ⟨rfl, rfl, rfl, rfl⟩, rfl⟩ | h)
  ·rfl
  ·exact h.elim

end Go.Proofs.YtohnchdnkbadaaaDoor
namespace Go.Proofs.YtohnchdnkbadaaaDoor
open Go Go.RowKit

theorem tf_ent_14 : entB Tryd.prog 14 = true := by kernel_rfl
theorem tf_ent_21 : entB Tryd.prog 21 = true := by kernel_rfl

def print_vc (te : TypeId) (fre : Nat × Nat) (n : Tr) (K : (List UInt8) → Prop) : Prop :=
 (Does Tryd.prog 51 [Tr.val n, zI 0] (escTab te fre) [] (Ret (st (showT n 0)) [])) ∧
 K (showT n 0)
set_option maxRecDepth 100000 in
theorem print_wp (te : TypeId) (fre : Nat × Nat) (n : Tr) (K : (List UInt8) → Prop) (h : print_vc te fre n K) :
  Does Tryd.prog 21 [Tr.val n] [(1, .cells [zU 110, zU 10, zU 114, zU 13, zU 116, zU 9].toArray te fre)] [] (fun o => (∃ (v : List UInt8), K v ∧ o = .ret (st v) []) ∨ (False)) := by
 unfold print_vc at h
 refine does_of_wc (n := 5) (L0 := [(0, Tr.val n)]) Tryd.func21 rfl rfl rfl rfl (fun w0 M Q hE => ?_)
 refine wc_seq (fun K0 hK => ?_)
 refine wc_region ?_
 refine wv (OV.assign rfl) ?_
 refine WL.nil ?_
 refine KX.go (hK [(0, Tr.val n)] _ ?_) ⟨rfl, trivial⟩
 refine wc_seq (fun K0_1' hK_1' => ?_)
 refine wc_region ?_
 refine wv (OV.move rfl) ?_
 obtain ⟨o, h⟩ := h
 refine WL.call (A := []) tf_ent_51 rfl (o) rfl ⟨.inr (List.mem_of_getElem? (i := 0) rfl), trivial⟩ rfl rfl ?_
 refine wv (OV.assign rfl) ?_
 refine WL.nil ?_
 refine KX.go (hK_1' [(2, st (showT n 0))] _ ?_) ⟨rfl, trivial⟩
 refine wc_ret ?_
 exact hE.ret [] rfl rfl (.inl ⟨_, h, rfl⟩) (ResV.of1 rfl (RV.tmp rfl))

def Plain_vc (n : Tr) (K : Bool → Prop) : Prop :=
 (Does Tryd.prog 40 [Tr.val n] [] [] (Ret (zB n.plain) [])) ∧
 K n.plain
set_option maxRecDepth 100000 in
theorem Plain_wp  (n : Tr) (K : Bool → Prop) (h : Plain_vc n K) :
  Does Tryd.prog 15 [Tr.val n] [] [] (fun o => (∃ (v : Bool), K v ∧ o = .ret (zB v) []) ∨ (False)) := by
 unfold Plain_vc at h
 refine does_of_wc (n := 5) (L0 := [(0, Tr.val n)]) Tryd.func15 rfl rfl rfl rfl (fun w0 M Q hE => ?_)
 refine wc_seq (fun K0 hK => ?_)
 refine wc_region ?_
 refine wv (OV.assign rfl) ?_
 refine WL.nil ?_
 refine KX.go (hK [(0, Tr.val n)] _ ?_) ⟨rfl, trivial⟩
 refine wc_seq (fun K0_1' hK_1' => ?_)
 refine wc_region ?_
 refine wv (OV.move rfl) ?_
 obtain ⟨o, h⟩ := h
 refine WL.call (A := []) tf_ent_40 rfl (o) rfl trivial rfl rfl ?_
 refine wv (OV.assign rfl) ?_
 refine WL.nil ?_
 refine KX.go (hK_1' [(2, zB n.plain)] _ ?_) ⟨rfl, trivial⟩
 refine wc_ret ?_
 exact hE.ret [] rfl rfl (.inl ⟨_, h, rfl⟩) (ResV.of1 rfl (RV.tmp rfl))

theorem print_does (te : TypeId) (fre : Nat × Nat) (x : Tr) (h : x.size ≤ 1099511627776) : Does Tryd.prog 21 [x.val] (escTab te fre) [] (Ret (st (showT x 0)) []) := Does.one (print_wp te fre x (fun v => v = showT x 0) ⟨show_does te fre x 0 h, rfl⟩)
theorem Plain_does (x : Tr) : Does Tryd.prog 15 [x.val] [] [] (Ret (.bool x.plain) []) := Does.one (Plain_wp x (fun v => v = x.plain) ⟨plain_does x, rfl⟩)
theorem catSize_does (a b : Tr) (h : (Tr.cat a b).size ≤ 4611686018427387904) : Does Tryd.prog 27 [.agg [a.val, b.val].toArray] [] [] (Ret (.int .i64 (((Tr.cat a b).size : Nat) : Int)) []) := Does.one (e := fun v => .int .i64 v) (sizeCat_wp a b (fun v => v = ((Tr.size (.cat a b) : Nat) : Int)) (by
   simp only [Tr.size] at h
   refine ⟨size_sure fun h' => size_meth a h' (by omega), ?_, size_sure fun h' => size_meth b h' (by omega), ?_, ?_⟩ <;> simp only [Tr.sure_size, Tr.size, I64] <;> omega))
theorem catNull_does (a b : Tr) : Does Tryd.prog 28 [.agg [a.val, b.val].toArray] [] [] (Ret (.bool (Tr.cat a b).null) []) := Does.one (e := fun v => .bool v) (nullCat_wp a b (fun v => v = Tr.null (.cat a b)) ⟨null_sure fun h => null_meth a h, fun _ => null_sure fun h => null_meth b h, by simp only [Tr.sure_null, Tr.null]⟩)
/-! ### texts that the laws read -/
theorem parseT_pr {t : List UInt8} {x : Tr} (hl : t.length ≤ 1048576) (hs : x.size ≤ 2000) (h : PR t .alt 0 0 (.ok (x, t.length))) : parseT t = .ok x := by
 unfold parseT
 rw [if_neg (by omega), topT_eq (R := .ok x) ⟨_, h, by simp⟩]
 simp only
 rw [if_neg (by omega)]
theorem row_one {t : List UInt8} {i : Int} {c : UInt8} {d : Nat} {acc : Option Tr} {r : PRes} (hi : i < t.length) (hc : nx t i ∉ [124, 38, 45, 41, 42, 43, 63, 123, 40]) (hm : readM t i = (ofS [c], i + 1, 0, 0)) (hz : ¬ (i + 1 < t.length ∧ (nx t (i + 1) = 42 ∨ nx t (i + 1) = 43 ∨ nx t (i + 1) = 63 ∨ nx t (i + 1) = 123))) (h : PR t (.row (accT acc (.cls (ofS [c])))) d (i + 1) r) : PR t (.row acc) d i r :=
 .rowC hi hc hm (.zero hz) h
theorem lit_apb : parseT [97, 43, 124, 98] = .ok (.alt (.cat (.cls (ofS [97])) (.star (.cls (ofS [97])))) (.cls (ofS [98]))) :=
 parseT_pr (by decide) (by decide) (.alt (.meet (.rowC (s := ofS [97]) (k := 1) (by decide) (by decide) (by kernel_rfl) (.one (by decide) (by decide) (.zero (by decide))) (.rowZ (by decide))) (.meetZ (by decide)))
  (.altL (by decide) (by decide) (.meet (row_one (c := 98) (by decide) (by decide) (by kernel_rfl) (by decide) (.rowZ (by decide))) (.meetZ (by decide))) (.altZ (by decide))))
theorem lit_none : parseT [91, 93] = .ok (.cls cs0) :=
 parseT_pr (by decide) (by decide) (.alt (.meet (.rowC (s := cs0) (k := 2) (by decide) (by decide) (by kernel_rfl) (.zero (by decide)) (.rowZ (by decide))) (.meetZ (by decide))) (.altZ (by decide)))
theorem show_a : showL (ofS [97]) = [97] := by kernel_rfl
theorem show_b : showL (ofS [98]) = [98] := by kernel_rfl
def speaks_vc  (K : Bool → Prop) : Prop :=
 (((andAll [decide ((errT ([97, 43, 124, 98] : List UInt8)).1 = 0), decide ((errT ([97, 43, 124, 98] : List UInt8)).2 = 0), decide (([] : List UInt8) = [])]) && (!(treeT ([97, 43, 124, 98] : List UInt8)).isNone)) = true → (Tr.size (treeT ([97, 43, 124, 98] : List UInt8)) ≤ 1099511627776)) ∧
 K (((andAll [decide ((errT ([97, 43, 124, 98] : List UInt8)).1 = 0), decide ((errT ([97, 43, 124, 98] : List UInt8)).2 = 0), decide (([] : List UInt8) = [])]) && (!(treeT ([97, 43, 124, 98] : List UInt8)).isNone)) && (decide (showT (treeT ([97, 43, 124, 98] : List UInt8)) 0 = ([97, 97, 42, 124, 98] : List UInt8))))
set_option maxRecDepth 100000 in
theorem speaks_wp (te : TypeId) (fre : Nat × Nat)  (K : Bool → Prop) (h : speaks_vc  K) :
  Does Tryd.prog 19 [] [(1, .cells [zU 110, zU 10, zU 114, zU 13, zU 116, zU 9].toArray te fre)] [] (fun o => (∃ (v : Bool), K v ∧ o = .ret (zB v) []) ∨ (False)) := by
 unfold speaks_vc at h
 refine does_of_wc (n := 19) (L0 := []) Tryd.func19 rfl rfl rfl rfl (fun w0 M Q hE => ?_)
 refine wc_seq (fun K0 hK => ?_)
 refine wc_region ?_
 refine wv (OV.assign rfl) ?_
 refine WL.nil ?_
 refine KX.go (hK [] _ ?_) trivial
 refine wc_seq (fun K0_1' hK_1' => ?_)
 refine wc_region ?_
 refine WL.call (A := []) tf_ent_14 rfl (parse_does te fre ([97, 43, 124, 98] : List UInt8)) rfl ⟨.inr (List.mem_of_getElem? (i := 0) rfl), trivial⟩ rfl rfl ?_
 refine wv (OV.move rfl) ?_
 refine wv (OV.extract 0 rfl rfl) ?_
 refine wv (OV.extract 1 rfl rfl) ?_
 refine WL.make (MV.alloc tf_zero_26) rfl rfl rfl (fun b => ?_)
 refine wv (OV.assign rfl) ?_
 refine WL.storeW (vs := [zI ((errT ([97, 43, 124, 98] : List UInt8)).1), zI ((errT ([97, 43, 124, 98] : List UInt8)).2), st []]) 0 rfl rfl rfl rfl rfl tf_size_26 rfl rfl rfl ?_
 refine WL.nil ?_
 refine KX.go (hK_1' [(1, Tr.val (treeT ([97, 43, 124, 98] : List UInt8))), (2, zP b)] _ ?_) ⟨rfl, rfl, trivial⟩
 refine wc_seq (fun K0_2' hK_2' => ?_)
 refine wc_region ?_
 refine wv (OV.loadR rfl (At.own 0 rfl) tf_row_26) ?_
 refine wv (OV.build rfl (cs := [zI 0, zI 0, st []]) rfl) ?_
 refine wv (OV.eqlF (rs := [decide ((errT ([97, 43, 124, 98] : List UInt8)).1 = 0), decide ((errT ([97, 43, 124, 98] : List UInt8)).2 = 0), decide (([] : List UInt8) = [])]) rfl rfl Tryd.underlying26 tf_stood_26 tf_eqg_26 ⟨rfl, tf_scal_24, ⟨_, _, rfl, rfl, ScalEq.int Tryd.underlying24⟩, ⟨rfl, tf_scal_3, ⟨_, _, rfl, rfl, ScalEq.int Tryd.underlying3⟩, ⟨rfl, tf_scal_9, ⟨_, _, rfl, rfl, ScalEq.str Tryd.underlying9⟩, trivial⟩⟩⟩) ?_
 refine wv (OV.move rfl) ?_
 refine WL.cut 3 [(1, Tr.val (treeT ([97, 43, 124, 98] : List UInt8))), (13, zB ((andAll [decide ((errT ([97, 43, 124, 98] : List UInt8)).1 = 0), decide ((errT ([97, 43, 124, 98] : List UInt8)).2 = 0), decide (([] : List UInt8) = [])]) && (!(treeT ([97, 43, 124, 98] : List UInt8)).isNone)))] ?_ (fun K0_3' hK_3' => ?_)
 rotate_left
 ·refine WL.split (andAll [decide ((errT ([97, 43, 124, 98] : List UInt8)).1 = 0), decide ((errT ([97, 43, 124, 98] : List UInt8)).2 = 0), decide (([] : List UInt8) = [])]) (fun hb => ?_) (fun hb => ?_)
  ·refine WL.set 10 rfl (congrArg zB hb) ?_
   refine wv (OV.move rfl) ?_
   refine wv (OV.neqTr rfl Tryd.underlying23) ?_
   refine wv (OV.pickT rfl rfl) ?_
   refine WL.set 13 rfl (bT (v := !(treeT ([97, 43, 124, 98] : List UInt8)).isNone) hb) ?_
   exact WL.end_ (KX.go hK_3' ⟨rfl, rfl, trivial⟩)
  ·refine WL.set 10 rfl (congrArg zB hb) ?_
   refine WL.skip rfl rfl rfl ?_
   refine WL.skip rfl rfl rfl ?_
   refine wv (OV.pickF rfl rfl) ?_
   refine WL.set 13 rfl (bF (v := !(treeT ([97, 43, 124, 98] : List UInt8)).isNone) hb) ?_
   exact WL.end_ (KX.go hK_3' ⟨rfl, rfl, trivial⟩)
 refine wv (OV.move rfl) ?_
 obtain ⟨o_2', h⟩ := h
 refine WL.cut 4 [(18, zB (((andAll [decide ((errT ([97, 43, 124, 98] : List UInt8)).1 = 0), decide ((errT ([97, 43, 124, 98] : List UInt8)).2 = 0), decide (([] : List UInt8) = [])]) && (!(treeT ([97, 43, 124, 98] : List UInt8)).isNone)) && (decide (showT (treeT ([97, 43, 124, 98] : List UInt8)) 0 = ([97, 97, 42, 124, 98] : List UInt8)))))] ?_ (fun K0_4' hK_4' => ?_)
 rotate_left
 ·refine WL.split ((andAll [decide ((errT ([97, 43, 124, 98] : List UInt8)).1 = 0), decide ((errT ([97, 43, 124, 98] : List UInt8)).2 = 0), decide (([] : List UInt8) = [])]) && (!(treeT ([97, 43, 124, 98] : List UInt8)).isNone)) (fun hb => ?_) (fun hb => ?_)
  ·have o_1' := o_2' hb
   refine WL.set 14 rfl (congrArg zB hb) ?_
   refine wv (OV.move rfl) ?_
   refine WL.call (A := []) tf_ent_21 rfl (print_does te fre (treeT ([97, 43, 124, 98] : List UInt8)) o_1') rfl ⟨.inr (List.mem_of_getElem? (i := 0) rfl), trivial⟩ rfl rfl ?_
   refine wv (OV.eqlS rfl rfl) ?_
   refine wv (OV.pickT rfl rfl) ?_
   refine WL.set 18 rfl (bT (v := decide (showT (treeT ([97, 43, 124, 98] : List UInt8)) 0 = ([97, 97, 42, 124, 98] : List UInt8))) hb) ?_
   exact WL.end_ (KX.go hK_4' ⟨rfl, trivial⟩)
  ·refine WL.set 14 rfl (congrArg zB hb) ?_
   refine WL.skip rfl rfl rfl ?_
   refine WL.skip rfl rfl rfl ?_
   refine WL.skip rfl rfl rfl ?_
   refine wv (OV.pickF rfl rfl) ?_
   refine WL.set 18 rfl (bF (v := decide (showT (treeT ([97, 43, 124, 98] : List UInt8)) 0 = ([97, 97, 42, 124, 98] : List UInt8))) hb) ?_
   exact WL.end_ (KX.go hK_4' ⟨rfl, trivial⟩)
 refine wv (OV.assign rfl) ?_
 refine WL.nil ?_
 refine KX.go (hK_2' [(0, zB (((andAll [decide ((errT ([97, 43, 124, 98] : List UInt8)).1 = 0), decide ((errT ([97, 43, 124, 98] : List UInt8)).2 = 0), decide (([] : List UInt8) = [])]) && (!(treeT ([97, 43, 124, 98] : List UInt8)).isNone)) && (decide (showT (treeT ([97, 43, 124, 98] : List UInt8)) 0 = ([97, 97, 42, 124, 98] : List UInt8)))))] _ ?_) ⟨rfl, trivial⟩
 refine wc_ret ?_
 exact hE.ret [] rfl rfl (.inl ⟨_, h, rfl⟩) (ResV.of1 rfl (RV.tmp rfl))

theorem speaks_does (te : TypeId) (fre : Nat × Nat) : Does Tryd.prog 19 [] (escTab te fre) [] (Ret (.bool true) []) := by
 refine Does.one (e := fun v => .bool v) (speaks_wp te fre (fun v => v = true) ?_)
 unfold speaks_vc
 rw [(errT_ok lit_apb).1, (errT_ok lit_apb).2]
 refine ⟨fun _ => by decide, ?_⟩
 have : showT (.alt (.cat (.cls (ofS [97])) (.star (.cls (ofS [97])))) (.cls (ofS [98]))) 0 = [97, 97, 42, 124, 98] := by
  simp [showT, showO, parT, rankT, show_a, show_b]
 rw [this]; rfl
theorem high_le_size : ∀ x : Tr, x.high ≤ x.size
 | .none | .eps | .cls _ => by simp [Tr.high, Tr.size]
 | .cat a b | .alt a b | .and a b | .minus a b => by have := high_le_size a; have := high_le_size b; simp only [Tr.high, Tr.size]; omega
 | .star a => by have := high_le_size a; simp only [Tr.high, Tr.size]; omega

end Go.Proofs.YtohnchdnkbadaaaDoor
namespace Go.Proofs.YtohnchdnkbadaaaDoor
open Go Go.RowKit

variable {P : Program} {C : Cx} {H : List HA}
theorem LOk.at {v : Value} {n : Nat} {xs : List Value} (hL : LOk C H v n xs) {w : World} (hp : Hp C H w) : ∃ R, InSl v R n xs ∧ ∀ p ∈ R, w.heap[p.1]? = some p.2 := by
 obtain ⟨F, h1, _⟩ := hp.own
 obtain ⟨R, hR, hh⟩ := hL w F h1
 refine ⟨R, hR, fun p hp' => ?_⟩
 rcases hh p hp' with h | h
 ·exact h.1
 ·exact hp.old h
end Go.Proofs.YtohnchdnkbadaaaDoor
namespace Go.Proofs.YtohnchdnkbadaaaDoor
open Go Go.RowKit

/-- The text has such a part at a place. -/
def Sg (t : List UInt8) (i : Int) (s : List UInt8) : Prop := 0 ≤ i ∧ ∃ v, t.drop i.toNat = s ++ v
section
variable {t a b s : List UInt8} {i : Int} {c : UInt8}
theorem Sg.left (h : Sg t i (a ++ b)) : Sg t i a := by
 obtain ⟨h0, v, h⟩ := h
 exact ⟨h0, b ++ v, by rw [h, List.append_assoc]⟩
theorem Sg.right (h : Sg t i (a ++ b)) : Sg t (i + a.length) b := by
 obtain ⟨h0, v, h⟩ := h
 refine ⟨by omega, v, ?_⟩
 rw [show (i + (a.length : Int)).toNat = i.toNat + a.length by omega, ← List.drop_drop, h, List.append_assoc, List.drop_left]
theorem Sg.head (h : Sg t i (c :: s)) : i < t.length ∧ nx t i = (c.toNat : Int) := by
 obtain ⟨h0, v, h⟩ := h
 have hl : i.toNat < t.length := by
  have := congrArg List.length h
  rw [List.length_drop] at this
  simp at this; omega
 refine ⟨by omega, ?_⟩
 rw [List.drop_eq_getElem_cons hl] at h
 have e : t[i.toNat] = c := by injection h
 unfold nx
 rw [List.getD_eq_getElem?_getD, List.getElem?_eq_getElem hl, ← e]; rfl
end
def postAt (t : List UInt8) (k : Int) : Prop := k < t.length ∧ (nx t k = 42 ∨ nx t k = 43 ∨ nx t k = 63 ∨ nx t k = 123)
def StopR (t : List UInt8) (k : Int) : Prop := ¬ (k < t.length ∧ nx t k ≠ 124 ∧ nx t k ≠ 38 ∧ nx t k ≠ 45 ∧ nx t k ≠ 41)
def StopM (t : List UInt8) (k : Int) : Prop := ¬ (k < t.length ∧ nx t k ≠ 124 ∧ nx t k ≠ 41)
def RowK (t : List UInt8) (acc : Option Tr) (d : Nat) (x : Tr) (k : Int) (r : PRes) : Prop := ∃ q, RP t x k q ∧ match q with
 | .error e => r = .error e
 | .ok (y, l) => PR t (.row (accT acc y)) d l r
def R3 (x : Tr) (s : List UInt8) (Q : Nat → Prop) : Prop := ∀ (t : List UInt8) (d : Nat) (i : Int) (acc : Option Tr) (r : PRes), Sg t i s → Q d → RowK t acc d x (i + s.length) r → PR t (.row acc) d i r
def R2 (x : Tr) (s : List UInt8) (Q : Nat → Prop) : Prop := ∀ (t : List UInt8) (d : Nat) (i : Int) (r : PRes), Sg t i s → Q d → ¬ postAt t (i + s.length) → PR t (.row (some x)) d (i + s.length) r → PR t (.row none) d i r
def R1 (x : Tr) (s : List UInt8) (Q : Nat → Prop) : Prop := ∀ (t : List UInt8) (d : Nat) (i : Int) (r : PRes), Sg t i s → Q d → StopR t (i + s.length) → PR t (.meetL x) d (i + s.length) r → PR t .meet d i r
def R0 (x : Tr) (s : List UInt8) (Q : Nat → Prop) : Prop := ∀ (t : List UInt8) (d : Nat) (i : Int) (r : PRes), Sg t i s → Q d → StopM t (i + s.length) → PR t (.altL x) d (i + s.length) r → PR t .alt d i r
section
variable {x a b : Tr} {s sa sb : List UInt8} {Q Q' Qa Qb : Nat → Prop}
theorem R3.weak (h : R3 x s Q) (hq : ∀ d, Q' d → Q d) : R3 x s Q' := fun t d i acc r hs hd => h t d i acc r hs (hq d hd)
theorem R2.weak (h : R2 x s Q) (hq : ∀ d, Q' d → Q d) : R2 x s Q' := fun t d i r hs hd => h t d i r hs (hq d hd)
theorem R1.weak (h : R1 x s Q) (hq : ∀ d, Q' d → Q d) : R1 x s Q' := fun t d i r hs hd => h t d i r hs (hq d hd)
theorem R0.weak (h : R0 x s Q) (hq : ∀ d, Q' d → Q d) : R0 x s Q' := fun t d i r hs hd => h t d i r hs (hq d hd)
theorem R3.r2 (h : R3 x s Q) : R2 x s Q := fun t d i r hs hd hp hr => h t d i none r hs hd ⟨_, .zero hp, hr⟩
theorem R2.r1 (h : R2 x s Q) : R1 x s Q := fun t d i r hs hd hp hr => .meet (h t d i _ hs hd (by unfold postAt; unfold StopR at hp; omega) (.rowZ hp)) hr
theorem R1.r0 (h : R1 x s Q) : R0 x s Q := fun t d i r hs hd hp hr => .alt (h t d i _ hs hd (by unfold StopR; unfold StopM at hp; omega) (.meetZ (by unfold StopM at hp; omega))) hr
theorem R0.wrap (h : R0 x s Q') (hq : ∀ d, Q d → d < 1000 ∧ Q' (d + 1)) : R3 x ([40] ++ s ++ [41]) Q := by
 rintro t d i acc r hs hd ⟨q, h1, h2⟩
 obtain ⟨q1, q2⟩ := hq d hd
 have ha : Sg t i ([40] ++ (s ++ [41])) := by rw [← List.append_assoc]; exact hs
 obtain ⟨c1, c2⟩ := Sg.head (s := s ++ [41]) ha
 have hb : Sg t (i + 1) (s ++ [41]) := ha.right
 obtain ⟨c3, c4⟩ := hb.right.head
 have c2' : nx t i = 40 := c2
 have c4' : nx t (i + 1 + s.length) = 41 := c4
 have h3 := h t (d + 1) (i + 1) _ hb.left q2 (by unfold StopM; omega) (.altZ (by omega))
 have e : i + (([40] ++ s ++ [41] : List UInt8).length : Int) = i + 1 + s.length + 1 := by simp; omega
 rw [e] at h1
 cases q with
 | error er => simp only at h2; subst h2; exact .rowPR c1 c2' q1 h3 c3 h1
 | ok p => obtain ⟨y, l⟩ := p; exact .rowP c1 c2' q1 h3 c3 h1 h2
theorem R3.eps : R3 .eps [40, 41] (fun d => d < 1000) := by
 rintro t d i acc r hs hd ⟨q, h1, h2⟩
 have ha : Sg t i ([40] ++ [41]) := hs
 obtain ⟨c1, c2⟩ := hs.head
 obtain ⟨c3, c4⟩ := ha.right.head
 have c2' : nx t i = 40 := c2
 have c3' : i + 1 < t.length := c3
 have c4' : nx t (i + 1) = 41 := c4
 have h3 : PR t .alt (d + 1) (i + 1) (.ok (.eps, i + 1)) := .alt (.meet (.rowZ (by omega)) (.meetZ (by omega))) (.altZ (by omega))
 have e : i + (([40, 41] : List UInt8).length : Int) = i + 1 + 1 := by simp; omega
 rw [e] at h1
 cases q with
 | error er => simp only at h2; subst h2; exact .rowPR c1 c2' hd h3 c3' h1
 | ok p => obtain ⟨y, l⟩ := p; exact .rowP c1 c2' hd h3 c3' h1 h2
theorem R3.star (h : R3 a sa Qa) : R3 (.star a) (sa ++ [42]) Qa := by
 rintro t d i acc r hs hd ⟨q, h1, h2⟩
 obtain ⟨c1, c2⟩ := hs.right.head
 have c2' : nx t (i + sa.length) = 42 := c2
 refine h t d i acc r hs.left hd ⟨q, .one c1 (.inl c2') ?_, h2⟩
 rw [c2']
 rw [List.length_append] at h1
 show RP t (.star a) _ q
 rw [show i + (sa.length : Int) + 1 = i + ((sa.length + ([42] : List UInt8).length : Nat) : Int) by simp; omega]
 exact h1
theorem R2.cat (h : R2 a sa Qa) (h' : R3 b sb Qb) (hf : ∃ c v, sb = c :: v ∧ (c.toNat ≠ 42 ∧ c.toNat ≠ 43 ∧ c.toNat ≠ 63 ∧ c.toNat ≠ 123)) (hq : ∀ d, Q d → Qa d ∧ Qb d) : R2 (.cat a b) (sa ++ sb) Q := by
 rintro t d i r hs hd hp hr
 obtain ⟨q1, q2⟩ := hq d hd
 have hb := hs.right
 refine h t d i r hs.left q1 ?_ (h' t d _ (some a) r hb q2 ?_)
 ·obtain ⟨c, v, rfl, hc⟩ := hf
  obtain ⟨_, c2⟩ := hb.head
  unfold postAt; omega
 ·have e : i + (sa.length : Int) + sb.length = i + ((sa ++ sb).length : Int) := by rw [List.length_append]; omega
  rw [e]
  exact ⟨_, .zero hp, hr⟩
theorem R1.and (ch : UInt8) (hch : ch = 38 ∨ ch = 45) (h : R1 a sa Qa) (h' : R2 b sb Qb) (hq : ∀ d, Q d → Qa d ∧ Qb d) : R1 (andT ch.toNat a b) (sa ++ [ch] ++ sb) Q := by
 rintro t d i r hs hd hp hr
 obtain ⟨q1, q2⟩ := hq d hd
 have hs' : Sg t i (sa ++ ([ch] ++ sb)) := by rw [← List.append_assoc]; exact hs
 have hb := hs'.right
 obtain ⟨c1, c2⟩ := Sg.head (s := sb) hb
 have hc3 : (ch.toNat : Int) = 38 ∨ (ch.toNat : Int) = 45 := by rcases hch with rfl | rfl <;> simp
 have hc : Sg t (i + sa.length + 1) sb := hb.right
 have e : i + (sa.length : Int) + 1 + sb.length = i + ((sa ++ [ch] ++ sb).length : Int) := by simp only [List.length_append, List.length_cons, List.length_nil]; omega
 refine h t d i r hs'.left q1 (by unfold StopR; omega) (.meetL c1 (by omega) (h' t d _ _ hc q2 ?_ (.rowZ ?_)) ?_)
 ·rw [e]; unfold postAt; unfold StopR at hp; omega
 ·rw [e]; exact hp
 ·rw [c2, e]; exact hr
theorem R0.alt (h : R0 a sa Qa) (h' : R1 b sb Qb) (hq : ∀ d, Q d → Qa d ∧ Qb d) : R0 (.alt a b) (sa ++ [124] ++ sb) Q := by
 rintro t d i r hs hd hp hr
 obtain ⟨q1, q2⟩ := hq d hd
 have hs' : Sg t i (sa ++ ([124] ++ sb)) := by rw [← List.append_assoc]; exact hs
 have hb := hs'.right
 obtain ⟨c1, c2⟩ := Sg.head (s := sb) hb
 have c2' : nx t (i + sa.length) = 124 := c2
 have hc : Sg t (i + sa.length + 1) sb := hb.right
 have e : i + (sa.length : Int) + 1 + sb.length = i + ((sa ++ [124] ++ sb).length : Int) := by simp only [List.length_append, List.length_cons, List.length_nil]; omega
 refine h t d i r hs'.left q1 (by unfold StopM; omega) (.altL c1 c2' (h' t d _ _ hc q2 ?_ (.meetZ ?_)) ?_)
 ·rw [e]; unfold StopR; unfold StopM at hp; omega
 ·rw [e]; unfold StopM at hp; omega
 ·rw [e]; exact hr
end
/-! ### first letters -/
theorem single_first (b : Nat) (hb : b < 256) : ∃ c v, singleL b spL = c :: v ∧ ∀ q ∈ [124, 38, 45, 41, 42, 43, 63, 123, 40], c.toNat ≠ q := by
 unfold singleL
 split
 ·exact ⟨_, _, rfl, by decide⟩
 ·split
  ·exact ⟨_, _, rfl, by decide⟩
  ·split
   ·exact ⟨_, _, rfl, by decide⟩
   ·rename_i hn
    refine ⟨_, _, rfl, fun q hq he => ?_⟩
    rw [show (b.toUInt8).toNat = b from by simp; omega] at he
    subst he
    simp at hq
    rcases hq with rfl | rfl | rfl | rfl | rfl | rfl | rfl | rfl | rfl <;> exact hn (by decide)
theorem showL_first (s : CS) : ∃ c v, showL s = c :: v ∧ ∀ q ∈ [124, 38, 45, 41, 42, 43, 63, 123, 40], c.toNat ≠ q := by
 unfold showL
 split
 ·rename_i h
  obtain ⟨b, hb, hn, _⟩ := lone_bit h
  rw [hn]; exact single_first b hb
 ·split
  ·exact ⟨_, _, rfl, by decide⟩
  ·exact ⟨_, _, rfl, by decide⟩
def PostFree (s : List UInt8) : Prop := ∃ c v, s = c :: v ∧ (c.toNat ≠ 42 ∧ c.toNat ≠ 43 ∧ c.toNat ≠ 63 ∧ c.toNat ≠ 123)
theorem PostFree.app {s v : List UInt8} (h : PostFree s) : PostFree (s ++ v) := by
 obtain ⟨c, u, rfl, h⟩ := h; exact ⟨c, u ++ v, rfl, h⟩
theorem PostFree.par {x : Tr} {n : Int} {s : List UInt8} (h : PostFree s) : PostFree (parT x n s) := by
 unfold parT; split
 ·exact ⟨40, s ++ [41], rfl, by decide⟩
 ·exact h
theorem showO_first : ∀ x : Tr, PostFree (showO x)
 | .none => ⟨_, _, rfl, by decide⟩
 | .eps => ⟨_, _, rfl, by decide⟩
 | .cls s => by
  obtain ⟨c, v, h, hc⟩ := showL_first s
  exact ⟨c, v, h, hc 42 (by simp), hc 43 (by simp), hc 63 (by simp), hc 123 (by simp)⟩
 | .cat a b => by unfold showO; exact (showO_first a).par.app
 | .alt a b => by unfold showO; exact (showO_first a).par.app.app
 | .and a b => by unfold showO; exact (showO_first a).par.app.app
 | .minus a b => by unfold showO; exact (showO_first a).par.app.app
 | .star a => by unfold showO; exact (showO_first a).par.app
theorem R3.cls (s : CS) (Q : Nat → Prop) : R3 (.cls s) (showL s) Q := by
 rintro t d i acc r hs hd ⟨q, h1, h2⟩
 obtain ⟨c, v, hv, hc⟩ := showL_first s
 have hs' := hs
 rw [hv] at hs'
 obtain ⟨c1, c2⟩ := hs'.head
 obtain ⟨h0, u, hu⟩ := hs
 have hm := read_at s (v := u) (p := i.toNat) (t := t) hu
 rw [show ((i.toNat : Nat) : Int) = i by omega, show ((i.toNat + (showL s).length : Nat) : Int) = i + (showL s).length by omega] at hm
 have hn : nx t i ∉ [124, 38, 45, 41, 42, 43, 63, 123, 40] := by
  rw [c2]
  intro hm
  simp at hm
  have := hc 124; have := hc 38; have := hc 45; have := hc 41; have := hc 42; have := hc 43; have := hc 63; have := hc 123; have := hc 40
  simp at *; omega
 cases q with
 | error er => simp only at h2; subst h2; exact .rowCR c1 hn hm h1
 | ok p => obtain ⟨y, l⟩ := p; exact .rowC c1 hn hm h1 h2
/-! ### every tree's text -/
def Dp (x : Tr) (d : Nat) : Prop := 2 * d + x.size ≤ 2000
structure Reads (x : Tr) : Prop where
 h3 : R3 x (showT x 3) (Dp x)
 h2 : R2 x (showT x 2) (Dp x)
 h1 : R1 x (showT x 1) (Dp x)
 h0 : R0 x (showT x 0) (Dp x)
theorem showT_bare {x : Tr} {n : Int} (h : n ≤ rankT x) : showT x n = showO x := by unfold showT parT; rw [if_neg (by omega)]
theorem showT_par {x : Tr} {n : Int} (h : rankT x < n) : showT x n = [40] ++ showO x ++ [41] := by unfold showT parT; rw [if_pos h]
theorem Reads.of3 {x : Tr} (hr : 3 ≤ rankT x) (h : R3 x (showO x) (Dp x)) : Reads x := by
 constructor
 ·rw [showT_bare (by omega)]; exact h
 ·rw [showT_bare (by omega)]; exact h.r2
 ·rw [showT_bare (by omega)]; exact h.r2.r1
 ·rw [showT_bare (by omega)]; exact h.r2.r1.r0
def Dq (x : Tr) (d : Nat) : Prop := 2 * d + x.size ≤ 2002
theorem Dp.q {x : Tr} (d : Nat) (h : Dp x d) : Dq x d := by unfold Dq; unfold Dp at h; omega
theorem Dp.in_ {x : Tr} (h3 : 3 ≤ x.size) (d : Nat) (h : Dp x d) : d < 1000 ∧ Dq x (d + 1) := by unfold Dq; unfold Dp at h; omega
theorem Reads.of2 {x : Tr} (hr : rankT x = 2) (hz : 3 ≤ x.size) (h : R2 x (showO x) (Dq x)) : Reads x := by
 constructor
 ·rw [showT_par (by omega)]; exact h.r1.r0.wrap (Dp.in_ hz)
 ·rw [showT_bare (by omega)]; exact h.weak Dp.q
 ·rw [showT_bare (by omega)]; exact (h.weak Dp.q).r1
 ·rw [showT_bare (by omega)]; exact (h.weak Dp.q).r1.r0
theorem Reads.of1 {x : Tr} (hr : rankT x = 1) (hz : 3 ≤ x.size) (h : R1 x (showO x) (Dq x)) : Reads x := by
 have hw := h.r0.wrap (Dp.in_ hz)
 constructor
 ·rw [showT_par (by omega)]; exact hw
 ·rw [showT_par (by omega)]; exact hw.r2
 ·rw [showT_bare (by omega)]; exact h.weak Dp.q
 ·rw [showT_bare (by omega)]; exact (h.weak Dp.q).r0
theorem Reads.of0 {x : Tr} (hr : rankT x = 0) (hz : 3 ≤ x.size) (h : R0 x (showO x) (Dq x)) : Reads x := by
 have hw := h.wrap (Dp.in_ hz)
 constructor
 ·rw [showT_par (by omega)]; exact hw
 ·rw [showT_par (by omega)]; exact hw.r2
 ·rw [showT_par (by omega)]; exact hw.r2.r1
 ·rw [showT_bare (by omega)]; exact h.weak Dp.q
theorem reads : ∀ x : Tr, x.solid → Reads x
 | .none, h => h.elim
 | .eps, _ => .of3 (by decide) (R3.eps.weak fun d h => by unfold Dp at h; simp only [Tr.size] at h; omega)
 | .cls s, _ => .of3 (show (3 : Int) ≤ 4 by decide) (R3.cls s _)
 | .star a, h => .of3 (show (3 : Int) ≤ 3 by decide) ((reads a h).h3.star.weak fun d h => by unfold Dp at *; simp only [Tr.size] at h; omega)
 | .cat a b, h => by
  have ha := a.size_pos; have hb := b.size_pos
  refine .of2 rfl (by simp only [Tr.size]; omega) ?_
  exact (reads a h.1).h2.cat (reads b h.2).h3 ((showO_first b).par) fun d h => by unfold Dp Dq at *; simp only [Tr.size] at h; omega
 | .and a b, h => by
  have ha := a.size_pos; have hb := b.size_pos
  refine .of1 rfl (by simp only [Tr.size]; omega) ?_
  exact (reads a h.1).h1.and 38 (.inl rfl) (reads b h.2).h2 fun d h => by unfold Dp Dq at *; simp only [Tr.size] at h; omega
 | .minus a b, h => by
  have ha := a.size_pos; have hb := b.size_pos
  refine .of1 rfl (by simp only [Tr.size]; omega) ?_
  exact (reads a h.1).h1.and 45 (.inr rfl) (reads b h.2).h2 fun d h => by unfold Dp Dq at *; simp only [Tr.size] at h; omega
 | .alt a b, h => by
  have ha := a.size_pos; have hb := b.size_pos
  refine .of0 rfl (by simp only [Tr.size]; omega) ?_
  exact (reads a h.1).h0.alt (reads b h.2).h1 fun d h => by unfold Dp Dq at *; simp only [Tr.size] at h; omega
/-! ### how long -/
theorem piece_len3 (b e : Nat) (h : b ≤ e) : (pieceL b e).length ≤ 3 * (e - b + 2) := by
 have h1 := singleL_len b inL
 have h2 := singleL_len e inL
 unfold pieceL
 by_cases c1 : b + 1 < e <;> by_cases c2 : b < e <;> simp [c1, c2] <;> omega
theorem textTo_len3 (s : CS) : ∀ k, k ≤ 256 → ((k = 0 ∨ s.getLsbD (k - 1) = false) → (textTo s k).length ≤ 3 * k) ∧ (0 < k → s.getLsbD (k - 1) = true → (textTo s k).length ≤ 3 * (runEndS s (k - 1) + 2))
 | 0, _ => ⟨fun _ => by simp [textTo], fun h => by omega⟩
 | k + 1, hk => by
  obtain ⟨i1, i2⟩ := textTo_len3 s k (by omega)
  have hend : ∀ j, j ≤ 255 → j ≤ runEndS s j ∧ runEndS s j ≤ 255 ∧ (∀ i, j < i → i ≤ runEndS s j → s.getLsbD i = true) ∧ (runEndS s j < 255 → s.getLsbD (runEndS s j + 1) = false) := fun j hj => runEnd_spec s 256 j (by omega) (by omega)
  obtain ⟨r1, r2, r3, r4⟩ := hend k (by omega)
  rw [Nat.add_sub_cancel]
  by_cases hb : s.getLsbD k = true
  ·refine ⟨fun h => ?_, fun _ _ => ?_⟩
   ·rcases h with h | h
    ·omega
    ·rw [hb] at h; cases h
   ·simp only [textTo, List.length_append]
    by_cases hs : k = 0 ∨ s.getLsbD (k - 1) = false
    ·have h1 := i1 hs
     have h2 : (startP s k).length ≤ 3 * (runEndS s k - k + 2) := by
      unfold startP; split
      ·exact piece_len3 _ _ r1
      ·simp
     omega
    ·have h0 : 0 < k ∧ s.getLsbD (k - 1) = true := by
      by_cases hz : k = 0
      ·exact absurd (.inl hz) hs
      ·exact ⟨by omega, by cases h : s.getLsbD (k - 1) with
        | true => rfl
        | false => exact absurd (.inr h) hs⟩
     have h1 := i2 h0.1 h0.2
     have h2 : startP s k = [] := by
      unfold startP
      rw [if_neg (by simp [h0.2]; omega)]
     obtain ⟨p1, p2, p3, p4⟩ := hend (k - 1) (by omega)
     have h3 : runEndS s (k - 1) = runEndS s k := runEndS_eq (by omega) r2 (fun i hi1 hi2 => by
      by_cases he : i = k
      ·rw [he]; exact hb
      ·exact r3 i (by omega) hi2) r4
     rw [h2, ← h3]; simp; exact h1
  ·have hb' : s.getLsbD k = false := by cases h : s.getLsbD k with
    | true => exact absurd h hb
    | false => rfl
   refine ⟨fun _ => ?_, fun _ h => absurd h hb⟩
   rw [textTo_off hb']
   by_cases hs : k = 0 ∨ s.getLsbD (k - 1) = false
   ·have := i1 hs; omega
   ·have h0 : 0 < k ∧ s.getLsbD (k - 1) = true := by
     by_cases hz : k = 0
     ·exact absurd (.inl hz) hs
     ·exact ⟨by omega, by cases h : s.getLsbD (k - 1) with
       | true => rfl
       | false => exact absurd (.inr h) hs⟩
    have h1 := i2 h0.1 h0.2
    have h3 : runEndS s (k - 1) = k - 1 := runEndS_eq (by omega) (by omega) (fun i hi1 hi2 => by omega) (fun _ => by rw [show k - 1 + 1 = k by omega]; exact hb')
    rw [h3] at h1; omega
theorem textTo_771 (s : CS) : (textTo s 256).length ≤ 771 := by
 obtain ⟨h1, h2⟩ := textTo_len3 s 256 (by omega)
 by_cases hb : s.getLsbD 255 = true
 ·have h3 := h2 (by omega) hb
  have h4 : runEndS s 255 ≤ 255 := (runEnd_spec s 256 255 (by omega) (by omega)).2.1
  have h5 : (textTo s 256).length ≤ 3 * (runEndS s 255 + 2) := h3
  omega
 ·have := h1 (.inr (by cases h : s.getLsbD (256 - 1) with
   | true => exact absurd h hb
   | false => rfl))
  omega
theorem showL_780 (s : CS) : (showL s).length ≤ 780 := by
 unfold showL
 have h1 := textTo_771 s; have h2 := textTo_771 (~~~ s); have h3 := singleL_len ((nextS s 0).getD 0) spL
 split
 ·omega
 ·split <;> simp only [List.length_append, List.length_cons, List.length_nil] <;> omega
theorem showO_400 : ∀ x : Tr, (showO x).length ≤ 400 * x.size + 390
 | .none | .eps => by simp [showO, Tr.size]
 | .cls s => by have := showL_780 s; simp only [showO, Tr.size]; omega
 | .cat a b | .alt a b | .and a b | .minus a b => by
  have h1 := showO_400 a; have h2 := showO_400 b
  simp only [showO, Tr.size, List.length_append, List.length_cons, List.length_nil]
  have h3 := fun n => parT_len a n (showO a); have h4 := fun n => parT_len b n (showO b)
  have h5 := h3 0; have h6 := h3 1; have h7 := h3 2; have h8 := h4 1; have h9 := h4 2; have h10 := h4 3
  omega
 | .star a => by
  have h1 := showO_400 a; have h3 := parT_len a 3 (showO a)
  simp only [showO, Tr.size, List.length_append, List.length_cons, List.length_nil]
  omega
theorem show_short {x : Tr} (h : x.size ≤ 2000) : (showT x 0).length ≤ 1048576 := by
 have := showO_400 x
 rw [showT_bare (by cases x <;> simp [rankT])]; omega
/-- A printed tree is read as the tree. -/
theorem parse_show {x : Tr} (hx : x.solid) (hs : x.size ≤ 2000) : parseT (showT x 0) = .ok x := by
 have hl := show_short hs
 have hsg : Sg (showT x 0) 0 (showT x 0) := ⟨by omega, [], by simp⟩
 have h := (reads x hx).h0 (showT x 0) 0 0 (.ok (x, (showT x 0).length)) hsg (by unfold Dp; omega) (by unfold StopM; omega) (by
  rw [Int.zero_add]; exact .altZ (by omega))
 unfold parseT
 rw [if_neg (by omega), topT_eq (R := .ok x) ⟨_, h, by simp⟩]
 simp only
 rw [if_neg (by omega)]
end Go.Proofs.YtohnchdnkbadaaaDoor
