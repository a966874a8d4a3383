/-
  Merged: SyY, Gwc, SyF, SyZ, SyU, SyM.
-/
import Derived.Shelf.Strings.Builder1
import Derived.Test.YtifajndacnfcbaaDoorSw5
set_option maxRecDepth 100000
namespace Go.Proofs.YtifajndacnfcbaaDoor
open Go Go.RowKit
theorem aez : n8 Tryd.prog 23 1 = true := by kernel_rfl
theorem amx : aa5 Tryd.prog 23 = some [Value.pointer none] := by kernel_rfl
theorem api : l6 Tryd.prog 15 = true := by kernel_rfl
theorem aaq : aaf Tryd.prog 24 = true := by kernel_rfl
theorem z2 : Program.stoodInHeld Tryd.prog 26 = false := by kernel_rfl
theorem aa8 : Program.eqGuardType Tryd.prog Tryd.prog.depth 26 = false := by kernel_rfl
theorem aex : aaf Tryd.prog 23 = true := by kernel_rfl
theorem aor : l6 Tryd.prog 17 = true := by kernel_rfl
theorem ajj : l6 Tryd.prog 16 = true := by kernel_rfl
def adr (c : Value) (c_1'_0 : Int) (c_1'_1 : Int) (c_1'_2 : List UInt8) (K : Value → Int → Int → (List UInt8) → Prop) : Prop :=
 K c c_1'_0 c_1'_1 c_1'_2
theorem alj (b : Nat) (b_1' : Nat) (c : Value) (c_1'_0 : Int) (c_1'_1 : Int) (c_1'_2 : List UInt8) (K : Value → Int → Int → (List UInt8) → Prop) (h : adr c c_1'_0 c_1'_1 c_1'_2 K) :
  x9 Tryd.prog 16 [zP b, zP b_1'] (.returning) (.returning) [] [HA.blk b (.cells [c].toArray 23 (0, 0)), HA.blk b_1' (.cells [zI c_1'_0, zI c_1'_1, st c_1'_2].toArray 26 (0, 0))] (fun o => (∃ (d : Value) (d_1'_0 : Int) (d_1'_1 : Int) (d_1'_2 : List UInt8), K d d_1'_0 d_1'_1 d_1'_2 ∧ o = .ret (Value.tuple #[]) [HA.blk b (.cells [d].toArray 23 (0, 0)), HA.blk b_1' (.cells [zI d_1'_0, zI d_1'_1, st d_1'_2].toArray 26 (0, 0))]) ∨ (False)) := by
 unfold adr at h
 refine ajg (n := 8) (L0 := [(0, zP b), (1, zP b_1')]) (v := Value.nilIface) Tryd.func16 rfl rfl rfl rfl rfl rfl (.inl ⟨rfl, rfl, rfl⟩) (fun w0 M Q hE => ?_)
 refine a7 (fun _ hK => ?_)
 refine a6 ?_
 refine wm ?_
 refine wv (OV.neqNil0 rfl Tryd.underlying20) ?_
 refine WL.nil ?_
 refine kg (hK [(0, zP b), (1, zP b_1'), (2, Value.nilIface), (5, zB false)] _ ?_)
 refine d7 rfl ?_
 refine b7 ?_
 exact hE.norm [0, 1] rfl rfl (.inl ⟨_, _, _, _, h, rfl⟩) (e9.none rfl)
def adu (_ : Value) (_ : Int) (_ : Int) (_ : List UInt8) (fc : Int) (fa : Int) (ft : List UInt8) (K : Value → Int → Int → (List UInt8) → Prop) : Prop :=
 K (Value.pointer none) fc fa ft
theorem ak2 (b : Nat) (b_1' : Nat) (c : Value) (c_1'_0 : Int) (c_1'_1 : Int) (c_1'_2 : List UInt8) (fc : Int) (fa : Int) (ft : List UInt8) (K : Value → Int → Int → (List UInt8) → Prop) (h : adu c c_1'_0 c_1'_1 c_1'_2 fc fa ft K) :
  x9 Tryd.prog 16 [zP b, zP b_1'] (.panicking [{ v := Value.iface 26 (Value.agg [zI fc, zI fa, st ft].toArray), recovered := false }]) (.panicking [{ v := Value.iface 26 (Value.agg [zI fc, zI fa, st ft].toArray), recovered := true }]) [] [HA.blk b (.cells [c].toArray 23 (0, 0)), HA.blk b_1' (.cells [zI c_1'_0, zI c_1'_1, st c_1'_2].toArray 26 (0, 0))] (fun o => (∃ (d : Value) (d_1'_0 : Int) (d_1'_1 : Int) (d_1'_2 : List UInt8), K d d_1'_0 d_1'_1 d_1'_2 ∧ o = .ret (Value.tuple #[]) [HA.blk b (.cells [d].toArray 23 (0, 0)), HA.blk b_1' (.cells [zI d_1'_0, zI d_1'_1, st d_1'_2].toArray 26 (0, 0))]) ∨ (False)) := by
 unfold adu at h
 refine ajg (n := 8) (L0 := [(0, zP b), (1, zP b_1')]) (v := Value.iface 26 (Value.agg [zI fc, zI fa, st ft].toArray)) Tryd.func16 rfl rfl rfl rfl rfl rfl (.inr ⟨_, rfl, rfl, rfl⟩) (fun w0 M Q hE => ?_)
 refine a7 (fun _ hK => ?_)
 refine a6 ?_
 refine wm ?_
 refine wv (OV.neqNil rfl rfl Tryd.underlying20) ?_
 refine WL.nil ?_
 refine kg (hK [(0, zP b), (1, zP b_1'), (2, Value.iface 26 (Value.agg [zI fc, zI fa, st ft].toArray)), (5, zB true)] _ ?_)
 refine h8 rfl ?_
 refine aly 2 [] [] rfl rfl j3 (by kernel_rfl) (fun T hT => ?_)
 refine TW.val (OV.move rfl) rfl rfl rfl ?_
 refine TW.val (OV.assertIs rfl Tryd.underlying26 rfl) rfl rfl rfl ?_
 refine TW.nil (hT _ ?_)
 refine WLK.op [] rfl rfl (OpK.store (vs := [Value.pointer none]) (cs' := [Value.pointer none]) 0 rfl rfl rfl rfl aez (Nat.le_of_ble_eq_true rfl) rfl rfl) rfl ?_
 refine WLK.op [] rfl rfl (OpK.storeW (vs := [zI fc, zI fa, st ft]) 1 rfl rfl rfl rfl rfl n6 rfl rfl) rfl ?_
 refine WLK.nil ?_
 exact hE.norm [0, 1] rfl rfl (.inl ⟨_, _, _, _, h, rfl⟩) (e9.none rfl)
abbrev ae6 (b b1 : Nat) (c : Value) (x y : Int) (z : List UInt8) : List HA :=
 [.blk b (.cells [c].toArray 23 (0, 0)), .blk b1 (.cells [zI x, zI y, st z].toArray 26 (0, 0))]
theorem alz (b b1 : Nat) (c : Value) (x y : Int) (z : List UInt8) : x9 Tryd.prog 16 [.pointer (some ⟨b, 0, none⟩), .pointer (some ⟨b1, 0, none⟩)] .returning .returning [] (ae6 b b1 c x y z) (Ret (.tuple #[]) (ae6 b b1 c x y z)) := by
 refine (alj b b1 c x y z (fun c' x' y' z' => c' = c ∧ x' = x ∧ y' = y ∧ z' = z) ?_).weak ?_
 ·unfold adr; exact ⟨rfl, rfl, rfl, rfl⟩
 ·rintro o (⟨c', x', y', z', ⟨rfl, rfl, rfl, rfl⟩, rfl⟩ | h)
  ·rfl
  ·exact h.elim
theorem akt (b b1 : Nat) (c : Value) (x y : Int) (z : List UInt8) (fc fa : Int) (ft : List UInt8) : x9 Tryd.prog 16 [.pointer (some ⟨b, 0, none⟩), .pointer (some ⟨b1, 0, none⟩)]
  (.panicking [{ v := .iface 26 (.agg [.int .i64 fc, .int .i64 fa, st ft].toArray), recovered := false }]) (.panicking [{ v := .iface 26 (.agg [.int .i64 fc, .int .i64 fa, st ft].toArray), recovered := true }]) [] (ae6 b b1 c x y z) (Ret (.tuple #[]) (ae6 b b1 (.pointer none) fc fa ft)) := by
 refine (ak2 b b1 c x y z fc fa ft (fun c' x' y' z' => c' = .pointer none ∧ x' = fc ∧ y' = fa ∧ z' = ft) ?_).weak ?_
 ·unfold adu; exact ⟨rfl, rfl, rfl, rfl⟩
 ·rintro o (⟨c', x', y', z', ⟨rfl, rfl, rfl, rfl⟩, rfl⟩ | h)
  ·rfl
  ·exact h.elim
def afj (text : List UInt8) (B : List (Nat × Obj)) (K : Value → Int → Int → (List UInt8) → (List (Nat × Obj)) → Prop) : Prop :=
 (
  (if (!aa3 [decide ((e6 text).2.1 = 0), decide ((e6 text).2.2 = 0), decide (([] : List UInt8) = [])]) = true then
   K (Value.pointer none) ((e6 text).2.1) ((e6 text).2.2) [] B
  else
   (POK ((e6 text).1) 0 0) ∧
   (∀ (v : Value) (l : List p3) (e : Ex) (_k : Nat) (_op : Int) (B_1' : List (Nat × Obj)), (w6 ((e6 text).1) = .ok (l, e) ∧ anr B_1' v l e ∧ ∀ p ∈ B, p ∈ B_1') →
    (v.oneCell' = true) ∧
    K v 0 0 [] B_1') ∧
   (∀ (ec : Int) (ep : Int) (_k_1' : Nat) (_op_1' : Int) (B_2' : List (Nat × Obj)), w6 ((e6 text).1) = .error (ec, ep) →
    K (Value.pointer none) ec ep [] B_2')))
theorem aom (te : TypeId) (fre : Nat × Nat) (text : List UInt8) (B : List (Nat × Obj)) (K : Value → Int → Int → (List UInt8) → (List (Nat × Obj)) → Prop) (h : afj text B K) :
  d9 Tryd.prog 9 [st text] [(0, .cells [st ([124] : List UInt8), st ([38, 45] : List UInt8), st ([62, 62] : List UInt8), st ([126] : List UInt8), st ([46] : List UInt8)].toArray te fre)] [pool B] (fun o => (∃ (v_1' : Value) (v_2'_0 : Int) (v_2'_1 : Int) (v_2'_2 : List UInt8) (D : List (Nat × Obj)), K v_1' v_2'_0 v_2'_1 v_2'_2 D ∧ o = .ret (Value.tuple #[v_1', Value.agg [zI v_2'_0, zI v_2'_1, st v_2'_2].toArray]) [pool D]) ∨ (False)) := by
 unfold afj at h
 refine p7 (n := 22) (L0 := [(0, st text)]) Tryd.func9 rfl rfl rfl rfl (fun w0 M Q hE => ?_)
 refine a7 (fun _ hK => ?_)
 refine a6 ?_
 refine WL.make (MV.alloc amx) rfl rfl rfl (fun b => ?_)
 refine WL.make (MV.alloc z1) rfl rfl rfl (fun b_1' => ?_)
 refine WL.nil ?_
 refine kg (hK [(0, st text), (2, zP b), (3, zP b_1')] _ ?_)
 refine a7 (fun _ hK_1' => ?_)
 refine a6 ?_
 refine wm ?_
 refine WL.callS api rfl (aoy text) rfl trivial rfl rfl (fun r H' hS => ?_) (fun c H' hS => ?_)
 ·obtain ⟨w, ho⟩ := hS
  cases ho
  refine wm ?_
  refine wv (OV.extract 0 rfl rfl) ?_
  refine wv (OV.extract 1 rfl rfl) ?_
  refine wA ?_
  refine WL.storeW (vs := [zI ((e6 text).2.1), zI ((e6 text).2.2), st []]) 1 rfl rfl rfl rfl rfl n6 rfl rfl rfl ?_
  refine WL.nil ?_
  refine kg (hK_1' [(2, zP b), (3, zP b_1'), (4, w)] _ ?_)
  refine a7 (fun _ hK_2' => ?_)
  refine a7 (fun _ hK_3' => ?_)
  refine a6 ?_
  refine wv (OV.loadR rfl (At.own 1 rfl) o8) ?_
  refine wv (OV.build rfl (cs := [zI 0, zI 0, st []]) rfl) ?_
  refine wv (OV.neqF (rs := [decide ((e6 text).2.1 = 0), decide ((e6 text).2.2 = 0), decide (([] : List UInt8) = [])]) rfl rfl Tryd.underlying26 z2 aa8 ⟨rfl, aaq, ⟨_, _, rfl, rfl, p4.int Tryd.underlying24⟩, ⟨rfl, b6, ⟨_, _, rfl, rfl, p4.int Tryd.underlying3⟩, ⟨rfl, c6, ⟨_, _, rfl, rfl, p4.str Tryd.underlying9⟩, trivial⟩⟩⟩) ?_
  refine WL.nil ?_
  refine kg (hK_3' [(2, zP b), (3, zP b_1'), (4, w), (13, zB (!aa3 [decide ((e6 text).2.1 = 0), decide ((e6 text).2.2 = 0), decide (([] : List UInt8) = [])]))] _ ?_)
  refine b5 (b := !aa3 [decide ((e6 text).2.1 = 0), decide ((e6 text).2.2 = 0), decide (([] : List UInt8) = [])]) rfl (fun hb => ?_) (fun hb => ?_)
  ·replace h := j4 h hb
   refine a7 (fun _ hK_4' => ?_)
   refine aly 1 [0, 1, 2, 3] [HA.row w 102 3 ((e6 text).1).length (((e6 text).1).flatMap g9), HA.blk b_1' (.cells [zI ((e6 text).2.1), zI ((e6 text).2.2), st []].toArray 26 (0, 0)), HA.blk b (.cells [Value.pointer none].toArray 23 (0, 0)), pool B] rfl rfl j3 (by kernel_rfl) (fun T hT => ?_)
   refine TW.val (OV.loadR rfl (At.own 1 rfl) o8) rfl rfl rfl ?_
   refine TW.nil (hT _ ?_)
   refine WLK.op [0, 1, 2, 3] rfl rfl (OpK.store (vs := [Value.pointer none]) (cs' := [Value.pointer none]) 2 rfl rfl rfl rfl aez (Nat.le_of_ble_eq_true rfl) rfl rfl) rfl ?_
   refine WLK.op [0, 1, 2, 3] rfl rfl (OpK.storeW (vs := [zI ((e6 text).2.1), zI ((e6 text).2.2), st []]) 1 rfl rfl rfl rfl rfl n6 rfl rfl) rfl ?_
   refine WLK.nil ?_
   refine kg (hK_4' [(2, zP b), (3, zP b_1')] _ ?_)
   refine c7 ?_
   exact hE.ret (abw [3] rfl rfl (.inl ⟨_, _, _, _, _, h, rfl⟩) (e9.of2 rfl (RV.cell rfl (At.own 2 rfl) rfl aex) (RV.row rfl (At.own 1 rfl) o8)))
  ·replace h := j5 h hb
   refine b7 ?_
   refine kg (hK_2' [(2, zP b), (3, zP b_1'), (4, w)] _ ?_)
   refine aj3 (fun K0_5' hK_5' => ?_)
   refine a6 ?_
   refine wv (OV.makeFunc rfl) ?_
   refine WL.defer rfl rfl ?_
   refine WL.nil ?_
   refine kg (hK_5' _ [(2, zP b), (3, zP b_1'), (4, w)] _ ?_)
   refine a7 (fun _ hK_6' => ?_)
   refine a6 ?_
   refine wm ?_
   refine WL.rowOne 0 rfl (fun hone0 => ?_)
   refine wv (OV.buildC (qs := [(0, [w])]) (cs := [w, zI 0]) rfl ⟨rfl, x8 hone0, trivial⟩ rfl) ?_
   refine WL.make (MV.box (cs := [w, zI 0]) rfl rfl) rfl rfl rfl (fun b_2' => ?_)
   refine wA ?_
   refine WL.nil ?_
   refine kg (hK_6' [(2, zP b), (3, zP b_1'), (5, zP b_2')] _ ?_)
   refine a7 (fun _ hK_7' => ?_)
   refine a6 ?_
   refine wm ?_
   obtain ⟨o, h⟩ := h
   refine WL.pick (H' := [HA.blk b_2' (.cells [w, zI 0].toArray 55 (0, 0)), HA.row w 102 3 ((e6 text).1).length (((e6 text).1).flatMap g9), pool B, HA.blk b_1' (.cells [zI ((e6 text).2.1), zI ((e6 text).2.2), st []].toArray 26 (0, 0)), HA.blk b (.cells [Value.pointer none].toArray 23 (0, 0))]) [0, 1, 4, 2, 3] rfl rfl ?_
   refine WL.callS aor rfl (aks te fre b_2' w ((e6 text).1) B o) rfl ⟨.inr (List.mem_of_getElem? (i := 0) rfl), trivial⟩ rfl rfl (fun v H' hS => ?_) (fun c H' hS => ?_)
   ·rcases hS with ⟨_, l, e, k, op, B_1', hc, ho⟩ | ⟨ec, ep, k_1', op_1', B_2', hc, ho⟩ <;> cases ho
    replace h := h.1 v l e k op B_1' hc
    refine wv (OV.build rfl (cs := [zI 0, zI 0, st []]) rfl) ?_
    obtain ⟨o_1', h⟩ := h
    refine WL.store (vs := [v]) (cs' := [v]) 4 rfl rfl rfl (x8 o_1') aez (Nat.le_of_ble_eq_true rfl) (f8 o_1' x5) rfl rfl ?_
    refine WL.storeW (vs := [zI 0, zI 0, st []]) 3 rfl rfl rfl rfl rfl n6 rfl rfl rfl ?_
    refine WL.nil ?_
    refine kg (hK_7' [(2, zP b), (3, zP b_1')] _ ?_)
    refine c7 ?_
    exact hE.ret (an6 (A := [HA.blk b (.cells [v].toArray 23 (0, 0)), HA.blk b_1' (.cells [zI 0, zI 0, st []].toArray 26 (0, 0))]) (A' := [HA.blk b (.cells [v].toArray 23 (0, 0)), HA.blk b_1' (.cells [zI 0, zI 0, st []].toArray 26 (0, 0))]) (Rest := [HA.blk b_2' (.cells [j7 w 3 k, zI op].toArray 55 (0, 0)), HA.row w 102 3 ((e6 text).1).length (((e6 text).1).flatMap g9), pool B_1']) [4, 3, 0, 1, 2] rfl rfl ajj (alz b b_1' v 0 0 []) (by intro hx; cases hx) rfl trivial [4] rfl rfl (.inl ⟨_, _, _, _, _, h, rfl⟩) (e9.of2 rfl (RV.cell rfl (At.own 0 rfl) rfl aex) (RV.row rfl (At.own 1 rfl) o8)))
   ·rcases hS with ⟨_, l, e, k, op, B_1', hc, ho⟩ | ⟨ec, ep, k_1', op_1', B_2', hc, ho⟩ <;> cases ho
    replace h := h.2 ec ep k_1' op_1' B_2' hc
    exact hE.pan (an6 (A := [HA.blk b (.cells [Value.pointer none].toArray 23 (0, 0)), HA.blk b_1' (.cells [zI ((e6 text).2.1), zI ((e6 text).2.2), st []].toArray 26 (0, 0))]) (A' := [HA.blk b (.cells [Value.pointer none].toArray 23 (0, 0)), HA.blk b_1' (.cells [zI ec, zI ep, st []].toArray 26 (0, 0))]) (Rest := [HA.blk b_2' (.cells [j7 w 3 k_1', zI op_1'].toArray 55 (0, 0)), HA.row w 102 3 ((e6 text).1).length (((e6 text).1).flatMap g9), pool B_2']) [4, 3, 0, 1, 2] rfl rfl ajj (akt b b_1' (Value.pointer none) ((e6 text).2.1) ((e6 text).2.2) [] ec ep []) (by intro hx; cases hx) rfl trivial [4] rfl rfl (.inl ⟨_, _, _, _, _, h, rfl⟩) (e9.of2 rfl (RV.cell rfl (At.own 0 rfl) rfl aex) (RV.row rfl (At.own 1 rfl) o8)))
 ·obtain ⟨w, ho⟩ := hS
  cases ho
def atm (t : List UInt8) (B : List (Nat × Obj)) (v : Value) (c p : Int) (B2 : List (Nat × Obj)) : Prop :=
 (∃ l a, n0 t = .ok (l, a) ∧ anr B2 v l a ∧ c = 0 ∧ p = 0 ∧ ∀ x ∈ B, x ∈ B2) ∨ (n0 t = .error (c, p) ∧ c ≠ 0 ∧ v = .pointer none)
theorem agd (te : TypeId) (fre : Nat × Nat) (t : List UInt8) (B : List (Nat × Obj)) : d9 Tryd.prog 9 [st t] (ab2 te fre) [pool B]
  (fun o => (∃ l a b w m ds B1 B2, (n0 t = .ok (l, a) ∧ abn B2 b w m ds B1 l a ∧ ∀ x ∈ B, x ∈ B2) ∧ o = .ret (.tuple #[.pointer (some ⟨b, 0, none⟩), .agg [zI 0, zI 0, st []].toArray]) [pool B2]) ∨
   (∃ c p B2, (n0 t = .error (c, p) ∧ c ≠ 0) ∧ o = .ret (.tuple #[.pointer none, .agg [zI c, zI p, st []].toArray]) [pool B2])) := by
 refine (aom te fre t B (fun v c p x B2 => atm t B v c p B2 ∧ x = []) ?_).weak ?_
 ·unfold afj
  by_cases h0 : (e6 t).2.1 = 0
  ·have h1 : (e6 t).2.2 = 0 := anh h0
   rw [if_neg (by rw [h0, h1]; decide)]
   have hp : n0 t = w6 (e6 t).1 := by unfold n0; rw [if_pos h0]
   refine ⟨ait h0, fun v l e _ _ B2 hr => ⟨?_, .inl ⟨l, e, by rw [hp]; exact hr.1, hr.2.1, rfl, rfl, hr.2.2⟩, rfl⟩, fun c p _ _ B2 hr => ⟨.inr ⟨by rw [hp]; exact hr, ahb hr, rfl⟩, rfl⟩⟩
   obtain ⟨b, w, m, ds, B1, rfl, _⟩ := hr.2.1
   rfl
  ·rw [if_pos (by
    show (!(decide ((e6 t).2.1 = 0) && _)) = true
    rw [decide_eq_false h0]; rfl)]
   exact ⟨.inr ⟨by unfold n0; rw [if_neg h0], h0, rfl⟩, rfl⟩
 ·rintro o (⟨v, c, p, x, B2, ⟨⟨l, a, h1, ⟨b, w, m, ds, B1, rfl, h2⟩, rfl, rfl, h3⟩ | ⟨h1, h2, rfl⟩, rfl⟩, rfl⟩ | h)
  ·exact .inl ⟨l, a, b, w, m, ds, B1, B2, ⟨h1, h2, h3⟩, rfl⟩
  ·exact .inr ⟨c, p, B2, ⟨h1, h2⟩, rfl⟩
  ·exact h.elim
end Go.Proofs.YtifajndacnfcbaaDoor
set_option linter.unusedVariables false
namespace Go.Proofs.YtifajndacnfcbaaDoor
open Go Go.Proofs Go.Shelf Go.RowKit
variable {P : Program} {ρ : Ren} {TB : TypeId}
theorem anc {w w' : World} {o : Option Nat} (h : w.grownBy w' o) : w.grownBy w'.drew o := ⟨h.os, h.tape, h.output, h.size, h.block⟩
theorem aki (w : World) (g n : Nat) : w.grownBy (w.drew.freeze ⟨g, 0, none⟩ n) (some g) := by
 unfold World.freeze
 split
 ·exact ⟨rfl, rfl, rfl, Nat.le_refl _, fun _ _ _ => rfl⟩
 ·exact ⟨rfl, rfl, rfl, (by simp only [Array.size_modify]; exact Nat.le_refl _), fun k _ hk => by
   simp only [Array.getElem?_modify]
   rw [if_neg (fun e => hk (by rw [e]))]; rfl⟩
set_option maxHeartbeats 2000000 in
set_option maxRecDepth 100000 in
theorem am3 (L : Lays.n169 P ρ) (X : Builder.Extra P ρ) (b : Nat) (l : List UInt8) (p v : Value) (w : World) (hbk : w.heap[b]? = some (.cells #[p, v] TB (0, 0))) (hown : w.ownsRow 0 (ρ.t 5) 1 v l.length (Lib.byteCells l)) (h0 : l ≠ []) :
  Calls P (ρ.f 169) #[.pointer (some ⟨b, 0, none⟩)] w fun e w' => e = .returned (.string ⟨l.toArray⟩) ∧ ∃ o, w.grownBy w' o ∧ ∀ k, o = some k → v.ownBlock = some k := by
 have hl0 : l.length ≠ 0 := by simpa using h0
 obtain ⟨g, cap, cur, rfl, hbg, hg, hnc, hcm, hcs, htake⟩ : ∃ g cap cur, v = .slice (some ⟨g, 0, none⟩) l.length cap ∧ 0 ≤ g ∧ w.heap[g]? = some (.cells cur (ρ.t 5) (0, 0)) ∧ l.length ≤ cap ∧ cap ≤ maxLen ∧ cur.size = cap * 1 ∧ cur.toList.take (l.length * 1) = Lib.byteCells l := by
  rcases hown.2 with ⟨_, hz⟩ | ⟨g, cap, cur, hv, r⟩
  ·exact absurd hz hl0
  ·exact ⟨g, cap, cur, hv, r⟩
 have c1 : w.drew.cell? ⟨b, 1, none⟩ = some (.slice (some ⟨g, 0, none⟩) l.length cap) := by
  have : w.drew.heap[b]? = some (.cells #[p, .slice (some ⟨g, 0, none⟩) l.length cap] TB (0, 0)) := hbk
  rw [Lib.cell_of_heap this]; rfl
 have hSD : (Builtin.unsafeSliceData_ #[(ρ.t 37)] (ρ.t 127) #[.slice (some ⟨g, 0, none⟩) l.length cap]).run P w.drew = .ok (.pointer (some ⟨g, 0, none⟩)) w.drew :=
  Lib.run_unsafeSliceData_row _ _ _ _ _ _ (by omega)
 have hUS : (Builtin.unsafeString_ #[(ρ.t 127), (ρ.t 3)] (ρ.t 9) #[.pointer (some ⟨g, 0, none⟩), .int .i64 l.length]).run P w.drew = .ok (.string ⟨l.toArray⟩) (w.drew.freeze ⟨g, 0, none⟩ l.length) := by
  refine Lib.run_unsafeString_row w.drew (ρ.t 127) (ρ.t 3) (ρ.t 9) (ρ.t 5) L.t127 X.cellsByte g cur.size (by have hg' : w.drew.heap[g]? = some (.cells cur (ρ.t 5) (0, 0)) := hg; simp [World.shape?, hg']) l h0 (by omega) (by unfold maxLen at hcm; omega) ?_
  intro j x hx
  have := hown.cells (g := g) rfl j (.int .u8 x.toNat) (by simp [Lib.byteCells, hx])
  exact this
 have mixed := L.mixed
 have t72 := L.t72; have a72 := L.a72; have z72 := L.z72; have v72 := L.v72; have u72 := run_underlying L.t72
 have t70 := L.t70; have a70 := L.a70; have z70 := L.z70; have v70 := L.v70; have u70 := run_underlying L.t70
 have t37 := L.t37; have a37 := L.a37; have z37 := L.z37; have v37 := L.v37; have u37 := run_underlying L.t37
 have t127 := L.t127; have a127 := L.a127; have z127 := L.z127; have v127 := L.v127; have u127 := run_underlying L.t127
 have t3 := L.t3; have a3 := L.a3; have z3 := L.z3; have v3 := L.v3; have u3 := run_underlying L.t3
 have t9 := L.t9; have a9 := L.a9; have z9 := L.z9; have v9 := L.v9; have u9 := run_underlying L.t9
 have t5 := X.t5; have a5 := X.a5; have z5 := X.z5; have v5 := X.v5; have u5 := run_underlying X.t5
 go_enter L.f169, Body.n169_ntmps ρ
 go_wp2
 go_region_o
 all_goals (go_wp2; go_ret; exact ⟨rfl, _, aki w g _, fun k hk => by cases hk; rfl⟩)
set_option maxHeartbeats 2000000 in
set_option maxRecDepth 100000 in
theorem ah1 (L : Lays.n169 P ρ) (X : Builder.Extra P ρ) (b : Nat) (p : Value) (w : World) (hbk : w.heap[b]? = some (.cells #[p, .slice none 0 0] TB (0, 0))) :
  Calls P (ρ.f 169) #[.pointer (some ⟨b, 0, none⟩)] w fun e w' => e = .returned (.string ⟨#[]⟩) ∧ ∃ o, w.grownBy w' o ∧ ∀ k, o = some k → False := by
 have hUS := fun (W : World) q => Lib.run_unsafeString_none (P := P) W (ρ.t 127) (ρ.t 3) (ρ.t 9) q
 have c1 : w.drew.cell? ⟨b, 1, none⟩ = some (.slice none 0 0) := by
  have : w.drew.heap[b]? = some (.cells #[p, .slice none 0 0] TB (0, 0)) := hbk
  rw [Lib.cell_of_heap this]; rfl
 have hSD : (Builtin.unsafeSliceData_ #[(ρ.t 37)] (ρ.t 127) #[.slice none 0 0]).run P w.drew = .ok (.pointer none) w.drew := rfl
 have mixed := L.mixed
 have t72 := L.t72; have a72 := L.a72; have z72 := L.z72; have v72 := L.v72; have u72 := run_underlying L.t72
 have t70 := L.t70; have a70 := L.a70; have z70 := L.z70; have v70 := L.v70; have u70 := run_underlying L.t70
 have t37 := L.t37; have a37 := L.a37; have z37 := L.z37; have v37 := L.v37; have u37 := run_underlying L.t37
 have t127 := L.t127; have a127 := L.a127; have z127 := L.z127; have v127 := L.v127; have u127 := run_underlying L.t127
 have t3 := L.t3; have a3 := L.a3; have z3 := L.z3; have v3 := L.v3; have u3 := run_underlying L.t3
 have t9 := L.t9; have a9 := L.a9; have z9 := L.z9; have v9 := L.v9; have u9 := run_underlying L.t9
 have t5 := X.t5; have a5 := X.a5; have z5 := X.z5; have v5 := X.v5; have u5 := run_underlying X.t5
 go_enter L.f169, Body.n169_ntmps ρ
 go_wp2
 go_region_o
 all_goals (go_wp2; go_ret; exact ⟨rfl, none, ⟨rfl, rfl, rfl, Nat.le_refl _, fun _ _ _ => rfl⟩, fun k hk => by cases hk⟩)
set_option maxHeartbeats 2000000 in
set_option maxRecDepth 100000 in
theorem ae8 (L : Lays.n169 P ρ) (X : Builder.Extra P ρ) (b g : Nat) (p : Value) (cur : Array Value) (w : World) (hbk : w.heap[b]? = some (.cells #[p, .slice (some ⟨g, 0, none⟩) 0 0] TB (0, 0))) (hg : w.heap[g]? = some (.cells cur (ρ.t 5) (0, 0))) :
  Calls P (ρ.f 169) #[.pointer (some ⟨b, 0, none⟩)] w fun e w' => e = .returned (.string ⟨#[]⟩) ∧ ∃ o, w.grownBy w' o ∧ ∀ k, o = some k → False := by
 have hUS := fun (W : World) q => Lib.run_unsafeString_none (P := P) W (ρ.t 127) (ρ.t 3) (ρ.t 9) q
 have hlt : b < w.heap.size := by
  rcases Nat.lt_or_ge b w.heap.size with h' | h'
  ·exact h'
  ·simp [Array.getElem?_eq_none h'] at hbk
 have c1 : w.drew.cell? ⟨b, 1, none⟩ = some (.slice (some ⟨g, 0, none⟩) 0 0) := by
  have : w.drew.heap[b]? = some (.cells #[p, .slice (some ⟨g, 0, none⟩) 0 0] TB (0, 0)) := hbk
  rw [Lib.cell_of_heap this]; rfl
 have hSD : (Builtin.unsafeSliceData_ #[(ρ.t 37)] (ρ.t 127) #[.slice (some ⟨g, 0, none⟩) 0 0]).run P w.drew = .ok (.pointer (some ⟨w.drew.heap.size, 0, none⟩)) (w.drew.alloc (.view ⟨g, 0, none⟩ (ρ.t 5))) :=
  Lib.run_unsafeSliceData_zero w.drew _ _ (ρ.t 5) L.t127 ⟨g, 0, none⟩ 0 ((ρ.t 5), cur.size) (by have hg' : w.drew.heap[g]? = some (.cells cur (ρ.t 5) (0, 0)) := hg; simp [World.shape?, hg'])
 have c2 : (w.drew.alloc (.view ⟨g, 0, none⟩ (ρ.t 5))).cell? ⟨b, 1, none⟩ = some (.slice (some ⟨g, 0, none⟩) 0 0) := by
  have : (w.drew.alloc (.view ⟨g, 0, none⟩ (ρ.t 5))).heap[b]? = _ := (Lib.alloc_old w.drew _ b hlt).trans hbk
  rw [Lib.cell_of_heap this]; rfl
 have c3 : (w.alloc (.view ⟨g, 0, none⟩ (ρ.t 5))).drew.cell? ⟨b, 1, none⟩ = some (.slice (some ⟨g, 0, none⟩) 0 0) := c2
 have c0 : w.cell? ⟨b, 1, none⟩ = some (.slice (some ⟨g, 0, none⟩) 0 0) := c1
 have mixed := L.mixed
 have t72 := L.t72; have a72 := L.a72; have z72 := L.z72; have v72 := L.v72; have u72 := run_underlying L.t72
 have t70 := L.t70; have a70 := L.a70; have z70 := L.z70; have v70 := L.v70; have u70 := run_underlying L.t70
 have t37 := L.t37; have a37 := L.a37; have z37 := L.z37; have v37 := L.v37; have u37 := run_underlying L.t37
 have t127 := L.t127; have a127 := L.a127; have z127 := L.z127; have v127 := L.v127; have u127 := run_underlying L.t127
 have t3 := L.t3; have a3 := L.a3; have z3 := L.z3; have v3 := L.v3; have u3 := run_underlying L.t3
 have t9 := L.t9; have a9 := L.a9; have z9 := L.z9; have v9 := L.v9; have u9 := run_underlying L.t9
 have t5 := X.t5; have a5 := X.a5; have z5 := X.z5; have v5 := X.v5; have u5 := run_underlying X.t5
 go_enter L.f169, Body.n169_ntmps ρ
 go_wp2
 go_region_o
 all_goals (go_wp2; go_ret; exact ⟨rfl, none, anc (World.grownBy_alloc w _ none), fun k hk => by cases hk⟩)
set_option maxHeartbeats 2000000 in
set_option maxRecDepth 100000 in
theorem agj (L : Lays.n169 P ρ) (X : Builder.Extra P ρ) (b g cap : Nat) (p : Value) (w : World) (hc0 : cap ≠ 0) (hbk : w.heap[b]? = some (.cells #[p, .slice (some ⟨g, 0, none⟩) 0 cap] TB (0, 0))) :
  Calls P (ρ.f 169) #[.pointer (some ⟨b, 0, none⟩)] w fun e w' => e = .returned (.string ⟨#[]⟩) ∧ ∃ o, w.grownBy w' o ∧ ∀ k, o = some k → False := by
 have hUS := fun (W : World) q => Lib.run_unsafeString_none (P := P) W (ρ.t 127) (ρ.t 3) (ρ.t 9) q
 have c1 : w.drew.cell? ⟨b, 1, none⟩ = some (.slice (some ⟨g, 0, none⟩) 0 cap) := by
  have : w.drew.heap[b]? = some (.cells #[p, .slice (some ⟨g, 0, none⟩) 0 cap] TB (0, 0)) := hbk
  rw [Lib.cell_of_heap this]; rfl
 have hSD : (Builtin.unsafeSliceData_ #[(ρ.t 37)] (ρ.t 127) #[.slice (some ⟨g, 0, none⟩) 0 cap]).run P w.drew = .ok (.pointer (some ⟨g, 0, none⟩)) w.drew :=
  Lib.run_unsafeSliceData_row _ _ _ _ _ _ hc0
 clear hc0
 have mixed := L.mixed
 have t72 := L.t72; have a72 := L.a72; have z72 := L.z72; have v72 := L.v72; have u72 := run_underlying L.t72
 have t70 := L.t70; have a70 := L.a70; have z70 := L.z70; have v70 := L.v70; have u70 := run_underlying L.t70
 have t37 := L.t37; have a37 := L.a37; have z37 := L.z37; have v37 := L.v37; have u37 := run_underlying L.t37
 have t127 := L.t127; have a127 := L.a127; have z127 := L.z127; have v127 := L.v127; have u127 := run_underlying L.t127
 have t3 := L.t3; have a3 := L.a3; have z3 := L.z3; have v3 := L.v3; have u3 := run_underlying L.t3
 have t9 := L.t9; have a9 := L.a9; have z9 := L.z9; have v9 := L.v9; have u9 := run_underlying L.t9
 have t5 := X.t5; have a5 := X.a5; have z5 := X.z5; have v5 := X.v5; have u5 := run_underlying X.t5
 go_enter L.f169, Body.n169_ntmps ρ
 go_wp2
 go_region_o
 all_goals (go_wp2; go_ret; exact ⟨rfl, none, ⟨rfl, rfl, rfl, Nat.le_refl _, fun _ _ _ => rfl⟩, fun k hk => by cases hk⟩)
theorem ahl (L : Lays.n169 P ρ) (X : Builder.Extra P ρ) (b : Nat) (l : List UInt8) (p v : Value) (w : World) (hbk : w.heap[b]? = some (.cells #[p, v] TB (0, 0))) (hown : w.ownsRow 0 (ρ.t 5) 1 v l.length (Lib.byteCells l)) :
  Calls P (ρ.f 169) #[.pointer (some ⟨b, 0, none⟩)] w fun e w' => e = .returned (.string ⟨l.toArray⟩) ∧ ∃ o, w.grownBy w' o ∧ ∀ k, o = some k → v.ownBlock = some k := by
 by_cases h0 : l = []
 ·subst h0
  have weak : ∀ {e : Ending} {w' : World}, (e = .returned (.string ⟨#[]⟩) ∧ ∃ o, w.grownBy w' o ∧ ∀ k, o = some k → False) → e = .returned (.string ⟨([] : List UInt8).toArray⟩) ∧ ∃ o, w.grownBy w' o ∧ ∀ k, o = some k → v.ownBlock = some k :=
   fun ⟨h1, o, h2, h3⟩ => ⟨h1, o, h2, fun k hk => (h3 k hk).elim⟩
  rcases hown.2 with ⟨rfl, _⟩ | ⟨g, cap, cur, rfl, hbg, hg, _, _, _, _⟩
  ·exact (ah1 L X b p w hbk).mono fun _ _ h => weak h
  ·by_cases hc0 : cap = 0
   ·subst hc0
    exact (ae8 L X b g p cur w hbk hg).mono fun _ _ h => weak h
   ·exact (agj L X b g cap p w hc0 hbk).mono fun _ _ h => weak h
 ·exact am3 L X b l p v w hbk hown h0
theorem alr (L : Lays.n169 P ρ) (X : Builder.Extra P ρ) (b : Nat) (l : List UInt8) : d9 P (ρ.f 169) [.pointer (some ⟨b, 0, none⟩)] [] [bld TB (ρ.t 5) b l] (Ret (st l) []) := by
 intro w M hO hn hlt hR
 obtain ⟨F1, F2, rfl, ⟨q, v, hq, rfl, hb, hr⟩, h2⟩ := hO
 have : F2 = [] := h2
 subst this
 have hbc : Lib.byteCells l = l.flatMap k6 := by rw [afz]; rfl
 refine (ahl L X b l q v w hb (by rw [hbc]; exact hr)).mono ?_
 rintro e w' ⟨rfl, o, hg, ho⟩
 refine ⟨[], .inl ⟨_, rfl, rfl⟩, hg.os, hg.tape, hg.output, hg.size, fun k hk hM => hg.block k hk fun e => hM ?_, hR, [], rfl, List.nodup_nil, fun k hk => by cases hk⟩
 simp [ho k e.symm]
end Go.Proofs.YtifajndacnfcbaaDoor
namespace Go.Proofs.YtifajndacnfcbaaDoor
open Go Go.RowKit
section
variable {P : Program} {ops : Array Oper} {Q : Exit → Act → World → Prop} {C : Cx} {L : Sl} {H : List HA} {rest : List Oper}
theorem af7 {f : FuncId} {fn : Func} {c : Code} {args : List Value} {R : List (Nat × Obj)} {A : List HA} {S : Out → Prop} {L0 : Sl} {n : Nat} {u : FrameMode} (hf : P.funcs[f]? = some fn) (hb : fn.body = some c) (hnt : fn.ntmps = n) (hl : Nat.ble args.length n = true)
  (hL : (List.range args.length).zip args = L0)
  (h : ∀ w0 M Q, Ends P fn ⟨n, [], w0, M, R⟩ S Q → WC P c Q ⟨n, [], w0, M, R⟩ L0 A) : x9 P f args u u R A S := by
 intro w M hO hn hlt hR
 subst hnt
 have hle : args.length ≤ fn.ntmps := Nat.le_of_ble_eq_true hl
 refine callsD_of_wp hf hb (R := fun e w' => ∃ H', aen S e H' ∧ Hp ⟨0, [], w, M, R⟩ H' w') ?_
 refine h w M _ ?_ _ _ ⟨rfl, ?_, ?_⟩ (Hp.start _ _ w hO hn hlt hR)
 ·refine ⟨fun idx hi he hS hr a w' hfr hp => ?_, fun idx hi he hS hr a w' hfr hp => ?_, fun idx hi he hS a w' hfr hp => ?_⟩
  ·exact ⟨hfr.defers, _, hr a w' hfr hp, _, .inl ⟨_, rfl, hS⟩, he ▸ (hp.pick idx hi).ctx⟩
  ·exact ⟨hfr.defers, _, hr a w' hfr hp, _, .inl ⟨_, rfl, hS⟩, he ▸ (hp.pick idx hi).ctx⟩
  ·exact ⟨hfr.defers, _, .inr ⟨_, rfl, hS⟩, he ▸ (hp.pick idx hi).ctx⟩
 ·simp; omega
 ·intro i v hg
  subst hL
  have hm := Sl.get_mem hg
  obtain ⟨j, hj⟩ := List.mem_iff_getElem?.1 hm
  rw [List.getElem?_zip_eq_some] at hj
  obtain ⟨h1, h2⟩ := hj
  have hij : j = i := by
   have h3 := (List.getElem?_eq_some_iff.1 h1)
   obtain ⟨h4, h5⟩ := h3
   simp at h5; exact h5
  subst hij
  have hjl : j < args.length := (List.getElem?_eq_some_iff.1 h2).1
  simp only [List.size_toArray]
  rw [Array.getElem?_append_left (by simpa using hjl)]
  simpa using h2
section
variable {f : FuncId} {args : List Value} {R : List (Nat × Obj)} {S : Out → Prop} {r : Value} {A A' : List HA} {u u' : FrameMode} {T e' : TypeId} {b : Nat} {l : List UInt8}
theorem x9.openBld (h : ∀ q v, (q = .pointer none ∨ q = .pointer (some ⟨b, 0, none⟩)) → x9 P f args u u' R (.blk b (.cells [q, v].toArray T (0, 0)) :: .row v e' 1 l.length (l.flatMap k6) :: A) S) : x9 P f args u u' R (bld T e' b l :: A) S := fun w M hO hn hl hR => by
 obtain ⟨q, v, hq, hO'⟩ := hO.openBld
 exact h q v hq w M hO' hn hl hR
theorem x9.closeBld (h : x9 P f args u u' R A (fun o => ∃ q v, (q = .pointer none ∨ q = .pointer (some ⟨b, 0, none⟩)) ∧ o = .ret r (.blk b (.cells [q, v].toArray T (0, 0)) :: .row v e' 1 l.length (l.flatMap k6) :: A'))) : x9 P f args u u' R A (Ret r (bld T e' b l :: A')) := fun w M hO hn hl hR => by
 refine (h w M hO hn hl hR).mono ?_
 rintro en u2 w' ⟨hu, H', hS, hp⟩
 rcases hS with ⟨r, rfl, q, v, hq, ho⟩ | ⟨c, rfl, q, v, hq, ho⟩
 ·cases ho
  exact ⟨hu, _, .inl ⟨_, rfl, rfl⟩, hp.closeBld hq⟩
 ·cases ho
end
theorem WL.deferA {f : FuncId} {xs : List Operand} {vs : List Value} {ats : Array TypeId} {ty : TypeId} {p : String} {e : Array Edge} (hx : evs L xs = some vs)
  (h : WL P ops Q { C with D := ⟨.fn (.func f) #[], vs.toArray⟩ :: C.D } L H rest) : WL P ops Q C L H (⟨none, .defer ⟨.value (.func f), xs.toArray, ats⟩, ty, p, e, none⟩ :: rest) := by
 intro a w hf hp
 refine o0 (by simp [Region.wanted]) ?_
 unfold Oper.wp
 have : (execOp a.eval ⟨none, .defer ⟨.value (.func f), xs.toArray, ats⟩, ty, p, e, none⟩).run P w = .ok (.defer ⟨.fn (.func f) #[], vs.toArray⟩) w := by
  have h1 := adh hf hx
  have h2 : a.eval (.func f) = .func (.func f) #[] #[] := rfl
  simp only [execOp, resolve, h2, Deferred.ofValue]
  simp [h1]
 rw [this]
 simp only [Oper.upon, Act.put]
 exact h _ _ ⟨by simp [hf.defers], hf.size, hf.get⟩ hp.ctx
theorem an1 {fn : Func} {n : Nat} {w0 : World} {M : List Nat} {R R' : List (Nat × Obj)} {S : Out → Prop} {H' A A' Rest : List HA} {v vc : Value} {f : FuncId} {vs : List Value} {H : List HA} (idx0 : List Nat) (hi0 : o6 idx0 = true) (hH : sel H idx0 = A ++ Rest)
  (hent : l6 P f = true) (hc : x9 P f vs .returning .returning R' A (Ret vc A')) (hR : ROk ⟨n, [⟨.fn (.func f) #[], vs.toArray⟩], w0, M, R⟩ Rest R')
  (idx : List Nat) (hi : o6 idx = true) (he : sel (A' ++ Rest) idx = H') (hS : S (.ret v H')) (hr : e9 P fn ⟨n, [⟨.fn (.func f) #[], vs.toArray⟩], w0, M, R⟩ L (A' ++ Rest) v) :
  ∀ a w, Fr ⟨n, [⟨.fn (.func f) #[], vs.toArray⟩], w0, M, R⟩ L a → Hp ⟨n, [⟨.fn (.func f) #[], vs.toArray⟩], w0, M, R⟩ H w → Leaves P fn a.tmps (fun e w' => ∃ H', aen S e H' ∧ Hp ⟨0, [], w0, M, R⟩ H' w') [⟨.fn (.func f) #[], vs.toArray⟩] .returning w := by
 intro a w hf hp
 have hp := hH ▸ hp.pick idx0 hi0
 refine ⟨(by intro h; cases h), .func f, #[], f, vs.toArray, rfl, by simp [invoke, ad8 hent], ?_⟩
 obtain ⟨F, h1, h2, h3⟩ := hp.own
 obtain ⟨F1, F2, rfl, hA, hB⟩ := h1.split
 have hnd := List.nodup_append.1 h2
 refine (hc w F1 hA hnd.1 (fun k hk => (h3 k (List.mem_append.2 (.inl hk))).1) ?_).mono ?_
 ·intro q hq
  rcases hR.all q hq with ⟨i, hi⟩ | hm
  ·refine ⟨hp.blk (i := A.length + i) (by rw [List.getElem?_append_right (by omega)]; simpa using hi), fun hm => ?_⟩
   exact hnd.2.2 q.1 hm q.1 (hB.mem_blk hi) rfl
  ·refine ⟨hp.old hm, fun hk => ?_⟩
   have hro := hp.ro q hm
   have hlt := x3 hro.1
   rcases (h3 q.1 (List.mem_append.2 (.inl hk))).2 with h4 | h4
   ·omega
   ·exact hro.2 h4
 ·rintro en u'' w' ⟨rfl, H'', hS', hh⟩
  rcases hS' with ⟨r, rfl, hS'⟩ | ⟨c, rfl, hS'⟩
  ·cases hS'
   have hp' := hp.call hB h2 h3 hh
   exact ⟨v, hr a w' hf hp', _, .inl ⟨_, rfl, hS⟩, he ▸ (hp'.pick idx hi).ctx⟩
  ·cases hS'
theorem ROk.of {Rest : List HA} : ∀ {R : List (Nat × Obj)}, (∀ q ∈ R, q ∈ C.R) → ROk C Rest R
 | [], _ => trivial
 | q :: _, h => ⟨.inr (h q List.mem_cons_self), ROk.of fun x hx => h x (List.mem_cons_of_mem _ hx)⟩
end
end Go.Proofs.YtifajndacnfcbaaDoor
set_option maxRecDepth 100000
namespace Go.Proofs.YtifajndacnfcbaaDoor
open Go Go.RowKit
theorem aau : g0 Tryd.prog 88 0 = some 0 := by kernel_rfl
theorem ae2 : aaf Tryd.prog 85 = true := by kernel_rfl
theorem alk : ((Tryd.prog.info? 88).map (fun i => i.size != 0)) = some true := by kernel_rfl
theorem ai1 : (Tryd.prog.info? 88).isSome = true := by kernel_rfl
theorem aif : liesAt Tryd.prog Tryd.prog.depth 90 (2 / Tryd.prog.cellsOf 90) 0 88 1 = true := by kernel_rfl
theorem amh : n8 Tryd.prog 85 1 = true := by kernel_rfl
theorem aea : l6 Tryd.prog 54 = true := by kernel_rfl
theorem p6 : g0 Tryd.prog 88 1 = some 1 := by kernel_rfl
theorem acr : aaf Tryd.prog 86 = true := by kernel_rfl
theorem aar : aqv Tryd.prog 5 := by unfold aqv; kernel_rfl
theorem adb : n8 Tryd.prog 86 1 = true := by kernel_rfl
def aql (b_1'_1 : Value) (K : Value → Prop) : Prop :=
 K b_1'_1
theorem ate (b : Nat) (b_1'_1 : Value) (K : Value → Prop) (h : aql b_1'_1 K) :
  d9 Tryd.prog 54 [zP b] [] [HA.blk b (.cells [Value.pointer none, b_1'_1].toArray 90 (0, 0))] (fun o => (∃ (d : Value), K d ∧ o = .ret (Value.tuple #[]) [HA.blk b (.cells [zP b, d].toArray 90 (0, 0))]) ∨ (False)) := by
 unfold aql at h
 refine b9 (n := 20) (L0 := [(0, zP b)]) Tryd.func54 rfl rfl rfl rfl (fun w0 M Q hE => ?_)
 refine a7 (fun _ hK => ?_)
 refine a6 ?_
 refine wm ?_
 refine wv (OV.nilCheck rfl) ?_
 refine wv (OV.fieldAddr0 rfl aau) ?_
 refine wv (OV.load rfl (At.own 0 rfl) rfl ae2) ?_
 refine wv (OV.eqlPN rfl rfl Tryd.underlying85) ?_
 refine WL.nil ?_
 refine kg (hK [(0, zP b), (6, zB true)] _ ?_)
 refine h8 rfl ?_
 refine a6 ?_
 refine wm ?_
 refine wm ?_
 refine wv (OV.toUnsafe rfl (At.own 0 rfl) Tryd.underlying85 Tryd.underlying119 alk rfl) ?_
 refine wv (OV.noEscape rfl Tryd.func70 (by kernel_rfl) (by kernel_rfl) (by kernel_rfl) (by kernel_rfl)) ?_
 refine wv (OV.fromUnsafe rfl (At.own 0 rfl) Tryd.underlying119 Tryd.underlying85 ai1 aif) ?_
 refine wv (OV.nilCheck rfl) ?_
 refine wv (OV.fieldAddr0 rfl aau) ?_
 refine WL.store (vs := [zP b]) (cs' := [zP b, b_1'_1]) 0 rfl rfl rfl rfl amh (Nat.le_of_ble_eq_true rfl) rfl rfl rfl ?_
 refine WL.nil ?_
 exact hE.norm [0] rfl rfl (.inl ⟨_, h, rfl⟩) (e9.none rfl)
def aq7 (b_1'_1 : Value) (K : Value → Prop) : Prop :=
 K b_1'_1
theorem ati (b : Nat) (b_1'_1 : Value) (K : Value → Prop) (h : aq7 b_1'_1 K) :
  d9 Tryd.prog 54 [zP b] [] [HA.blk b (.cells [zP b, b_1'_1].toArray 90 (0, 0))] (fun o => (∃ (d : Value), K d ∧ o = .ret (Value.tuple #[]) [HA.blk b (.cells [zP b, d].toArray 90 (0, 0))]) ∨ (False)) := by
 unfold aq7 at h
 refine b9 (n := 20) (L0 := [(0, zP b)]) Tryd.func54 rfl rfl rfl rfl (fun w0 M Q hE => ?_)
 refine a7 (fun _ hK => ?_)
 refine a6 ?_
 refine wm ?_
 refine wv (OV.nilCheck rfl) ?_
 refine wv (OV.fieldAddr0 rfl aau) ?_
 refine wv (OV.load rfl (At.own 0 rfl) rfl ae2) ?_
 refine wv (OV.eqlPN rfl rfl Tryd.underlying85) ?_
 refine WL.nil ?_
 refine kg (hK [(0, zP b), (6, zB false)] _ ?_)
 refine d7 rfl ?_
 refine a7 (fun _ hK_1' => ?_)
 refine a6 ?_
 refine wm ?_
 refine wv (OV.nilCheck rfl) ?_
 refine wv (OV.fieldAddr0 rfl aau) ?_
 refine wv (OV.load rfl (At.own 0 rfl) rfl ae2) ?_
 refine wm ?_
 refine wv (OV.neqPS rfl rfl Tryd.underlying85 ai1) ?_
 refine WL.nil ?_
 refine kg (hK_1' [(19, zB false)] _ ?_)
 refine d7 rfl ?_
 refine b7 ?_
 exact hE.norm [0] rfl rfl (.inl ⟨_, h, rfl⟩) (e9.none rfl)
theorem ak5 (b : Nat) (v : Value) : d9 Tryd.prog 54 [.pointer (some ⟨b, 0, none⟩)] [] [.blk b (.cells [.pointer none, v].toArray 90 (0, 0))] (Ret (.tuple #[]) [.blk b (.cells [.pointer (some ⟨b, 0, none⟩), v].toArray 90 (0, 0))]) :=
 (ate b v (fun u => u = v) rfl).weak fun o ho => by
  rcases ho with ⟨d, rfl, rfl⟩ | h
  ·rfl
  ·exact h.elim
theorem alc (b : Nat) (v : Value) : d9 Tryd.prog 54 [.pointer (some ⟨b, 0, none⟩)] [] [.blk b (.cells [.pointer (some ⟨b, 0, none⟩), v].toArray 90 (0, 0))] (Ret (.tuple #[]) [.blk b (.cells [.pointer (some ⟨b, 0, none⟩), v].toArray 90 (0, 0))]) :=
 (ati b v (fun u => u = v) rfl).weak fun o ho => by
  rcases ho with ⟨d, rfl, rfl⟩ | h
  ·rfl
  ·exact h.elim
def arg (bl : List UInt8) (s : List UInt8) (K : Int → Value → (List UInt8) → Prop) : Prop :=
 (bl.length + s.length ≤ 140737488355328) ∧
 K (s.length : Int) Value.nilIface (bl ++ s)
theorem as9 (b : Nat) (w : Value) (bl : List UInt8) (s : List UInt8) (K : Int → Value → (List UInt8) → Prop) (h : arg bl s K) :
  d9 Tryd.prog 30 [zP b, st s] [] [HA.blk b (.cells [Value.pointer none, w].toArray 90 (0, 0)), HA.row w 5 1 bl.length (bl.flatMap k6)] (fun o => (∃ (v : Int) (v_1' : Value) (w_2' : Value) (d : List UInt8), K v v_1' d ∧ o = .ret (Value.tuple #[zI v, v_1']) [HA.blk b (.cells [zP b, w_2'].toArray 90 (0, 0)), HA.row w_2' 5 1 d.length (d.flatMap k6)]) ∨ (False)) := by
 unfold arg at h
 refine b9 (n := 19) (L0 := [(0, zP b), (1, st s)]) Tryd.func30 rfl rfl rfl rfl (fun w0 M Q hE => ?_)
 refine a7 (fun _ hK => ?_)
 refine a6 ?_
 refine wA ?_
 refine wA ?_
 refine WL.nil ?_
 refine kg (hK [(0, zP b), (1, st s)] _ ?_)
 refine a7 (fun _ hK_1' => ?_)
 refine a6 ?_
 refine wm ?_
 refine WL.call aea rfl (ak5 b _) rfl trivial rfl rfl ?_
 refine WL.nil ?_
 refine kg (hK_1' [(0, zP b), (1, st s)] _ ?_)
 refine a7 (fun _ hK_2' => ?_)
 refine a6 ?_
 refine wm ?_
 refine wm ?_
 refine wv (OV.nilCheck rfl) ?_
 refine wv (OV.fieldAddr0 rfl p6) ?_
 refine wv (OV.load rfl (At.own 0 rfl) rfl acr) ?_
 refine wm ?_
 obtain ⟨o, h⟩ := h
 refine WL.appendS (m := s) 1 rfl rfl rfl l4 c9 aar o rfl rfl (fun w_1' => ?_)
 refine wv (OV.nilCheck rfl) ?_
 refine wv (OV.fieldAddr0 rfl p6) ?_
 refine WL.storeSl (cs' := [zP b, w_1']) 0 1 rfl rfl rfl rfl adb (Nat.le_of_ble_eq_true rfl) rfl rfl ?_
 refine WL.nil ?_
 refine kg (hK_2' [(1, st s)] _ ?_)
 refine a7 (fun _ hK_3' => ?_)
 refine a6 ?_
 refine wm ?_
 refine wv (OV.len rfl c9) ?_
 refine wA ?_
 refine wA ?_
 refine WL.nil ?_
 refine kg (hK_3' [(4, zI (s.length : Int)), (5, Value.nilIface)] _ ?_)
 refine c7 ?_
 exact hE.ret [0, 1] rfl rfl (.inl ⟨_, _, _, _, h, rfl⟩) (e9.of2 rfl (RV.tmp rfl) (RV.tmp rfl))
def aqz (bl : List UInt8) (s : List UInt8) (K : Int → Value → (List UInt8) → Prop) : Prop :=
 (bl.length + s.length ≤ 140737488355328) ∧
 K (s.length : Int) Value.nilIface (bl ++ s)
theorem as5 (b : Nat) (w : Value) (bl : List UInt8) (s : List UInt8) (K : Int → Value → (List UInt8) → Prop) (h : aqz bl s K) :
  d9 Tryd.prog 30 [zP b, st s] [] [HA.blk b (.cells [zP b, w].toArray 90 (0, 0)), HA.row w 5 1 bl.length (bl.flatMap k6)] (fun o => (∃ (v : Int) (v_1' : Value) (w_2' : Value) (d : List UInt8), K v v_1' d ∧ o = .ret (Value.tuple #[zI v, v_1']) [HA.blk b (.cells [zP b, w_2'].toArray 90 (0, 0)), HA.row w_2' 5 1 d.length (d.flatMap k6)]) ∨ (False)) := by
 unfold aqz at h
 refine b9 (n := 19) (L0 := [(0, zP b), (1, st s)]) Tryd.func30 rfl rfl rfl rfl (fun w0 M Q hE => ?_)
 refine a7 (fun _ hK => ?_)
 refine a6 ?_
 refine wA ?_
 refine wA ?_
 refine WL.nil ?_
 refine kg (hK [(0, zP b), (1, st s)] _ ?_)
 refine a7 (fun _ hK_1' => ?_)
 refine a6 ?_
 refine wm ?_
 refine WL.call aea rfl (alc b _) rfl trivial rfl rfl ?_
 refine WL.nil ?_
 refine kg (hK_1' [(0, zP b), (1, st s)] _ ?_)
 refine a7 (fun _ hK_2' => ?_)
 refine a6 ?_
 refine wm ?_
 refine wm ?_
 refine wv (OV.nilCheck rfl) ?_
 refine wv (OV.fieldAddr0 rfl p6) ?_
 refine wv (OV.load rfl (At.own 0 rfl) rfl acr) ?_
 refine wm ?_
 obtain ⟨o, h⟩ := h
 refine WL.appendS (m := s) 1 rfl rfl rfl l4 c9 aar o rfl rfl (fun w_1' => ?_)
 refine wv (OV.nilCheck rfl) ?_
 refine wv (OV.fieldAddr0 rfl p6) ?_
 refine WL.storeSl (cs' := [zP b, w_1']) 0 1 rfl rfl rfl rfl adb (Nat.le_of_ble_eq_true rfl) rfl rfl ?_
 refine WL.nil ?_
 refine kg (hK_2' [(1, st s)] _ ?_)
 refine a7 (fun _ hK_3' => ?_)
 refine a6 ?_
 refine wm ?_
 refine wv (OV.len rfl c9) ?_
 refine wA ?_
 refine wA ?_
 refine WL.nil ?_
 refine kg (hK_3' [(4, zI (s.length : Int)), (5, Value.nilIface)] _ ?_)
 refine c7 ?_
 exact hE.ret [0, 1] rfl rfl (.inl ⟨_, _, _, _, h, rfl⟩) (e9.of2 rfl (RV.tmp rfl) (RV.tmp rfl))
def aq8 (bl : List UInt8) (s : List UInt8) (K : Int → Value → (List UInt8) → Prop) : Prop :=
 (bl.length + s.length ≤ 140737488355328) ∧
 K (s.length : Int) Value.nilIface (bl ++ s)
theorem as6 (b : Nat) (w : Value) (bl : List UInt8) (s : List UInt8) (K : Int → Value → (List UInt8) → Prop) (h : aq8 bl s K) :
  x9 Tryd.prog 30 [zP b, st s] .returning .returning [] [HA.blk b (.cells [Value.pointer none, w].toArray 90 (0, 0)), HA.row w 5 1 bl.length (bl.flatMap k6)] (fun o => (∃ (v : Int) (v_1' : Value) (w_2' : Value) (d : List UInt8), K v v_1' d ∧ o = .ret (Value.tuple #[zI v, v_1']) [HA.blk b (.cells [zP b, w_2'].toArray 90 (0, 0)), HA.row w_2' 5 1 d.length (d.flatMap k6)]) ∨ (False)) := by
 unfold aq8 at h
 refine af7 (n := 19) (L0 := [(0, zP b), (1, st s)]) Tryd.func30 rfl rfl rfl rfl (fun w0 M Q hE => ?_)
 refine a7 (fun _ hK => ?_)
 refine a6 ?_
 refine wA ?_
 refine wA ?_
 refine WL.nil ?_
 refine kg (hK [(0, zP b), (1, st s)] _ ?_)
 refine a7 (fun _ hK_1' => ?_)
 refine a6 ?_
 refine wm ?_
 refine WL.call aea rfl (ak5 b _) rfl trivial rfl rfl ?_
 refine WL.nil ?_
 refine kg (hK_1' [(0, zP b), (1, st s)] _ ?_)
 refine a7 (fun _ hK_2' => ?_)
 refine a6 ?_
 refine wm ?_
 refine wm ?_
 refine wv (OV.nilCheck rfl) ?_
 refine wv (OV.fieldAddr0 rfl p6) ?_
 refine wv (OV.load rfl (At.own 0 rfl) rfl acr) ?_
 refine wm ?_
 obtain ⟨o, h⟩ := h
 refine WL.appendS (m := s) 1 rfl rfl rfl l4 c9 aar o rfl rfl (fun w_1' => ?_)
 refine wv (OV.nilCheck rfl) ?_
 refine wv (OV.fieldAddr0 rfl p6) ?_
 refine WL.storeSl (cs' := [zP b, w_1']) 0 1 rfl rfl rfl rfl adb (Nat.le_of_ble_eq_true rfl) rfl rfl ?_
 refine WL.nil ?_
 refine kg (hK_2' [(1, st s)] _ ?_)
 refine a7 (fun _ hK_3' => ?_)
 refine a6 ?_
 refine wm ?_
 refine wv (OV.len rfl c9) ?_
 refine wA ?_
 refine wA ?_
 refine WL.nil ?_
 refine kg (hK_3' [(4, zI (s.length : Int)), (5, Value.nilIface)] _ ?_)
 refine c7 ?_
 exact hE.ret [0, 1] rfl rfl (.inl ⟨_, _, _, _, h, rfl⟩) (e9.of2 rfl (RV.tmp rfl) (RV.tmp rfl))
def aqt (bl : List UInt8) (s : List UInt8) (K : Int → Value → (List UInt8) → Prop) : Prop :=
 (bl.length + s.length ≤ 140737488355328) ∧
 K (s.length : Int) Value.nilIface (bl ++ s)
theorem ata (b : Nat) (w : Value) (bl : List UInt8) (s : List UInt8) (K : Int → Value → (List UInt8) → Prop) (h : aqt bl s K) :
  x9 Tryd.prog 30 [zP b, st s] .returning .returning [] [HA.blk b (.cells [zP b, w].toArray 90 (0, 0)), HA.row w 5 1 bl.length (bl.flatMap k6)] (fun o => (∃ (v : Int) (v_1' : Value) (w_2' : Value) (d : List UInt8), K v v_1' d ∧ o = .ret (Value.tuple #[zI v, v_1']) [HA.blk b (.cells [zP b, w_2'].toArray 90 (0, 0)), HA.row w_2' 5 1 d.length (d.flatMap k6)]) ∨ (False)) := by
 unfold aqt at h
 refine af7 (n := 19) (L0 := [(0, zP b), (1, st s)]) Tryd.func30 rfl rfl rfl rfl (fun w0 M Q hE => ?_)
 refine a7 (fun _ hK => ?_)
 refine a6 ?_
 refine wA ?_
 refine wA ?_
 refine WL.nil ?_
 refine kg (hK [(0, zP b), (1, st s)] _ ?_)
 refine a7 (fun _ hK_1' => ?_)
 refine a6 ?_
 refine wm ?_
 refine WL.call aea rfl (alc b _) rfl trivial rfl rfl ?_
 refine WL.nil ?_
 refine kg (hK_1' [(0, zP b), (1, st s)] _ ?_)
 refine a7 (fun _ hK_2' => ?_)
 refine a6 ?_
 refine wm ?_
 refine wm ?_
 refine wv (OV.nilCheck rfl) ?_
 refine wv (OV.fieldAddr0 rfl p6) ?_
 refine wv (OV.load rfl (At.own 0 rfl) rfl acr) ?_
 refine wm ?_
 obtain ⟨o, h⟩ := h
 refine WL.appendS (m := s) 1 rfl rfl rfl l4 c9 aar o rfl rfl (fun w_1' => ?_)
 refine wv (OV.nilCheck rfl) ?_
 refine wv (OV.fieldAddr0 rfl p6) ?_
 refine WL.storeSl (cs' := [zP b, w_1']) 0 1 rfl rfl rfl rfl adb (Nat.le_of_ble_eq_true rfl) rfl rfl ?_
 refine WL.nil ?_
 refine kg (hK_2' [(1, st s)] _ ?_)
 refine a7 (fun _ hK_3' => ?_)
 refine a6 ?_
 refine wm ?_
 refine wv (OV.len rfl c9) ?_
 refine wA ?_
 refine wA ?_
 refine WL.nil ?_
 refine kg (hK_3' [(4, zI (s.length : Int)), (5, Value.nilIface)] _ ?_)
 refine c7 ?_
 exact hE.ret [0, 1] rfl rfl (.inl ⟨_, _, _, _, h, rfl⟩) (e9.of2 rfl (RV.tmp rfl) (RV.tmp rfl))
theorem f0 (b : Nat) (l s : List UInt8) (hb : l.length + s.length ≤ 140737488355328) : d9 Tryd.prog 30 [.pointer (some ⟨b, 0, none⟩), st s] [] [bld 90 5 b l]
  (Ret (.tuple #[.int .i64 (s.length : Int), .nilIface]) [bld 90 5 b (l ++ s)]) := by
 refine d9.openBld fun q v hq => d9.closeBld ?_
 rcases hq with rfl | rfl
 ·refine (as9 b v l s (fun n u d => n = (s.length : Int) ∧ u = .nilIface ∧ d = l ++ s) ⟨hb, rfl, rfl, rfl⟩).weak fun o ho => ?_
  rcases ho with ⟨n, u, w, d, ⟨rfl, rfl, rfl⟩, rfl⟩ | h
  ·exact ⟨_, w, .inr rfl, rfl⟩
  ·exact h.elim
 ·refine (as5 b v l s (fun n u d => n = (s.length : Int) ∧ u = .nilIface ∧ d = l ++ s) ⟨hb, rfl, rfl, rfl⟩).weak fun o ho => ?_
  rcases ho with ⟨n, u, w, d, ⟨rfl, rfl, rfl⟩, rfl⟩ | h
  ·exact ⟨_, w, .inr rfl, rfl⟩
  ·exact h.elim
theorem ala (b : Nat) (l : List UInt8) : d9 Tryd.prog 32 [.pointer (some ⟨b, 0, none⟩)] [] [bld 90 5 b l] (Ret (st l) []) := alr Tryd.lays169 Tryd.Builder_Extra_169 b l
theorem abv (b : Nat) (l s : List UInt8) (hb : l.length + s.length ≤ 140737488355328) : x9 Tryd.prog 30 [.pointer (some ⟨b, 0, none⟩), st s] .returning .returning [] [bld 90 5 b l]
  (Ret (.tuple #[.int .i64 (s.length : Int), .nilIface]) [bld 90 5 b (l ++ s)]) := by
 refine x9.openBld fun q v hq => x9.closeBld ?_
 rcases hq with rfl | rfl
 ·refine (as6 b v l s (fun n u d => n = (s.length : Int) ∧ u = .nilIface ∧ d = l ++ s) ⟨hb, rfl, rfl, rfl⟩).weak fun o ho => ?_
  rcases ho with ⟨n, u, w, d, ⟨rfl, rfl, rfl⟩, rfl⟩ | h
  ·exact ⟨_, w, .inr rfl, rfl⟩
  ·exact h.elim
 ·refine (ata b v l s (fun n u d => n = (s.length : Int) ∧ u = .nilIface ∧ d = l ++ s) ⟨hb, rfl, rfl, rfl⟩).weak fun o ho => ?_
  rcases ho with ⟨n, u, w, d, ⟨rfl, rfl, rfl⟩, rfl⟩ | h
  ·exact ⟨_, w, .inr rfl, rfl⟩
  ·exact h.elim
end Go.Proofs.YtifajndacnfcbaaDoor
set_option maxRecDepth 100000
namespace Go.Proofs.YtifajndacnfcbaaDoor
open Go Go.RowKit
def ag7 (s : List UInt8) (K : (List UInt8) → Prop) : Prop :=
 ∃ (Inv : Int → (List UInt8) → Prop) (mu : Int → (List UInt8) → Nat),
  Inv 0 [34] ∧ ∀ (t9_1' : Int) (l_3' : List UInt8), Inv t9_1' l_3' →
   (if (decide (t9_1' < (s.length : Int))) = true then
    ∃ (J0_2' : (List UInt8) → Prop),
     (∀ (l_4' : List UInt8), J0_2' l_4' →
      (I64 (t9_1' + 1)) ∧
      Inv (t9_1' + 1) l_4' ∧ mu (t9_1' + 1) l_4' < mu t9_1' l_3') ∧
     (0 ≤ t9_1' ∧ t9_1' < s.length) ∧
     (if ((decide (((s.getD t9_1'.toNat 0).toNat : Int) = 34)) || (decide (((s.getD t9_1'.toNat 0).toNat : Int) = 92))) = true then
      (((l_3'.length + 2) + (l_3'.length + 2) / 4 + 192) * 1 ≤ 281474976710656 ∧ l_3'.length + 2 ≤ 9223372036854775807) ∧
      J0_2' (l_3' ++ [92, (s.getD t9_1'.toNat 0)])
     else
      (if ((decide (32 ≤ ((s.getD t9_1'.toNat 0).toNat : Int))) && (decide (((s.getD t9_1'.toNat 0).toNat : Int) ≤ 126))) = true then
       (((l_3'.length + 1) + (l_3'.length + 1) / 4 + 192) * 1 ≤ 281474976710656 ∧ l_3'.length + 1 ≤ 9223372036854775807) ∧
       J0_2' (l_3' ++ [(s.getD t9_1'.toNat 0)])
      else
       (if (decide (((s.getD t9_1'.toNat 0).toNat : Int) = 10)) = true then
        (l_3'.length + ([92, 110] : List UInt8).length ≤ 140737488355328) ∧
        J0_2' (l_3' ++ ([92, 110] : List UInt8))
       else
        (if (decide (((s.getD t9_1'.toNat 0).toNat : Int) = 13)) = true then
         (l_3'.length + ([92, 114] : List UInt8).length ≤ 140737488355328) ∧
         J0_2' (l_3' ++ ([92, 114] : List UInt8))
        else
         (if (decide (((s.getD t9_1'.toNat 0).toNat : Int) = 9)) = true then
          (l_3'.length + ([92, 116] : List UInt8).length ≤ 140737488355328) ∧
          J0_2' (l_3' ++ ([92, 116] : List UInt8))
         else
          (0 ≤ (((s.getD t9_1'.toNat 0).toNat : Int) / 2 ^ (4 : Int).toNat) ∧ (((s.getD t9_1'.toNat 0).toNat : Int) / 2 ^ (4 : Int).toNat) < ([48, 49, 50, 51, 52, 53, 54, 55, 56, 57, 97, 98, 99, 100, 101, 102] : List UInt8).length) ∧
          (0 ≤ (bits .and .u8 ((s.getD t9_1'.toNat 0).toNat : Int) 15) ∧ (bits .and .u8 ((s.getD t9_1'.toNat 0).toNat : Int) 15) < ([48, 49, 50, 51, 52, 53, 54, 55, 56, 57, 97, 98, 99, 100, 101, 102] : List UInt8).length) ∧
          (((l_3'.length + 4) + (l_3'.length + 4) / 4 + 192) * 1 ≤ 281474976710656 ∧ l_3'.length + 4 ≤ 9223372036854775807) ∧
          J0_2' (l_3' ++ [92, 120, (([48, 49, 50, 51, 52, 53, 54, 55, 56, 57, 97, 98, 99, 100, 101, 102] : List UInt8).getD (((s.getD t9_1'.toNat 0).toNat : Int) / 2 ^ (4 : Int).toNat).toNat 0), (([48, 49, 50, 51, 52, 53, 54, 55, 56, 57, 97, 98, 99, 100, 101, 102] : List UInt8).getD (bits .and .u8 ((s.getD t9_1'.toNat 0).toNat : Int) 15).toNat 0)]))))))
   else
    (((l_3'.length + 1) + (l_3'.length + 1) / 4 + 192) * 1 ≤ 281474976710656 ∧ l_3'.length + 1 ≤ 9223372036854775807) ∧
    K (l_3' ++ [34]))
theorem aqw  (s : List UInt8) (K : (List UInt8) → Prop) (h : ag7 s K) :
  d9 Tryd.prog 56 [st s] [] [] (fun o => (∃ (v : List UInt8), K v ∧ o = .ret (st v) []) ∨ (False)) := by
 unfold ag7 at h
 refine b9 (n := 66) (L0 := [(0, st s)]) Tryd.func56 rfl rfl rfl rfl (fun w0 M Q hE => ?_)
 refine a7 (fun _ hK => ?_)
 refine a6 ?_
 refine wA ?_
 refine WL.nil ?_
 refine kg (hK [(0, st s)] _ ?_)
 refine a7 (fun _ hK_1' => ?_)
 refine a6 ?_
 refine WL.make (MV.buildSlice (cs := [zU 34]) rfl l4 (by kernel_rfl)) rfl rfl rfl (fun b => ?_)
 refine WL.asRow (f := k6) (ms := [34]) 0 rfl rfl rfl aaj rfl ?_
 refine wA ?_
 refine WL.nil ?_
 refine kg (hK_1' [(0, st s), (3, Value.slice (some ⟨b, 0, none⟩) 1 1)] _ ?_)
 refine a7 (fun _ hK_2' => ?_)
 refine a7 (fun _ hK_3' => ?_)
 refine a6 ?_
 refine wm ?_
 refine wv (OV.len rfl c9) ?_
 refine wm ?_
 refine WL.nil ?_
 refine kg (hK_3' [(0, st s), (3, Value.slice (some ⟨b, 0, none⟩) 1 1), (8, zI (s.length : Int)), (9, zI 0)] _ ?_)
 refine b8 ?_
 obtain ⟨Inv, mu, h0, hr⟩ := h
 refine v7 (S := Int × Value × (List UInt8)) (fun σ => Inv σ.1 σ.2.2) (fun σ => mu σ.1 σ.2.2) (fun σ => [(0, st s), (3, σ.2.1), (8, zI (s.length : Int)), (9, zI σ.1)]) (fun σ => [HA.row σ.2.1 5 1 σ.2.2.length (σ.2.2.flatMap k6)]) (0, Value.slice (some ⟨b, 0, none⟩) 1 1, [34]) h0 ⟨rfl, rfl, rfl, rfl, trivial⟩ rfl ?_
 rintro ⟨t9_1', w_27', l_3'⟩ hi K0_46' hK_46'
 have h := hr t9_1' l_3' hi
 show WC _ _ _ _ [(0, st s), (3, w_27'), (8, zI (s.length : Int)), (9, zI t9_1')] [HA.row w_27' 5 1 l_3'.length (l_3'.flatMap k6)]
 refine a7 (fun _ hK_47' => ?_)
 refine a6 ?_
 refine wv (OV.lss rfl rfl) ?_
 refine WL.nil ?_
 refine kg (hK_47' [(0, st s), (3, w_27'), (8, zI (s.length : Int)), (9, zI t9_1'), (10, zB (decide (t9_1' < (s.length : Int))))] _ ?_)
 refine a7 (fun _ hK_48' => ?_)
 refine b5 (b := decide (t9_1' < (s.length : Int))) rfl (fun hb => ?_) (fun hb => ?_)
 ·replace h := j4 h hb
  refine b7 ?_
  refine kg (hK_48' [(0, st s), (3, w_27'), (8, zI (s.length : Int)), (9, zI t9_1')] _ ?_)
  obtain ⟨J0_2', hJ_2', h⟩ := h
  refine p5 (X := Value × (List UInt8)) (fun σ => J0_2' σ.2) (fun σ => [(0, st s), (3, σ.1), (8, zI (s.length : Int)), (9, zI t9_1')]) (fun σ => [HA.row σ.1 5 1 σ.2.length (σ.2.flatMap k6)]) ?_ (fun K0_58' hK_58' => ?_)
  ·rintro ⟨w_34', l_4'⟩ hj
   replace h := hJ_2' l_4' hj
   show WC _ _ _ _ [(0, st s), (3, w_34'), (8, zI (s.length : Int)), (9, zI t9_1')] [HA.row w_34' 5 1 l_4'.length (l_4'.flatMap k6)]
   refine a6 ?_
   obtain ⟨o_56', h⟩ := h
   refine wv (OV.add rfl rfl o_56') ?_
   refine wm ?_
   refine WL.nil ?_
   exact kh (hK_46' (t9_1' + 1, w_34', l_4') h.1 h.2) [0]
  ·skip
   refine b8 ?_
   refine a7 (fun _ hK_59' => ?_)
   refine a6 ?_
   refine wm ?_
   refine wA ?_
   refine WL.nil ?_
   refine kg (hK_59' [(0, st s), (3, w_27'), (4, zI t9_1'), (8, zI (s.length : Int)), (9, zI t9_1')] _ ?_)
   refine a7 (fun _ hK_60' => ?_)
   refine a6 ?_
   refine wm ?_
   refine wm ?_
   obtain ⟨o_57', h⟩ := h
   refine wv (OV.index rfl rfl c9 o_57') ?_
   refine wA ?_
   refine WL.nil ?_
   refine kg (hK_60' [(0, st s), (3, w_27'), (5, zU ((s.getD t9_1'.toNat 0).toNat : Int)), (8, zI (s.length : Int)), (9, zI t9_1')] _ ?_)
   refine b8 ?_
   refine a7 (fun _ hK_61' => ?_)
   refine a6 ?_
   refine wm ?_
   refine wv (OV.eql rfl rfl) ?_
   refine wm ?_
   refine WL.cut 3 [(0, st s), (3, w_27'), (5, zU ((s.getD t9_1'.toNat 0).toNat : Int)), (8, zI (s.length : Int)), (9, zI t9_1'), (30, zB ((decide (((s.getD t9_1'.toNat 0).toNat : Int) = 34)) || (decide (((s.getD t9_1'.toNat 0).toNat : Int) = 92))))] ?_ (fun K0_62' hK_62' => ?_)
   rotate_left
   ·refine WL.split (decide (((s.getD t9_1'.toNat 0).toNat : Int) = 34)) (fun hb => ?_) (fun hb => ?_)
    ·refine WL.set 27 rfl (congrArg zB hb) ?_
     refine wk ?_
     refine wk ?_
     refine wv (OV.pickT rfl rfl) ?_
     refine WL.set 30 rfl (oT (v := decide (((s.getD t9_1'.toNat 0).toNat : Int) = 92)) hb) ?_
     exact WL.end_ (kg hK_62')
    ·refine WL.set 27 rfl (congrArg zB hb) ?_
     refine wm ?_
     refine wv (OV.eql rfl rfl) ?_
     refine wv (OV.pickF rfl rfl) ?_
     refine WL.set 30 rfl (oF (v := decide (((s.getD t9_1'.toNat 0).toNat : Int) = 92)) hb) ?_
     exact WL.end_ (kg hK_62')
   refine wA ?_
   refine WL.nil ?_
   refine kg (hK_61' [(0, st s), (3, w_27'), (5, zU ((s.getD t9_1'.toNat 0).toNat : Int)), (8, zI (s.length : Int)), (9, zI t9_1'), (24, zB ((decide (((s.getD t9_1'.toNat 0).toNat : Int) = 34)) || (decide (((s.getD t9_1'.toNat 0).toNat : Int) = 92))))] _ ?_)
   refine b5 (b := (decide (((s.getD t9_1'.toNat 0).toNat : Int) = 34)) || (decide (((s.getD t9_1'.toNat 0).toNat : Int) = 92))) rfl (fun hb => ?_) (fun hb => ?_)
   ·replace h := j4 h hb
    refine a6 ?_
    refine wm ?_
    refine wm ?_
    refine WL.make (MV.buildSlice (cs := [zU 92, zU ((s.getD t9_1'.toNat 0).toNat : Int)]) rfl l4 (by kernel_rfl)) rfl rfl rfl (fun b_16' => ?_)
    obtain ⟨o_59', h⟩ := h
    refine WL.append (f := k6) (ms := [92, (s.getD t9_1'.toNat 0)]) 1 0 rfl rfl rfl rfl rfl rfl aaj (by decide) rfl l4 aa9 rfl o_59' rfl rfl (fun w_35' => ?_)
    refine wA ?_
    refine WL.nil ?_
    exact kh (hK_58' (w_35', l_3' ++ [92, (s.getD t9_1'.toNat 0)]) h) [1]
   ·replace h := j5 h hb
    refine a7 (fun _ hK_63' => ?_)
    refine a6 ?_
    refine wm ?_
    refine wv (OV.geq rfl rfl) ?_
    refine wm ?_
    refine WL.cut 3 [(0, st s), (3, w_27'), (5, zU ((s.getD t9_1'.toNat 0).toNat : Int)), (8, zI (s.length : Int)), (9, zI t9_1'), (41, zB ((decide (32 ≤ ((s.getD t9_1'.toNat 0).toNat : Int))) && (decide (((s.getD t9_1'.toNat 0).toNat : Int) ≤ 126))))] ?_ (fun K0_64' hK_64' => ?_)
    rotate_left
    ·refine WL.split (decide (32 ≤ ((s.getD t9_1'.toNat 0).toNat : Int))) (fun hb => ?_) (fun hb => ?_)
     ·refine WL.set 38 rfl (congrArg zB hb) ?_
      refine wm ?_
      refine wv (OV.leq rfl rfl) ?_
      refine wv (OV.pickT rfl rfl) ?_
      refine WL.set 41 rfl (bT (v := decide (((s.getD t9_1'.toNat 0).toNat : Int) ≤ 126)) hb) ?_
      exact WL.end_ (kg hK_64')
     ·refine WL.set 38 rfl (congrArg zB hb) ?_
      refine wk ?_
      refine wk ?_
      refine wv (OV.pickF rfl rfl) ?_
      refine WL.set 41 rfl (bF (v := decide (((s.getD t9_1'.toNat 0).toNat : Int) ≤ 126)) hb) ?_
      exact WL.end_ (kg hK_64')
    refine wA ?_
    refine WL.nil ?_
    refine kg (hK_63' [(0, st s), (3, w_27'), (5, zU ((s.getD t9_1'.toNat 0).toNat : Int)), (8, zI (s.length : Int)), (9, zI t9_1'), (35, zB ((decide (32 ≤ ((s.getD t9_1'.toNat 0).toNat : Int))) && (decide (((s.getD t9_1'.toNat 0).toNat : Int) ≤ 126))))] _ ?_)
    refine b5 (b := (decide (32 ≤ ((s.getD t9_1'.toNat 0).toNat : Int))) && (decide (((s.getD t9_1'.toNat 0).toNat : Int) ≤ 126))) rfl (fun hb => ?_) (fun hb => ?_)
    ·replace h := j4 h hb
     refine a6 ?_
     refine wm ?_
     refine wm ?_
     refine WL.make (MV.buildSlice (cs := [zU ((s.getD t9_1'.toNat 0).toNat : Int)]) rfl l4 (by kernel_rfl)) rfl rfl rfl (fun b_17' => ?_)
     obtain ⟨o_61', h⟩ := h
     refine WL.append (f := k6) (ms := [(s.getD t9_1'.toNat 0)]) 1 0 rfl rfl rfl rfl rfl rfl aaj (by decide) rfl l4 aa9 rfl o_61' rfl rfl (fun w_36' => ?_)
     refine wA ?_
     refine WL.nil ?_
     exact kh (hK_58' (w_36', l_3' ++ [(s.getD t9_1'.toNat 0)]) h) [1]
    ·replace h := j5 h hb
     refine a7 (fun _ hK_65' => ?_)
     refine a6 ?_
     refine wm ?_
     refine wv (OV.eql rfl rfl) ?_
     refine wA ?_
     refine WL.nil ?_
     refine kg (hK_65' [(0, st s), (3, w_27'), (5, zU ((s.getD t9_1'.toNat 0).toNat : Int)), (8, zI (s.length : Int)), (9, zI t9_1'), (46, zB (decide (((s.getD t9_1'.toNat 0).toNat : Int) = 10)))] _ ?_)
     refine b5 (b := decide (((s.getD t9_1'.toNat 0).toNat : Int) = 10)) rfl (fun hb => ?_) (fun hb => ?_)
     ·replace h := j4 h hb
      refine a6 ?_
      refine wm ?_
      obtain ⟨o_62', h⟩ := h
      refine WL.appendS (m := ([92, 110] : List UInt8)) 0 rfl rfl rfl l4 c9 aar o_62' rfl rfl (fun w_37' => ?_)
      refine wA ?_
      refine WL.nil ?_
      exact kh (hK_58' (w_37', l_3' ++ ([92, 110] : List UInt8)) h) [0]
     ·replace h := j5 h hb
      refine a7 (fun _ hK_66' => ?_)
      refine a6 ?_
      refine wm ?_
      refine wv (OV.eql rfl rfl) ?_
      refine wA ?_
      refine WL.nil ?_
      refine kg (hK_66' [(0, st s), (3, w_27'), (5, zU ((s.getD t9_1'.toNat 0).toNat : Int)), (8, zI (s.length : Int)), (9, zI t9_1'), (51, zB (decide (((s.getD t9_1'.toNat 0).toNat : Int) = 13)))] _ ?_)
      refine b5 (b := decide (((s.getD t9_1'.toNat 0).toNat : Int) = 13)) rfl (fun hb => ?_) (fun hb => ?_)
      ·replace h := j4 h hb
       refine a6 ?_
       refine wm ?_
       obtain ⟨o_63', h⟩ := h
       refine WL.appendS (m := ([92, 114] : List UInt8)) 0 rfl rfl rfl l4 c9 aar o_63' rfl rfl (fun w_38' => ?_)
       refine wA ?_
       refine WL.nil ?_
       exact kh (hK_58' (w_38', l_3' ++ ([92, 114] : List UInt8)) h) [0]
      ·replace h := j5 h hb
       refine a7 (fun _ hK_67' => ?_)
       refine a6 ?_
       refine wm ?_
       refine wv (OV.eql rfl rfl) ?_
       refine wA ?_
       refine WL.nil ?_
       refine kg (hK_67' [(0, st s), (3, w_27'), (5, zU ((s.getD t9_1'.toNat 0).toNat : Int)), (8, zI (s.length : Int)), (9, zI t9_1'), (56, zB (decide (((s.getD t9_1'.toNat 0).toNat : Int) = 9)))] _ ?_)
       refine b5 (b := decide (((s.getD t9_1'.toNat 0).toNat : Int) = 9)) rfl (fun hb => ?_) (fun hb => ?_)
       ·replace h := j4 h hb
        refine a6 ?_
        refine wm ?_
        obtain ⟨o_64', h⟩ := h
        refine WL.appendS (m := ([92, 116] : List UInt8)) 0 rfl rfl rfl l4 c9 aar o_64' rfl rfl (fun w_39' => ?_)
        refine wA ?_
        refine WL.nil ?_
        exact kh (hK_58' (w_39', l_3' ++ ([92, 116] : List UInt8)) h) [0]
       ·replace h := j5 h hb
        refine n4 8 [(7, .cells [zU 92, zU 120, zU ((([48, 49, 50, 51, 52, 53, 54, 55, 56, 57, 97, 98, 99, 100, 101, 102] : List UInt8).getD (((s.getD t9_1'.toNat 0).toNat : Int) / 2 ^ (4 : Int).toNat).toNat 0).toNat : Int), zU ((([48, 49, 50, 51, 52, 53, 54, 55, 56, 57, 97, 98, 99, 100, 101, 102] : List UInt8).getD (bits .and .u8 ((s.getD t9_1'.toNat 0).toNat : Int) 15).toNat 0).toNat : Int)].toArray 5 (0, 0))] j3 (by kernel_rfl) rfl (fun T_5' hT_5' => ?_)
        refine fv (fun _ => OV.move rfl) ?_
        refine fv (fun _ => OV.move rfl) ?_
        refine fv (fun _ => OV.shr rfl rfl ⟨by decide, by decide⟩) ?_
        obtain ⟨o_65', h⟩ := h
        refine fv (fun _ => OV.index rfl rfl c9 o_65') ?_
        refine fv (fun _ => OV.move rfl) ?_
        refine fv (fun _ => OV.bits_and rfl rfl) ?_
        obtain ⟨o_66', h⟩ := h
        refine fv (fun _ => OV.index rfl rfl c9 o_66') ?_
        refine FL.make (fun _ => MV.buildSlice (cs := [zU 92, zU 120, zU ((([48, 49, 50, 51, 52, 53, 54, 55, 56, 57, 97, 98, 99, 100, 101, 102] : List UInt8).getD (((s.getD t9_1'.toNat 0).toNat : Int) / 2 ^ (4 : Int).toNat).toNat 0).toNat : Int), zU ((([48, 49, 50, 51, 52, 53, 54, 55, 56, 57, 97, 98, 99, 100, 101, 102] : List UInt8).getD (bits .and .u8 ((s.getD t9_1'.toNat 0).toNat : Int) 15).toNat 0).toNat : Int)]) rfl l4 (by kernel_rfl)) rfl (fun _ => rfl) rfl rfl ?_
        refine FL.weak (L' := fun γ => [(0, st s), (3, w_27'), (8, zI (s.length : Int)), (9, zI t9_1'), (15, w_27'), (22, Value.slice (some ⟨(γ 7), 0, none⟩) 4 4)]) (fun γ => ⟨rfl, rfl, rfl, rfl, rfl, rfl, trivial⟩) (FL.nil (hT_5' (fun γ => [(0, st s), (3, w_27'), (8, zI (s.length : Int)), (9, zI t9_1'), (15, w_27'), (22, Value.slice (some ⟨(γ 7), 0, none⟩) 4 4)]) (fun γ => ?_)))
        show WL _ _ _ _ [(0, st s), (3, w_27'), (8, zI (s.length : Int)), (9, zI t9_1'), (15, w_27'), (22, Value.slice (some ⟨(γ 7), 0, none⟩) 4 4)] [HA.blk (γ 7) (.cells [zU 92, zU 120, zU ((([48, 49, 50, 51, 52, 53, 54, 55, 56, 57, 97, 98, 99, 100, 101, 102] : List UInt8).getD (((s.getD t9_1'.toNat 0).toNat : Int) / 2 ^ (4 : Int).toNat).toNat 0).toNat : Int), zU ((([48, 49, 50, 51, 52, 53, 54, 55, 56, 57, 97, 98, 99, 100, 101, 102] : List UInt8).getD (bits .and .u8 ((s.getD t9_1'.toNat 0).toNat : Int) 15).toNat 0).toNat : Int)].toArray 5 (0, 0)), HA.row w_27' 5 1 l_3'.length (l_3'.flatMap k6)] _
        generalize γ 7 = b_18'
        obtain ⟨o_67', h⟩ := h
        refine WL.append (f := k6) (ms := [92, 120, (([48, 49, 50, 51, 52, 53, 54, 55, 56, 57, 97, 98, 99, 100, 101, 102] : List UInt8).getD (((s.getD t9_1'.toNat 0).toNat : Int) / 2 ^ (4 : Int).toNat).toNat 0), (([48, 49, 50, 51, 52, 53, 54, 55, 56, 57, 97, 98, 99, 100, 101, 102] : List UInt8).getD (bits .and .u8 ((s.getD t9_1'.toNat 0).toNat : Int) 15).toNat 0)]) 1 0 rfl rfl rfl rfl rfl rfl aaj (by decide) rfl l4 aa9 rfl o_67' rfl rfl (fun w_40' => ?_)
        refine wA ?_
        refine WL.nil ?_
        exact kh (hK_58' (w_40', l_3' ++ [92, 120, (([48, 49, 50, 51, 52, 53, 54, 55, 56, 57, 97, 98, 99, 100, 101, 102] : List UInt8).getD (((s.getD t9_1'.toNat 0).toNat : Int) / 2 ^ (4 : Int).toNat).toNat 0), (([48, 49, 50, 51, 52, 53, 54, 55, 56, 57, 97, 98, 99, 100, 101, 102] : List UInt8).getD (bits .and .u8 ((s.getD t9_1'.toNat 0).toNat : Int) 15).toNat 0)]) h) [1]
 ·replace h := j5 h hb
  refine p9 ?_
  refine kg (hK_2' [(3, w_27')] _ ?_)
  refine a7 (fun _ hK_68' => ?_)
  refine a6 ?_
  refine wm ?_
  refine WL.make (MV.buildSlice (cs := [zU 34]) rfl l4 (by kernel_rfl)) rfl rfl rfl (fun b_19' => ?_)
  obtain ⟨o_68', h⟩ := h
  refine WL.append (f := k6) (ms := [34]) 1 0 rfl rfl rfl rfl rfl rfl aaj (by decide) rfl l4 aa9 rfl o_68' rfl rfl (fun w_41' => ?_)
  refine wv (OV.bytesRow (l := l_3' ++ [34]) 1 rfl rfl l4 Tryd.underlying5 c9) ?_
  refine wA ?_
  refine WL.nil ?_
  refine kg (hK_68' [(2, st (l_3' ++ [34]))] _ ?_)
  refine c7 ?_
  exact hE.ret [] rfl rfl (.inl ⟨_, h, rfl⟩) (e9.of1 rfl (RV.tmp rfl))
def hx (n : Nat) : UInt8 := ([48, 49, 50, 51, 52, 53, 54, 55, 56, 57, 97, 98, 99, 100, 101, 102] : List UInt8).getD n 0
def qb (c : UInt8) : List UInt8 :=
 if c = 34 ∨ c = 92 then [92, c] else if 32 ≤ c.toNat ∧ c.toNat ≤ 126 then [c] else if c = 10 then [92, 110] else if c = 13 then [92, 114] else if c = 9 then [92, 116] else [92, 120, hx (c.toNat / 16), hx (c.toNat % 16)]
def abg (s : List UInt8) : List UInt8 := [34] ++ s.flatMap qb ++ [34]
theorem atd (c : UInt8) : (qb c).length ≤ 4 := by
 unfold qb
 repeat' split
 all_goals simp
theorem akc : ∀ s : List UInt8, (s.flatMap qb).length ≤ 4 * s.length
 | [] => by simp
 | c :: s => by
  have h1 := atd c
  have h2 := akc s
  rw [List.flatMap_cons, List.length_append, List.length_cons]; omega
theorem ar7 {s : List UInt8} {i : Int} (h : 0 ≤ i ∧ i < s.length) : (s.take (i + 1).toNat).flatMap qb = (s.take i.toNat).flatMap qb ++ qb (s.getD i.toNat 0) := by
 have hlt : i.toNat < s.length := by omega
 rw [show (i + 1).toNat = i.toNat + 1 by omega, List.take_add_one, List.flatMap_append, List.getElem?_eq_getElem hlt, List.getD_eq_getElem?_getD, List.getElem?_eq_getElem hlt]
 simp
theorem alg {c : UInt8} (n : UInt8) : ((c.toNat : Int) = (n.toNat : Int)) ↔ c = n := ⟨fun h => UInt8.toNat_inj.1 (by omega), fun h => by rw [h]⟩
theorem atp : ∀ n : Nat, n < 256 → bits .and .u8 (n : Int) 15 = ((n % 16 : Nat) : Int) := by decide +kernel
theorem anl (s : List UInt8) (h : s.length ≤ 1048576) : d9 Tryd.prog 56 [st s] [] [] (Ret (st (abg s)) []) := by
 refine (aqw s (fun r => r = abg s) ?_).weak (by rintro o (⟨v, rfl, rfl⟩ | h) <;> first | rfl | exact h.elim)
 unfold ag7
 refine ⟨fun i out => 0 ≤ i ∧ i ≤ s.length ∧ out = [34] ++ (s.take i.toNat).flatMap qb, fun i _ => (s.length - i).toNat, ⟨by omega, by omega, by simp⟩, ?_⟩
 rintro i out ⟨h0, h1, rfl⟩
 have hl0 := akc (s.take i.toNat)
 rw [List.length_take] at hl0
 have hl : ([34] ++ (s.take i.toNat).flatMap qb).length ≤ 4194305 := by rw [List.length_append]; simp only [List.length_cons, List.length_nil]; omega
 by_cases hi : i < s.length
 ·rw [if_pos (by simpa using hi)]
  have ht := ar7 ⟨h0, hi⟩
  have key : ∀ X, qb (s.getD i.toNat 0) = X → ([34] ++ (s.take i.toNat).flatMap qb) ++ X = [34] ++ (s.take (i + 1).toNat).flatMap qb := fun X hX => by rw [ht, ← hX, List.append_assoc]
  refine ⟨fun l => l = [34] ++ (s.take (i + 1).toNat).flatMap qb, fun l hl2 => ⟨⟨by omega, by omega⟩, ⟨by omega, by omega, hl2⟩, by show (s.length - (i + 1)).toNat < (s.length - i).toNat; omega⟩, ⟨h0, hi⟩, ?_⟩
  generalize s.getD i.toNat 0 = c at key ⊢
  generalize ([34] ++ (s.take i.toNat).flatMap qb) = out at hl key ⊢
  have hc := c.toNat_lt
  have n34 := alg (c := c) 34
  have n92 := alg (c := c) 92
  have n10 := alg (c := c) 10
  have n13 := alg (c := c) 13
  have n9 := alg (c := c) 9
  have v34 : ((34 : UInt8).toNat : Int) = 34 := rfl
  have v92 : ((92 : UInt8).toNat : Int) = 92 := rfl
  have v10 : ((10 : UInt8).toNat : Int) = 10 := rfl
  have v13 : ((13 : UInt8).toNat : Int) = 13 := rfl
  have v9 : ((9 : UInt8).toNat : Int) = 9 := rfl
  rw [v34] at n34
  rw [v92] at n92
  rw [v10] at n10
  rw [v13] at n13
  rw [v9] at n9
  simp only [n34, n92, n10, n13, n9]
  unfold qb at key
  by_cases e1 : c = 34 ∨ c = 92
  ·rw [if_pos (by simpa using e1)]
   exact ⟨⟨by omega, by omega⟩, key _ (by rw [if_pos e1])⟩
  ·rw [if_neg (by simpa using e1)]
   rw [if_neg e1] at key
   by_cases e2 : 32 ≤ c.toNat ∧ c.toNat ≤ 126
   ·rw [if_pos (by simp; omega)]
    exact ⟨⟨by omega, by omega⟩, key _ (by rw [if_pos e2])⟩
   ·rw [if_neg (by simp; omega)]
    rw [if_neg e2] at key
    by_cases e3 : c = 10
    ·rw [if_pos (by simpa using e3)]
     exact ⟨by simp only [List.length_cons, List.length_nil]; omega, key _ (by rw [if_pos e3])⟩
    ·rw [if_neg (by simpa using e3)]
     rw [if_neg e3] at key
     by_cases e4 : c = 13
     ·rw [if_pos (by simpa using e4)]
      exact ⟨by simp only [List.length_cons, List.length_nil]; omega, key _ (by rw [if_pos e4])⟩
     ·rw [if_neg (by simpa using e4)]
      rw [if_neg e4] at key
      by_cases e5 : c = 9
      ·rw [if_pos (by simpa using e5)]
       exact ⟨by simp only [List.length_cons, List.length_nil]; omega, key _ (by rw [if_pos e5])⟩
      ·rw [if_neg (by simpa using e5)]
       rw [if_neg e5] at key
       have hd : ((c.toNat : Int) / 2 ^ (4 : Int).toNat) = ((c.toNat / 16 : Nat) : Int) := by rw [show (2 : Int) ^ (4 : Int).toNat = 16 from rfl]; omega
       rw [hd, atp _ hc]
       refine ⟨⟨by omega, by simp only [List.length_cons, List.length_nil]; omega⟩, ⟨by omega, by simp only [List.length_cons, List.length_nil]; omega⟩, ⟨by omega, by omega⟩, key _ rfl⟩
 ·rw [if_neg (by simpa using hi)]
  refine ⟨⟨by omega, by omega⟩, ?_⟩
  rw [List.take_of_length_le (by omega)]; rfl
end Go.Proofs.YtifajndacnfcbaaDoor
namespace Go.Proofs.YtifajndacnfcbaaDoor
open Go Go.RowKit
instance : Inhabited Ex := ⟨.name 0 []⟩
def rkX : Ex → Int
 | .binary _ o _ _ => d8 o
 | .unary .. => 5
 | _ => 6
def par (r need : Int) (s : Bs) : Bs := if r < need then [40] ++ s ++ [41] else s
mutual
def l7 : Ex → Bs
 | .name _ s => s
 | .text _ s => abg s
 | .regex _ s => [47] ++ s ++ [47]
 | .keyed _ a => [123] ++ par (rkX a) 0 (l7 a) ++ [125]
 | .unary _ o a => par (rkX a) 5 (l7 a) ++ o
 | .binary _ o a b => par (rkX a) (d8 o) (l7 a) ++ ([32] ++ o ++ [32]) ++ par (rkX b) (d8 o + 1) (l7 b)
 | .call _ w l => w ++ [40] ++ aby l ++ [41]
def aby : ExL → Bs
 | .nil => []
 | .cons a r => par (rkX a) 0 (l7 a) ++ abc r
def abc : ExL → Bs
 | .nil => []
 | .cons a r => [44, 32] ++ par (rkX a) 0 (l7 a) ++ abc r
end
def f7 (e : Ex) (need : Int) : Bs := par (rkX e) need (l7 e)
mutual
def OKX : Ex → Prop
 | .name _ s => s.length ≤ 4096
 | .text _ s => s.length ≤ 4096
 | .regex _ s => s.length ≤ 4096
 | .keyed _ a => OKX a
 | .unary _ o a => o.length ≤ 4096 ∧ OKX a
 | .binary _ o a b => (aci o ∧ 0 ≤ d8 o) ∧ OKX a ∧ OKX b
 | .call _ w l => w.length ≤ 4096 ∧ OKL l
def OKL : ExL → Prop
 | .nil => True
 | .cons a r => OKX a ∧ OKL r
end
mutual
def wX : Ex → Nat
 | .name .. => 1
 | .text .. => 1
 | .regex .. => 1
 | .keyed _ a => 1 + wX a
 | .unary _ _ a => 1 + wX a
 | .binary _ _ a b => 1 + wX a + wX b
 | .call _ _ l => 1 + wL l
def wL : ExL → Nat
 | .nil => 0
 | .cons a r => wX a + 1 + wL r
end
theorem ac1 (r need : Int) (s : Bs) : (par r need s).length ≤ s.length + 2 := by
 unfold par
 split
 ·simp only [List.length_append, List.length_cons, List.length_nil]; omega
 ·omega
theorem ak6 {o : Bs} (h : aci o) : o.length ≤ 2 := by
 rcases h with rfl | ⟨c, rfl⟩ <;> simp
theorem al5 (s : Bs) : (abg s).length ≤ 4 * s.length + 2 := by
 have := akc s
 unfold abg
 simp only [List.length_append, List.length_cons, List.length_nil]
 omega
mutual
theorem abf : ∀ (e : Ex), OKX e → (l7 e).length + 2 ≤ 20000 * wX e
 | .name _ s, h => by rw [OKX] at h; rw [l7, wX]; omega
 | .text _ s, h => by rw [OKX] at h; have := al5 s; rw [l7, wX]; omega
 | .regex _ s, h => by rw [OKX] at h; rw [l7, wX]; simp only [List.length_append, List.length_cons, List.length_nil]; omega
 | .keyed _ a, h => by
  rw [OKX] at h
  have h1 := abf a h
  have h2 := ac1 (rkX a) 0 (l7 a)
  rw [l7, wX]; simp only [List.length_append, List.length_cons, List.length_nil]; omega
 | .unary _ o a, h => by
  rw [OKX] at h
  have h1 := abf a h.2
  have h2 := ac1 (rkX a) 5 (l7 a)
  rw [l7, wX]; simp only [List.length_append]; omega
 | .binary _ o a b, h => by
  rw [OKX] at h
  have h1 := abf a h.2.1
  have h2 := abf b h.2.2
  have h3 := ac1 (rkX a) (d8 o) (l7 a)
  have h4 := ac1 (rkX b) (d8 o + 1) (l7 b)
  have h5 := ak6 h.1.1
  rw [l7, wX]; simp only [List.length_append, List.length_cons, List.length_nil]; omega
 | .call _ w l, h => by
  rw [OKX] at h
  have h1 := al0 l h.2
  rw [l7, wX]; simp only [List.length_append, List.length_cons, List.length_nil]; omega
theorem al0 : ∀ (l : ExL), OKL l → (aby l).length ≤ 20000 * wL l
 | .nil, _ => by rw [aby, wL]; simp
 | .cons a r, h => by
  rw [OKL] at h
  have h1 := abf a h.1
  have h2 := ald r h.2
  have h3 := ac1 (rkX a) 0 (l7 a)
  rw [aby, wL]; simp only [List.length_append]; omega
theorem ald : ∀ (l : ExL), OKL l → (abc l).length ≤ 20000 * wL l
 | .nil, _ => by rw [abc, wL]; simp
 | .cons a r, h => by
  rw [OKL] at h
  have h1 := abf a h.1
  have h2 := ald r h.2
  have h3 := ac1 (rkX a) 0 (l7 a)
  rw [abc, wL]; simp only [List.length_append, List.length_cons, List.length_nil]; omega
end
theorem s9 (e : Ex) (need : Int) (h : OKX e) : (f7 e need).length ≤ 20000 * wX e := by
 have h1 := abf e h
 have h2 := ac1 (rkX e) need (l7 e)
 unfold f7; omega
def ExL.toL : ExL → List Ex
 | .nil => []
 | .cons a r => a :: r.toL
def w7 (l : ExL) (i : Nat) : Bs := match i with
 | 0 => aby l
 | i + 1 => abc (dropA l (i + 1))
where dropA : ExL → Nat → ExL
 | l, 0 => l
 | .nil, _ + 1 => .nil
 | .cons _ r, i + 1 => dropA r i
theorem als : ∀ l : ExL, l.len ≤ wL l
 | .nil => Nat.zero_le _
 | .cons a r => by have := als r; rw [wL]; show r.len + 1 ≤ _; omega
theorem am0 (l : ExL) : w7.dropA l 0 = l := by cases l <;> rfl
theorem ahy : ∀ {l : ExL} {i : Nat}, i < l.len → w7.dropA l i = .cons (l.toL.getD i default) (w7.dropA l (i + 1))
 | .cons a r, 0, _ => by
  rw [w7.dropA, w7.dropA]
  ·cases r <;> rfl
 | .cons a r, i + 1, h => by
  rw [w7.dropA, w7.dropA]
  exact ahy (Nat.lt_of_succ_lt_succ h)
theorem aiu : ∀ {l : ExL} {i : Nat}, l.len ≤ i → w7.dropA l i = .nil
 | .nil, 0, _ => rfl
 | .nil, _ + 1, _ => rfl
 | .cons a r, 0, h => by cases h
 | .cons a r, i + 1, h => by rw [w7.dropA]; exact aiu (Nat.le_of_succ_le_succ h)
theorem aqg {l : ExL} {i : Nat} (h : i < l.len) : w7 l i = (if 0 < i then [44, 32] else []) ++ f7 (l.toL.getD i default) 0 ++ w7 l (i + 1) := by
 cases i with
 | zero =>
  cases l with
  | nil => cases h
  | cons a r =>
   show aby (.cons a r) = [] ++ par (rkX a) 0 (l7 a) ++ abc (w7.dropA (.cons a r) 1)
   rw [aby, w7.dropA]
   have : w7.dropA r 0 = r := by cases r <;> rfl
   rw [this]; rfl
 | succ i =>
  show abc (w7.dropA l (i + 1)) = [44, 32] ++ _ ++ abc (w7.dropA l (i + 1 + 1))
  rw [ahy h, abc]; rfl
theorem ape {l : ExL} {i : Nat} (h : l.len ≤ i) (h0 : 0 < l.len) : w7 l i = [] := by
 cases i with
 | zero => omega
 | succ i =>
  show abc (w7.dropA l (i + 1)) = []
  rw [aiu h, abc]
theorem OKL.at : ∀ {l : ExL} {i : Nat}, OKL l → i < l.len → OKX (l.toL.getD i default) ∧ wX (l.toL.getD i default) ≤ wL l
 | .cons a r, 0, h, _ => by rw [OKL] at h; rw [wL]; exact ⟨h.1, by show wX a ≤ _; omega⟩
 | .cons a r, i + 1, h, hi => by
  rw [OKL] at h
  have := OKL.at h.2 (Nat.lt_of_succ_lt_succ hi)
  rw [wL]
  exact ⟨this.1, by show wX (r.toL.getD i default) ≤ _; omega⟩
def amq (v : Value) (B : List (Nat × Obj)) (n : Nat) (xs : List Value) : Prop := ∃ R, amy v R n xs ∧ ∀ p ∈ R, p ∈ B
theorem amq.lin {C : Cx} {v : Value} {B : List (Nat × Obj)} {n : Nat} {xs : List Value} (h : amq v B n xs) (hC : ∀ p ∈ B, p ∈ C.R) : LIn C v n xs := by
 obtain ⟨R, h1, h2⟩ := h
 exact LIn.mk h1 fun p hp => hC p (h2 p hp)
def y5 (l : Bs) (need : Int) (x : Ex) : Prop := (0 ≤ need ∧ need ≤ 6) ∧ OKX x ∧ l.length + 20000 * wX x ≤ 1099511627776
def v6 (B : List (Nat × Obj)) (te : TypeId) (fre : Nat × Nat) (u : Value) (x : Ex) : Prop :=
 ∀ (pb : Nat) (l : List UInt8) (need : Int), y5 l need x → d9 Tryd.prog 31 [.pointer (some ⟨pb, 0, none⟩), u, .int .i64 need] (B ++ ab2 te fre) [bld 90 5 pb l]
  (Ret (.tuple #[]) [bld 90 5 pb (l ++ f7 x need)])
end Go.Proofs.YtifajndacnfcbaaDoor
