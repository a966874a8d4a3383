/-
  Merged: RxR, RxL, RxB, TpV, TpLawP.
-/
import Derived.OpenShut
import Derived.Deep.DeepHandedRow
import Derived.Lib.LaidTab
import Derived.Test.YtffhedoahdgniaaDoorPt10
set_option maxRecDepth 100000
namespace Go.Proofs.YtffhedoahdgniaaDoor
open Go Go.RowKit
theorem af5 : s7 Tryd.prog 23 1 = true := by kernel_rfl
theorem at2 : abz Tryd.prog 23 = some [Tr.val Tr.none] := by kernel_rfl
theorem ajj : r8 Tryd.prog 9 = true := by kernel_rfl
def aia (c : Tr) (c_1'_0 : Int) (c_1'_1 : Int) (c_1'_2 : List UInt8) (K : Tr → Int → Int → (List UInt8) → Prop) : Prop :=
 K c c_1'_0 c_1'_1 c_1'_2
theorem at8 (b : Nat) (b_1' : Nat) (c : Tr) (c_1'_0 : Int) (c_1'_1 : Int) (c_1'_2 : List UInt8) (K : Tr → Int → Int → (List UInt8) → Prop) (h : aia c c_1'_0 c_1'_1 c_1'_2 K) :
  ae8 Tryd.prog 9 [zP b, zP b_1'] (.returning) (.returning) [] [HA.blk b (.cells [Tr.val c].toArray 23 (0, 0)), HA.blk b_1' (.cells [zI c_1'_0, zI c_1'_1, st c_1'_2].toArray 26 (0, 0))] (fun o => (∃ (d : Tr) (d_1'_0 : Int) (d_1'_1 : Int) (d_1'_2 : List UInt8), K d d_1'_0 d_1'_1 d_1'_2 ∧ o = .ret (Value.tuple #[]) [HA.blk b (.cells [Tr.val d].toArray 23 (0, 0)), HA.blk b_1' (.cells [zI d_1'_0, zI d_1'_1, st d_1'_2].toArray 26 (0, 0))]) ∨ (False)) := by
 unfold aia at h
 refine ahr (n := 8) (L0 := [(0, zP b), (1, zP b_1')]) (v := Value.nilIface) Tryd.func9 rfl rfl rfl rfl rfl rfl (.inl ⟨rfl, rfl, rfl⟩) (fun w0 M Q hE => ?_)
 refine a6 (fun _ hK => ?_)
 refine a4 ?_
 refine wm ?_
 refine wv (OV.neqNil0 rfl Tryd.underlying20) ?_
 refine WL.nil ?_
 refine kg (hK [(0, zP b), (1, zP b_1'), (2, Value.nilIface), (5, zB false)] _ ?_)
 refine f0 rfl ?_
 refine b7 ?_
 exact hE.norm [0, 1] rfl rfl (.inl ⟨_, _, _, _, h, rfl⟩) (f9.none rfl)
def aiz (_ : Tr) (_ : Int) (_ : Int) (_ : List UInt8) (fc : Int) (fa : Int) (ft : List UInt8) (K : Tr → Int → Int → (List UInt8) → Prop) : Prop :=
 K Tr.none fc fa ft
theorem atd (b : Nat) (b_1' : Nat) (c : Tr) (c_1'_0 : Int) (c_1'_1 : Int) (c_1'_2 : List UInt8) (fc : Int) (fa : Int) (ft : List UInt8) (K : Tr → Int → Int → (List UInt8) → Prop) (h : aiz c c_1'_0 c_1'_1 c_1'_2 fc fa ft K) :
  ae8 Tryd.prog 9 [zP b, zP b_1'] (.panicking [{ v := Value.iface 26 (Value.agg [zI fc, zI fa, st ft].toArray), recovered := false }]) (.panicking [{ v := Value.iface 26 (Value.agg [zI fc, zI fa, st ft].toArray), recovered := true }]) [] [HA.blk b (.cells [Tr.val c].toArray 23 (0, 0)), HA.blk b_1' (.cells [zI c_1'_0, zI c_1'_1, st c_1'_2].toArray 26 (0, 0))] (fun o => (∃ (d : Tr) (d_1'_0 : Int) (d_1'_1 : Int) (d_1'_2 : List UInt8), K d d_1'_0 d_1'_1 d_1'_2 ∧ o = .ret (Value.tuple #[]) [HA.blk b (.cells [Tr.val d].toArray 23 (0, 0)), HA.blk b_1' (.cells [zI d_1'_0, zI d_1'_1, st d_1'_2].toArray 26 (0, 0))]) ∨ (False)) := by
 unfold aiz at h
 refine ahr (n := 8) (L0 := [(0, zP b), (1, zP b_1')]) (v := Value.iface 26 (Value.agg [zI fc, zI fa, st ft].toArray)) Tryd.func9 rfl rfl rfl rfl rfl rfl (.inr ⟨_, rfl, rfl, rfl⟩) (fun w0 M Q hE => ?_)
 refine a6 (fun _ hK => ?_)
 refine a4 ?_
 refine wm ?_
 refine wv (OV.neqNil rfl rfl Tryd.underlying20) ?_
 refine WL.nil ?_
 refine kg (hK [(0, zP b), (1, zP b_1'), (2, Value.iface 26 (Value.agg [zI fc, zI fa, st ft].toArray)), (5, zB true)] _ ?_)
 refine w5 rfl ?_
 refine ai6 2 [] [] rfl rfl g8 (by kernel_rfl) (fun T hT => ?_)
 refine TW.val (OV.move rfl) rfl rfl rfl ?_
 refine TW.val (OV.assertIs rfl Tryd.underlying26 rfl) rfl rfl rfl ?_
 refine TW.nil (hT _ ?_)
 refine WLK.op [] rfl rfl (OpK.store (vs := [Value.nilIface]) (cs' := [Value.nilIface]) 0 rfl rfl rfl rfl af5 (Nat.le_of_ble_eq_true rfl) rfl rfl) rfl ?_
 refine WLK.op [] rfl rfl (OpK.storeW (vs := [zI fc, zI fa, st ft]) 1 rfl rfl rfl rfl rfl aak rfl rfl) rfl ?_
 refine WLK.nil ?_
 exact hE.norm [0, 1] rfl rfl (.inl ⟨_, _, _, _, h, rfl⟩) (f9.none rfl)
abbrev alq (b b1 : Nat) (c : Tr) (x y : Int) (z : List UInt8) : List HA :=
 [.blk b (.cells [c.val].toArray 23 (0, 0)), .blk b1 (.cells [zI x, zI y, st z].toArray 26 (0, 0))]
theorem amq (b b1 : Nat) (c : Tr) (x y : Int) (z : List UInt8) : ae8 Tryd.prog 9 [.pointer (some ⟨b, 0, none⟩), .pointer (some ⟨b1, 0, none⟩)] .returning .returning [] (alq b b1 c x y z) (Ret (.tuple #[]) (alq b b1 c x y z)) := by
 refine (at8 b b1 c x y z (fun c' x' y' z' => c' = c ∧ x' = x ∧ y' = y ∧ z' = z) ?_).weak ?_
 ·unfold aia; exact ⟨rfl, rfl, rfl, rfl⟩
 ·rintro o (⟨c', x', y', z', ⟨rfl, rfl, rfl, rfl⟩, rfl⟩ | h)
  ·rfl
  ·exact h.elim
theorem am5 (b b1 : Nat) (c : Tr) (x y : Int) (z : List UInt8) (fc fa : Int) (ft : List UInt8) : ae8 Tryd.prog 9 [.pointer (some ⟨b, 0, none⟩), .pointer (some ⟨b1, 0, none⟩)]
  (.panicking [{ v := .iface 26 (.agg [.int .i64 fc, .int .i64 fa, st ft].toArray), recovered := false }]) (.panicking [{ v := .iface 26 (.agg [.int .i64 fc, .int .i64 fa, st ft].toArray), recovered := true }]) [] (alq b b1 c x y z) (Ret (.tuple #[]) (alq b b1 .none fc fa ft)) := by
 refine (atd b b1 c x y z fc fa ft (fun c' x' y' z' => c' = .none ∧ x' = fc ∧ y' = fa ∧ z' = ft) ?_).weak ?_
 ·unfold aiz; exact ⟨rfl, rfl, rfl, rfl⟩
 ·rintro o (⟨c', x', y', z', ⟨rfl, rfl, rfl, rfl⟩, rfl⟩ | h)
  ·rfl
  ·exact h.elim
def amn (text : List UInt8) (K : Tr → Int → Int → (List UInt8) → Prop) : Prop :=
 (if (decide (1048576 < (text.length : Int))) = true then
  K Tr.none 1 0 []
 else
  (ahg text 0) ∧
  (0 ≤ (0 : Int) ∧ (0 : Int) ≤ (text.length : Int) ∧ text.length ≤ 1048576 ∧ ([] : List Int).length ≤ 1000) ∧
  (∀ (sz : Int) (u : Value) (j : Int) (B : List (Nat × Obj)), agb (PR text .alt ([] : List Int).length 0) text 0 ([] : List (Nat × Obj)) B j sz u →
   (u.oneCell' = true) ∧
   (if (!(decide ((text.length : Int) ≤ j))) = true then
    K Tr.none 20 j []
   else
    (if (decide (2000 < sz)) = true then
     K Tr.none 24 0 []
    else
     ∃ (y : Tr), (ak1 B u y) ∧ (
     K y 0 0 [])))) ∧
  (∀ (c : Int) (p : Int) (_q : Int) (_o : List Int) (_B_1' : List (Nat × Obj)), PR text .alt ([] : List Int).length 0 (.error (c, p)) →
   K Tr.none c p []))
theorem azh (te : TypeId) (fre : Nat × Nat) (text : List UInt8) (K : Tr → Int → Int → (List UInt8) → Prop) (h : amn text K) :
  d5 Tryd.prog 4 [st text] [(0, .cells [zU 110, zU 10, zU 114, zU 13, zU 116, zU 9].toArray te fre)] [] (fun o => (∃ (v : Tr) (v_1'_0 : Int) (v_1'_1 : Int) (v_1'_2 : List UInt8), K v v_1'_0 v_1'_1 v_1'_2 ∧ o = .ret (Value.tuple #[Tr.val v, Value.agg [zI v_1'_0, zI v_1'_1, st v_1'_2].toArray]) []) ∨ (False)) := by
 unfold amn at h
 refine alc (n := 33) (L0 := [(0, st text)]) Tryd.func4 rfl rfl rfl rfl (fun w0 M Q hE => ?_)
 refine WC.newPool ?_
 refine a6 (fun _ hK => ?_)
 refine a4 ?_
 refine WL.make (MV.alloc at2) rfl rfl rfl (fun b => ?_)
 refine WL.make (MV.alloc ac1) rfl rfl rfl (fun b_1' => ?_)
 refine WL.nil ?_
 refine kg (hK [(0, st text), (2, zP b), (3, zP b_1')] _ ?_)
 refine a6 (fun _ hK_1' => ?_)
 refine a6 (fun _ hK_2' => ?_)
 refine a4 ?_
 refine wm ?_
 refine wv (OV.len rfl j7) ?_
 refine wv (OV.gtr rfl rfl) ?_
 refine WL.nil ?_
 refine kg (hK_2' [(0, st text), (2, zP b), (3, zP b_1'), (8, zB (decide (1048576 < (text.length : Int))))] _ ?_)
 refine b6 (b := decide (1048576 < (text.length : Int))) rfl (fun hb => ?_) (fun hb => ?_)
 ·replace h := j4 h hb
  refine a6 (fun _ hK_3' => ?_)
  refine a4 ?_
  refine wv (OV.build rfl (cs := [zI 1, zI 0, st []]) rfl) ?_
  refine WL.store (vs := [Value.nilIface]) (cs' := [Value.nilIface]) 1 rfl rfl rfl rfl af5 (Nat.le_of_ble_eq_true rfl) rfl rfl rfl ?_
  refine WL.storeW (vs := [zI 1, zI 0, st []]) 0 rfl rfl rfl rfl rfl aak rfl rfl rfl ?_
  refine WL.nil ?_
  refine kg (hK_3' [(2, zP b), (3, zP b_1')] _ ?_)
  refine c9 ?_
  exact hE.ret (avr [] rfl rfl (.inl ⟨_, _, _, _, h, rfl⟩) (f9.of2 rfl (RV.cell rfl (At.own 1 rfl) rfl m4) (RV.row rfl (At.own 0 rfl) aab)))
 ·replace h := j5 h hb
  refine b7 ?_
  refine kg (hK_1' [(0, st text), (2, zP b), (3, zP b_1')] _ ?_)
  refine avp (fun K0_4' hK_4' => ?_)
  refine a4 ?_
  refine wv (OV.makeFunc rfl) ?_
  refine WL.defer rfl rfl ?_
  refine WL.nil ?_
  refine kg (hK_4' _ [(0, st text), (2, zP b), (3, zP b_1')] _ ?_)
  refine a6 (fun _ hK_5' => ?_)
  refine a4 ?_
  refine wm ?_
  refine wv (OV.build rfl (cs := [st text, zI 0, Value.slice none 0 0]) rfl) ?_
  refine WL.make (MV.box (cs := [st text, zI 0, Value.slice none 0 0]) rfl rfl) rfl rfl rfl (fun b_2' => ?_)
  refine WL.nilRow 3 1 t0 ?_
  refine wa ?_
  refine WL.nil ?_
  refine kg (hK_5' [(2, zP b), (3, zP b_1'), (4, zP b_2')] _ ?_)
  refine a6 (fun _ hK_6' => ?_)
  refine a4 ?_
  refine wm ?_
  obtain ⟨o_1', h⟩ := h
  obtain ⟨o_2', h⟩ := h
  refine WL.pick (H' := [HA.blk b_2' (.cells [st text, zI 0, Value.slice none 0 0].toArray 42 (0, 0)), HA.row (Value.slice none 0 0) 3 1 ([] : List Int).length (([] : List Int).flatMap t0), pool ([] : List (Nat × Obj)), HA.blk b_1' (.cells [zI 0, zI 0, st []].toArray 26 (0, 0)), HA.blk b (.cells [Tr.val Tr.none].toArray 23 (0, 0))]) [1, 0, 4, 2, 3] rfl rfl ?_
  refine WL.callS ao2 rfl (o_1' b_2' te fre (Value.slice none 0 0) ([] : List Int) ([] : List (Nat × Obj)) o_2') rfl ⟨.inr (List.mem_of_getElem? (i := 0) rfl), trivial⟩ rfl rfl (fun r H' hS => ?_) (fun c H' hS => ?_)
  ·rcases hS with ⟨sz, u, j, w, B, hc, ho⟩ | ⟨c, p, q, w_1', o, B_1', hc, ho⟩ <;> cases ho
   replace h := h.1 sz u j B hc
   refine WL.make (MV.alloc s9) rfl rfl rfl (fun b_3' => ?_)
   obtain ⟨o_3', h⟩ := h
   refine WL.storeW (vs := [zI sz, u]) 0 rfl rfl rfl rfl rfl j8 rfl (d4 rfl (d4 o_3' m6)) rfl ?_
   refine WL.nil ?_
   refine kg (hK_6' [(2, zP b), (3, zP b_1'), (4, zP b_2'), (5, zP b_3')] _ ?_)
   refine a6 (fun _ hK_7' => ?_)
   refine a6 (fun _ hK_8' => ?_)
   refine a4 ?_
   refine wm ?_
   refine WL.call (A := []) aa9 rfl (aar b_2' text j w) rfl ⟨.inl ⟨1, rfl⟩, trivial⟩ rfl rfl ?_
   refine wv (OV.not rfl) ?_
   refine WL.nil ?_
   refine kg (hK_8' [(2, zP b), (3, zP b_1'), (4, zP b_2'), (5, zP b_3'), (18, zB (!(decide ((text.length : Int) ≤ j))))] _ ?_)
   refine b6 (b := !(decide ((text.length : Int) ≤ j))) rfl (fun hb => ?_) (fun hb => ?_)
   ·replace h := j4 h hb
    refine a4 ?_
    refine wm ?_
    refine wm ?_
    refine wv (OV.nilCheck rfl) ?_
    refine wv (OV.fieldAddr0 rfl d9) ?_
    refine wv (OV.load rfl (At.own 1 rfl) rfl b5) ?_
    refine WL.callS ac3 rfl (acg (zP b_2') 20 j) rfl trivial rfl rfl (fun r H' hS => by cases hS) (fun c H' hS => ?_)
    cases hS
    exact hE.pan (ahc (A := [HA.blk b (.cells [Tr.val Tr.none].toArray 23 (0, 0)), HA.blk b_1' (.cells [zI 0, zI 0, st []].toArray 26 (0, 0))]) (A' := [HA.blk b (.cells [Tr.val Tr.none].toArray 23 (0, 0)), HA.blk b_1' (.cells [zI 20, zI j, st []].toArray 26 (0, 0))]) (Rest := [HA.blk b_3' (.cells [zI sz, u].toArray 45 (0, 0)), HA.blk b_2' (.cells [st text, zI j, w].toArray 42 (0, 0)), HA.row w 3 1 ([] : List Int).length (([] : List Int).flatMap t0), pool B]) [5, 4, 0, 1, 2, 3] rfl rfl ajj (am5 b b_1' Tr.none 0 0 [] 20 j []) (by intro hx; cases hx) rfl trivial [] rfl rfl (.inl ⟨_, _, _, _, h, rfl⟩) (f9.of2 rfl (RV.cell rfl (At.own 0 rfl) rfl m4) (RV.row rfl (At.own 1 rfl) aab)))
   ·replace h := j5 h hb
    refine b7 ?_
    refine kg (hK_7' [(2, zP b), (3, zP b_1'), (5, zP b_3')] _ ?_)
    refine a6 (fun _ hK_9' => ?_)
    refine a6 (fun _ hK_10' => ?_)
    refine a4 ?_
    refine wv (OV.fieldAddr0 rfl adb) ?_
    refine wv (OV.load rfl (At.own 0 rfl) rfl b5) ?_
    refine wv (OV.gtr rfl rfl) ?_
    refine WL.nil ?_
    refine kg (hK_10' [(2, zP b), (3, zP b_1'), (5, zP b_3'), (27, zB (decide (2000 < sz)))] _ ?_)
    refine b6 (b := decide (2000 < sz)) rfl (fun hb => ?_) (fun hb => ?_)
    ·replace h := j4 h hb
     refine a6 (fun _ hK_11' => ?_)
     refine a4 ?_
     refine wv (OV.build rfl (cs := [zI 24, zI 0, st []]) rfl) ?_
     refine WL.store (vs := [Value.nilIface]) (cs' := [Value.nilIface]) 5 rfl rfl rfl rfl af5 (Nat.le_of_ble_eq_true rfl) rfl rfl rfl ?_
     refine WL.storeW (vs := [zI 24, zI 0, st []]) 4 rfl rfl rfl rfl rfl aak rfl rfl rfl ?_
     refine WL.nil ?_
     refine kg (hK_11' [(2, zP b), (3, zP b_1')] _ ?_)
     refine c9 ?_
     exact hE.ret (ahc (A := [HA.blk b (.cells [Value.nilIface].toArray 23 (0, 0)), HA.blk b_1' (.cells [zI 24, zI 0, st []].toArray 26 (0, 0))]) (A' := [HA.blk b (.cells [Value.nilIface].toArray 23 (0, 0)), HA.blk b_1' (.cells [zI 24, zI 0, st []].toArray 26 (0, 0))]) (Rest := [HA.blk b_3' (.cells [zI sz, u].toArray 45 (0, 0)), HA.blk b_2' (.cells [st text, zI j, w].toArray 42 (0, 0)), HA.row w 3 1 ([] : List Int).length (([] : List Int).flatMap t0), pool B]) [5, 4, 0, 1, 2, 3] rfl rfl ajj (amq b b_1' Tr.none 24 0 []) (by intro hx; cases hx) rfl trivial [] rfl rfl (.inl ⟨_, _, _, _, h, rfl⟩) (f9.of2 rfl (RV.cell rfl (At.own 0 rfl) rfl m4) (RV.row rfl (At.own 1 rfl) aab)))
    ·replace h := j5 h hb
     refine b7 ?_
     refine kg (hK_9' [(2, zP b), (3, zP b_1'), (5, zP b_3')] _ ?_)
     refine a6 (fun _ hK_12' => ?_)
     refine a4 ?_
     refine wv (OV.fieldAddr0 rfl ada) ?_
     refine wv (OV.load rfl (At.own 0 rfl) rfl af2) ?_
     obtain ⟨y, o_4', h⟩ := h
     refine WL.cv (CV.value rfl o_4' rfl (Rd.pool 3 rfl)) rfl rfl rfl ?_
     refine wv (OV.build rfl (cs := [zI 0, zI 0, st []]) rfl) ?_
     refine WL.store (vs := [Tr.val y]) (cs' := [Tr.val y]) 5 rfl rfl rfl (Tr.val_cells _) af5 (Nat.le_of_ble_eq_true rfl) (d4 (Tr.val_one _) m6) rfl rfl ?_
     refine WL.storeW (vs := [zI 0, zI 0, st []]) 4 rfl rfl rfl rfl rfl aak rfl rfl rfl ?_
     refine WL.nil ?_
     refine kg (hK_12' [(2, zP b), (3, zP b_1')] _ ?_)
     refine c9 ?_
     exact hE.ret (ahc (A := [HA.blk b (.cells [Tr.val y].toArray 23 (0, 0)), HA.blk b_1' (.cells [zI 0, zI 0, st []].toArray 26 (0, 0))]) (A' := [HA.blk b (.cells [Tr.val y].toArray 23 (0, 0)), HA.blk b_1' (.cells [zI 0, zI 0, st []].toArray 26 (0, 0))]) (Rest := [HA.blk b_3' (.cells [zI sz, u].toArray 45 (0, 0)), HA.blk b_2' (.cells [st text, zI j, w].toArray 42 (0, 0)), HA.row w 3 1 ([] : List Int).length (([] : List Int).flatMap t0), pool B]) [5, 4, 0, 1, 2, 3] rfl rfl ajj (amq b b_1' y 0 0 []) (by intro hx; cases hx) rfl trivial [] rfl rfl (.inl ⟨_, _, _, _, h, rfl⟩) (f9.of2 rfl (RV.cell rfl (At.own 0 rfl) rfl m4) (RV.row rfl (At.own 1 rfl) aab)))
  ·rcases hS with ⟨sz, u, j, w, B, hc, ho⟩ | ⟨c, p, q, w_1', o, B_1', hc, ho⟩ <;> cases ho
   replace h := h.2 c p q o B_1' hc
   exact hE.pan (ahc (A := [HA.blk b (.cells [Tr.val Tr.none].toArray 23 (0, 0)), HA.blk b_1' (.cells [zI 0, zI 0, st []].toArray 26 (0, 0))]) (A' := [HA.blk b (.cells [Tr.val Tr.none].toArray 23 (0, 0)), HA.blk b_1' (.cells [zI c, zI p, st []].toArray 26 (0, 0))]) (Rest := [HA.blk b_2' (.cells [st text, zI q, w_1'].toArray 42 (0, 0)), HA.row w_1' 3 1 o.length (o.flatMap t0), pool B_1']) [4, 3, 0, 1, 2] rfl rfl ajj (am5 b b_1' Tr.none 0 0 [] c p []) (by intro hx; cases hx) rfl trivial [] rfl rfl (.inl ⟨_, _, _, _, h, rfl⟩) (f9.of2 rfl (RV.cell rfl (At.own 0 rfl) rfl m4) (RV.row rfl (At.own 1 rfl) aab)))
theorem aid (te : TypeId) (fre : Nat × Nat) (t : List UInt8) : d5 Tryd.prog 4 [st t] (z8 te fre) [] (Ret (.tuple #[(b8 t).val, .agg [.int .i64 (m3 t).1, .int .i64 (m3 t).2, st []].toArray]) []) := by
 refine (azh te fre t (fun v c p x => v = b8 t ∧ c = (m3 t).1 ∧ p = (m3 t).2 ∧ x = []) ?_).weak ?_
 ·have hE : ∀ e, w7 t = .error e → Tr.none = b8 t ∧ e.1 = (m3 t).1 ∧ e.2 = (m3 t).2 ∧ ([] : List UInt8) = [] := fun e h => by
   unfold b8 m3; rw [h]; exact ⟨rfl, rfl, rfl, rfl⟩
  unfold amn
  by_cases hl : 1048576 < t.length
  ·rw [if_pos (by simp; omega)]
   exact hE (1, 0) (by unfold w7; rw [if_pos hl])
  rw [if_neg (by simp; omega)]
  refine ⟨ajw t 0, ⟨by omega, by omega, by omega, by simp⟩, ?_, fun c p _ _ _ hR => hE (c, p) (by
   unfold w7; rw [if_neg hl, ai7 (R := .error (c, p)) ⟨_, hR, rfl⟩])⟩
  rintro n u j B ⟨g1, g2, g3, g4, x, g5, g6⟩
  refine ⟨g2.2, ?_⟩
  by_cases hj : j < t.length
  ·rw [if_pos (by simp; omega)]
   exact hE (20, j) (by unfold w7; rw [if_neg hl, ai7 (R := .error (20, j)) ⟨_, g5, by simp only [if_pos hj]⟩])
  rw [if_neg (by simp; omega)]
  have hT : af3 t = .ok x := ai7 ⟨_, g5, by simp only [if_neg hj]⟩
  have hn := g6.2
  by_cases hz : 2000 < x.size
  ·rw [if_pos (by simp; omega)]
   exact hE (24, 0) (by unfold w7; rw [if_neg hl, hT]; simp only [if_pos hz])
  ·rw [if_neg (by simp; omega)]
   have hP : w7 t = .ok x := by unfold w7; rw [if_neg hl, hT]; simp only [if_neg hz]
   refine ⟨x, g6.1, ?_⟩
   unfold b8 m3; rw [hP]; exact ⟨rfl, rfl, rfl, rfl⟩
 ·rintro o (⟨v, c, p, x, ⟨rfl, rfl, rfl, rfl⟩, rfl⟩ | h)
  ·rfl
  ·exact h.elim
end Go.Proofs.YtffhedoahdgniaaDoor
set_option maxRecDepth 100000
namespace Go.Proofs.YtffhedoahdgniaaDoor
open Go Go.RowKit
def ast (te : TypeId) (fre : Nat × Nat) (n : Tr) (K : (List UInt8) → Prop) : Prop :=
 (d5 Tryd.prog 13 [Tr.val n, zI 0] (z8 te fre) [] (Ret (st (a7 n 0)) [])) ∧
 K (a7 n 0)
theorem ayc (te : TypeId) (fre : Nat × Nat) (n : Tr) (K : (List UInt8) → Prop) (h : ast te fre n K) :
  d5 Tryd.prog 5 [Tr.val n] [(0, .cells [zU 110, zU 10, zU 114, zU 13, zU 116, zU 9].toArray te fre)] [] (fun o => (∃ (v : List UInt8), K v ∧ o = .ret (st v) []) ∨ (False)) := by
 unfold ast at h
 refine c8 (n := 5) (L0 := [(0, Tr.val n)]) Tryd.func5 rfl rfl rfl rfl (fun w0 M Q hE => ?_)
 refine a6 (fun _ hK => ?_)
 refine a4 ?_
 refine wa ?_
 refine WL.nil ?_
 refine kg (hK [(0, Tr.val n)] _ ?_)
 refine a6 (fun _ hK_1' => ?_)
 refine a4 ?_
 refine wm ?_
 obtain ⟨o, h⟩ := h
 refine WL.call (A := []) aba rfl (o) rfl ⟨.inr (List.mem_of_getElem? (i := 0) rfl), trivial⟩ rfl rfl ?_
 refine wa ?_
 refine WL.nil ?_
 refine kg (hK_1' [(2, st (a7 n 0))] _ ?_)
 refine c9 ?_
 exact hE.ret [] rfl rfl (.inl ⟨_, h, rfl⟩) (f9.of1 rfl (RV.tmp rfl))
theorem an2 (te : TypeId) (fre : Nat × Nat) (x : Tr) (h : x.size ≤ 1099511627776) : d5 Tryd.prog 5 [x.val] (z8 te fre) [] (Ret (st (a7 x 0)) []) := d5.one (ayc te fre x (fun v => v = a7 x 0) ⟨aa8 te fre x 0 h, rfl⟩)
theorem aw8 {t : List UInt8} {x : Tr} (hl : t.length ≤ 1048576) (hs : x.size ≤ 2000) (h : PR t .alt 0 0 (.ok (x, t.length))) : w7 t = .ok x := by
 unfold w7
 rw [if_neg (by omega), ai7 (R := .ok x) ⟨_, h, by simp⟩]
 simp only
 rw [if_neg (by omega)]
theorem a1w : w7 [97, 43] = .ok (.cat (.cls (ofS [97])) (.star (.cls (ofS [97])))) :=
 aw8 (by decide) (by decide) (.alt (.meet (.rowC (s := ofS [97]) (k := 1) (by decide) (by decide) (by kernel_rfl) (.one (by decide) (by decide) (.zero (by decide))) (.rowZ (by decide))) (.meetZ (by decide))) (.altZ (by decide)))
theorem a1j : aaf (ofS [97]) = [97] := by kernel_rfl
theorem adv : ∀ x : Tr, x.high ≤ x.size
 | .none | .eps | .cls _ => by simp [Tr.high, Tr.size]
 | .cat a b | .alt a b | .and a b | .minus a b => by have := adv a; have := adv b; simp only [Tr.high, Tr.size]; omega
 | .star a => by have := adv a; simp only [Tr.high, Tr.size]; omega
end Go.Proofs.YtffhedoahdgniaaDoor
namespace Go.Proofs.YtffhedoahdgniaaDoor
open Go Go.RowKit
def Sg (t : List UInt8) (i : Int) (s : List UInt8) : Prop := 0 ≤ i ∧ ∃ v, t.drop i.toNat = s ++ v
section
variable {t a b s : List UInt8} {i : Int} {c : UInt8}
theorem Sg.left (h : Sg t i (a ++ b)) : Sg t i a := by
 obtain ⟨h0, v, h⟩ := h
 exact ⟨h0, b ++ v, by rw [h, List.append_assoc]⟩
theorem Sg.right (h : Sg t i (a ++ b)) : Sg t (i + a.length) b := by
 obtain ⟨h0, v, h⟩ := h
 refine ⟨by omega, v, ?_⟩
 rw [show (i + (a.length : Int)).toNat = i.toNat + a.length by omega, ← List.drop_drop, h, List.append_assoc, List.drop_left]
theorem Sg.head (h : Sg t i (c :: s)) : i < t.length ∧ nx t i = (c.toNat : Int) := by
 obtain ⟨h0, v, h⟩ := h
 have hl : i.toNat < t.length := by
  have := congrArg List.length h
  rw [List.length_drop] at this
  simp at this; omega
 refine ⟨by omega, ?_⟩
 rw [List.drop_eq_getElem_cons hl] at h
 have e : t[i.toNat] = c := by injection h
 unfold nx
 rw [List.getD_eq_getElem?_getD, List.getElem?_eq_getElem hl, ← e]; rfl
end
def aqm (t : List UInt8) (k : Int) : Prop := k < t.length ∧ (nx t k = 42 ∨ nx t k = 43 ∨ nx t k = 63 ∨ nx t k = 123)
def aou (t : List UInt8) (k : Int) : Prop := ¬ (k < t.length ∧ nx t k ≠ 124 ∧ nx t k ≠ 38 ∧ nx t k ≠ 45 ∧ nx t k ≠ 41)
def alg (t : List UInt8) (k : Int) : Prop := ¬ (k < t.length ∧ nx t k ≠ 124 ∧ nx t k ≠ 41)
def a2k (t : List UInt8) (acc : Option Tr) (d : Nat) (x : Tr) (k : Int) (r : aex) : Prop := ∃ q, RP t x k q ∧ match q with
 | .error e => r = .error e
 | .ok (y, l) => PR t (.row (amw acc y)) d l r
def R3 (x : Tr) (s : List UInt8) (Q : Nat → Prop) : Prop := ∀ (t : List UInt8) (d : Nat) (i : Int) (acc : Option Tr) (r : aex), Sg t i s → Q d → a2k t acc d x (i + s.length) r → PR t (.row acc) d i r
def R2 (x : Tr) (s : List UInt8) (Q : Nat → Prop) : Prop := ∀ (t : List UInt8) (d : Nat) (i : Int) (r : aex), Sg t i s → Q d → ¬ aqm t (i + s.length) → PR t (.row (some x)) d (i + s.length) r → PR t (.row none) d i r
def R1 (x : Tr) (s : List UInt8) (Q : Nat → Prop) : Prop := ∀ (t : List UInt8) (d : Nat) (i : Int) (r : aex), Sg t i s → Q d → aou t (i + s.length) → PR t (.meetL x) d (i + s.length) r → PR t .meet d i r
def R0 (x : Tr) (s : List UInt8) (Q : Nat → Prop) : Prop := ∀ (t : List UInt8) (d : Nat) (i : Int) (r : aex), Sg t i s → Q d → alg t (i + s.length) → PR t (.altL x) d (i + s.length) r → PR t .alt d i r
section
variable {x a b : Tr} {s sa sb : List UInt8} {Q Q' Qa Qb : Nat → Prop}
theorem R3.weak (h : R3 x s Q) (hq : ∀ d, Q' d → Q d) : R3 x s Q' := fun t d i acc r hs hd => h t d i acc r hs (hq d hd)
theorem R2.weak (h : R2 x s Q) (hq : ∀ d, Q' d → Q d) : R2 x s Q' := fun t d i r hs hd => h t d i r hs (hq d hd)
theorem R1.weak (h : R1 x s Q) (hq : ∀ d, Q' d → Q d) : R1 x s Q' := fun t d i r hs hd => h t d i r hs (hq d hd)
theorem R0.weak (h : R0 x s Q) (hq : ∀ d, Q' d → Q d) : R0 x s Q' := fun t d i r hs hd => h t d i r hs (hq d hd)
theorem R3.r2 (h : R3 x s Q) : R2 x s Q := fun t d i r hs hd hp hr => h t d i none r hs hd ⟨_, .zero hp, hr⟩
theorem R2.r1 (h : R2 x s Q) : R1 x s Q := fun t d i r hs hd hp hr => .meet (h t d i _ hs hd (by unfold aqm; unfold aou at hp; omega) (.rowZ hp)) hr
theorem R1.r0 (h : R1 x s Q) : R0 x s Q := fun t d i r hs hd hp hr => .alt (h t d i _ hs hd (by unfold aou; unfold alg at hp; omega) (.meetZ (by unfold alg at hp; omega))) hr
theorem R0.wrap (h : R0 x s Q') (hq : ∀ d, Q d → d < 1000 ∧ Q' (d + 1)) : R3 x ([40] ++ s ++ [41]) Q := by
 rintro t d i acc r hs hd ⟨q, h1, h2⟩
 obtain ⟨q1, q2⟩ := hq d hd
 have ha : Sg t i ([40] ++ (s ++ [41])) := by rw [← List.append_assoc]; exact hs
 obtain ⟨c1, c2⟩ := Sg.head (s := s ++ [41]) ha
 have hb : Sg t (i + 1) (s ++ [41]) := ha.right
 obtain ⟨c3, c4⟩ := hb.right.head
 have c2' : nx t i = 40 := c2
 have c4' : nx t (i + 1 + s.length) = 41 := c4
 have h3 := h t (d + 1) (i + 1) _ hb.left q2 (by unfold alg; omega) (.altZ (by omega))
 have e : i + (([40] ++ s ++ [41] : List UInt8).length : Int) = i + 1 + s.length + 1 := by simp; omega
 rw [e] at h1
 cases q with
 | error er => simp only at h2; subst h2; exact .rowPR c1 c2' q1 h3 c3 h1
 | ok p => obtain ⟨y, l⟩ := p; exact .rowP c1 c2' q1 h3 c3 h1 h2
theorem R3.eps : R3 .eps [40, 41] (fun d => d < 1000) := by
 rintro t d i acc r hs hd ⟨q, h1, h2⟩
 have ha : Sg t i ([40] ++ [41]) := hs
 obtain ⟨c1, c2⟩ := hs.head
 obtain ⟨c3, c4⟩ := ha.right.head
 have c2' : nx t i = 40 := c2
 have c3' : i + 1 < t.length := c3
 have c4' : nx t (i + 1) = 41 := c4
 have h3 : PR t .alt (d + 1) (i + 1) (.ok (.eps, i + 1)) := .alt (.meet (.rowZ (by omega)) (.meetZ (by omega))) (.altZ (by omega))
 have e : i + (([40, 41] : List UInt8).length : Int) = i + 1 + 1 := by simp; omega
 rw [e] at h1
 cases q with
 | error er => simp only at h2; subst h2; exact .rowPR c1 c2' hd h3 c3' h1
 | ok p => obtain ⟨y, l⟩ := p; exact .rowP c1 c2' hd h3 c3' h1 h2
theorem R3.star (h : R3 a sa Qa) : R3 (.star a) (sa ++ [42]) Qa := by
 rintro t d i acc r hs hd ⟨q, h1, h2⟩
 obtain ⟨c1, c2⟩ := hs.right.head
 have c2' : nx t (i + sa.length) = 42 := c2
 refine h t d i acc r hs.left hd ⟨q, .one c1 (.inl c2') ?_, h2⟩
 rw [c2']
 rw [List.length_append] at h1
 show RP t (.star a) _ q
 rw [show i + (sa.length : Int) + 1 = i + ((sa.length + ([42] : List UInt8).length : Nat) : Int) by simp; omega]
 exact h1
theorem R2.cat (h : R2 a sa Qa) (h' : R3 b sb Qb) (hf : ∃ c v, sb = c :: v ∧ (c.toNat ≠ 42 ∧ c.toNat ≠ 43 ∧ c.toNat ≠ 63 ∧ c.toNat ≠ 123)) (hq : ∀ d, Q d → Qa d ∧ Qb d) : R2 (.cat a b) (sa ++ sb) Q := by
 rintro t d i r hs hd hp hr
 obtain ⟨q1, q2⟩ := hq d hd
 have hb := hs.right
 refine h t d i r hs.left q1 ?_ (h' t d _ (some a) r hb q2 ?_)
 ·obtain ⟨c, v, rfl, hc⟩ := hf
  obtain ⟨_, c2⟩ := hb.head
  unfold aqm; omega
 ·have e : i + (sa.length : Int) + sb.length = i + ((sa ++ sb).length : Int) := by rw [List.length_append]; omega
  rw [e]
  exact ⟨_, .zero hp, hr⟩
theorem R1.and (ch : UInt8) (hch : ch = 38 ∨ ch = 45) (h : R1 a sa Qa) (h' : R2 b sb Qb) (hq : ∀ d, Q d → Qa d ∧ Qb d) : R1 (ary ch.toNat a b) (sa ++ [ch] ++ sb) Q := by
 rintro t d i r hs hd hp hr
 obtain ⟨q1, q2⟩ := hq d hd
 have hs' : Sg t i (sa ++ ([ch] ++ sb)) := by rw [← List.append_assoc]; exact hs
 have hb := hs'.right
 obtain ⟨c1, c2⟩ := Sg.head (s := sb) hb
 have hc3 : (ch.toNat : Int) = 38 ∨ (ch.toNat : Int) = 45 := by rcases hch with rfl | rfl <;> simp
 have hc : Sg t (i + sa.length + 1) sb := hb.right
 have e : i + (sa.length : Int) + 1 + sb.length = i + ((sa ++ [ch] ++ sb).length : Int) := by simp only [List.length_append, List.length_cons, List.length_nil]; omega
 refine h t d i r hs'.left q1 (by unfold aou; omega) (.meetL c1 (by omega) (h' t d _ _ hc q2 ?_ (.rowZ ?_)) ?_)
 ·rw [e]; unfold aqm; unfold aou at hp; omega
 ·rw [e]; exact hp
 ·rw [c2, e]; exact hr
theorem R0.alt (h : R0 a sa Qa) (h' : R1 b sb Qb) (hq : ∀ d, Q d → Qa d ∧ Qb d) : R0 (.alt a b) (sa ++ [124] ++ sb) Q := by
 rintro t d i r hs hd hp hr
 obtain ⟨q1, q2⟩ := hq d hd
 have hs' : Sg t i (sa ++ ([124] ++ sb)) := by rw [← List.append_assoc]; exact hs
 have hb := hs'.right
 obtain ⟨c1, c2⟩ := Sg.head (s := sb) hb
 have c2' : nx t (i + sa.length) = 124 := c2
 have hc : Sg t (i + sa.length + 1) sb := hb.right
 have e : i + (sa.length : Int) + 1 + sb.length = i + ((sa ++ [124] ++ sb).length : Int) := by simp only [List.length_append, List.length_cons, List.length_nil]; omega
 refine h t d i r hs'.left q1 (by unfold alg; omega) (.altL c1 c2' (h' t d _ _ hc q2 ?_ (.meetZ ?_)) ?_)
 ·rw [e]; unfold aou; unfold alg at hp; omega
 ·rw [e]; unfold alg at hp; omega
 ·rw [e]; exact hr
end
theorem ap3 (b : Nat) (hb : b < 256) : ∃ c v, o4 b spL = c :: v ∧ ∀ q ∈ [124, 38, 45, 41, 42, 43, 63, 123, 40], c.toNat ≠ q := by
 unfold o4
 split
 ·exact ⟨_, _, rfl, by decide⟩
 ·split
  ·exact ⟨_, _, rfl, by decide⟩
  ·split
   ·exact ⟨_, _, rfl, by decide⟩
   ·rename_i hn
    refine ⟨_, _, rfl, fun q hq he => ?_⟩
    rw [show (b.toUInt8).toNat = b from by simp; omega] at he
    subst he
    simp at hq
    rcases hq with rfl | rfl | rfl | rfl | rfl | rfl | rfl | rfl | rfl <;> exact hn (by decide)
theorem akr (s : CS) : ∃ c v, aaf s = c :: v ∧ ∀ q ∈ [124, 38, 45, 41, 42, 43, 63, 123, 40], c.toNat ≠ q := by
 unfold aaf
 split
 ·rename_i h
  obtain ⟨b, hb, hn, _⟩ := asn h
  rw [hn]; exact ap3 b hb
 ·split
  ·exact ⟨_, _, rfl, by decide⟩
  ·exact ⟨_, _, rfl, by decide⟩
def aej (s : List UInt8) : Prop := ∃ c v, s = c :: v ∧ (c.toNat ≠ 42 ∧ c.toNat ≠ 43 ∧ c.toNat ≠ 63 ∧ c.toNat ≠ 123)
theorem aej.app {s v : List UInt8} (h : aej s) : aej (s ++ v) := by
 obtain ⟨c, u, rfl, h⟩ := h; exact ⟨c, u ++ v, rfl, h⟩
theorem aej.par {x : Tr} {n : Int} {s : List UInt8} (h : aej s) : aej (agc x n s) := by
 unfold agc; split
 ·exact ⟨40, s ++ [41], rfl, by decide⟩
 ·exact h
theorem aco : ∀ x : Tr, aej (v6 x)
 | .none => ⟨_, _, rfl, by decide⟩
 | .eps => ⟨_, _, rfl, by decide⟩
 | .cls s => by
  obtain ⟨c, v, h, hc⟩ := akr s
  exact ⟨c, v, h, hc 42 (by simp), hc 43 (by simp), hc 63 (by simp), hc 123 (by simp)⟩
 | .cat a b => by unfold v6; exact (aco a).par.app
 | .alt a b => by unfold v6; exact (aco a).par.app.app
 | .and a b => by unfold v6; exact (aco a).par.app.app
 | .minus a b => by unfold v6; exact (aco a).par.app.app
 | .star a => by unfold v6; exact (aco a).par.app
theorem R3.cls (s : CS) (Q : Nat → Prop) : R3 (.cls s) (aaf s) Q := by
 rintro t d i acc r hs hd ⟨q, h1, h2⟩
 obtain ⟨c, v, hv, hc⟩ := akr s
 have hs' := hs
 rw [hv] at hs'
 obtain ⟨c1, c2⟩ := hs'.head
 obtain ⟨h0, u, hu⟩ := hs
 have hm := a0i s (v := u) (p := i.toNat) (t := t) hu
 rw [show ((i.toNat : Nat) : Int) = i by omega, show ((i.toNat + (aaf s).length : Nat) : Int) = i + (aaf s).length by omega] at hm
 have hn : nx t i ∉ [124, 38, 45, 41, 42, 43, 63, 123, 40] := by
  rw [c2]
  intro hm
  simp at hm
  have := hc 124; have := hc 38; have := hc 45; have := hc 41; have := hc 42; have := hc 43; have := hc 63; have := hc 123; have := hc 40
  simp at *; omega
 cases q with
 | error er => simp only at h2; subst h2; exact .rowCR c1 hn hm h1
 | ok p => obtain ⟨y, l⟩ := p; exact .rowC c1 hn hm h1 h2
def Dp (x : Tr) (d : Nat) : Prop := 2 * d + x.size ≤ 2000
structure Reads (x : Tr) : Prop where
 h3 : R3 x (a7 x 3) (Dp x)
 h2 : R2 x (a7 x 2) (Dp x)
 h1 : R1 x (a7 x 1) (Dp x)
 h0 : R0 x (a7 x 0) (Dp x)
theorem aai {x : Tr} {n : Int} (h : n ≤ ago x) : a7 x n = v6 x := by unfold a7 agc; rw [if_neg (by omega)]
theorem adx {x : Tr} {n : Int} (h : ago x < n) : a7 x n = [40] ++ v6 x ++ [41] := by unfold a7 agc; rw [if_pos h]
theorem Reads.of3 {x : Tr} (hr : 3 ≤ ago x) (h : R3 x (v6 x) (Dp x)) : Reads x := by
 constructor
 ·rw [aai (by omega)]; exact h
 ·rw [aai (by omega)]; exact h.r2
 ·rw [aai (by omega)]; exact h.r2.r1
 ·rw [aai (by omega)]; exact h.r2.r1.r0
def Dq (x : Tr) (d : Nat) : Prop := 2 * d + x.size ≤ 2002
theorem Dp.q {x : Tr} (d : Nat) (h : Dp x d) : Dq x d := by unfold Dq; unfold Dp at h; omega
theorem Dp.in_ {x : Tr} (h3 : 3 ≤ x.size) (d : Nat) (h : Dp x d) : d < 1000 ∧ Dq x (d + 1) := by unfold Dq; unfold Dp at h; omega
theorem Reads.of2 {x : Tr} (hr : ago x = 2) (hz : 3 ≤ x.size) (h : R2 x (v6 x) (Dq x)) : Reads x := by
 constructor
 ·rw [adx (by omega)]; exact h.r1.r0.wrap (Dp.in_ hz)
 ·rw [aai (by omega)]; exact h.weak Dp.q
 ·rw [aai (by omega)]; exact (h.weak Dp.q).r1
 ·rw [aai (by omega)]; exact (h.weak Dp.q).r1.r0
theorem Reads.of1 {x : Tr} (hr : ago x = 1) (hz : 3 ≤ x.size) (h : R1 x (v6 x) (Dq x)) : Reads x := by
 have hw := h.r0.wrap (Dp.in_ hz)
 constructor
 ·rw [adx (by omega)]; exact hw
 ·rw [adx (by omega)]; exact hw.r2
 ·rw [aai (by omega)]; exact h.weak Dp.q
 ·rw [aai (by omega)]; exact (h.weak Dp.q).r0
theorem Reads.of0 {x : Tr} (hr : ago x = 0) (hz : 3 ≤ x.size) (h : R0 x (v6 x) (Dq x)) : Reads x := by
 have hw := h.wrap (Dp.in_ hz)
 constructor
 ·rw [adx (by omega)]; exact hw
 ·rw [adx (by omega)]; exact hw.r2
 ·rw [adx (by omega)]; exact hw.r2.r1
 ·rw [aai (by omega)]; exact h.weak Dp.q
theorem reads : ∀ x : Tr, x.solid → Reads x
 | .none, h => h.elim
 | .eps, _ => .of3 (by decide) (R3.eps.weak fun d h => by unfold Dp at h; simp only [Tr.size] at h; omega)
 | .cls s, _ => .of3 (show (3 : Int) ≤ 4 by decide) (R3.cls s _)
 | .star a, h => .of3 (show (3 : Int) ≤ 3 by decide) ((reads a h).h3.star.weak fun d h => by unfold Dp at *; simp only [Tr.size] at h; omega)
 | .cat a b, h => by
  have ha := a.size_pos; have hb := b.size_pos
  refine .of2 rfl (by simp only [Tr.size]; omega) ?_
  exact (reads a h.1).h2.cat (reads b h.2).h3 ((aco b).par) fun d h => by unfold Dp Dq at *; simp only [Tr.size] at h; omega
 | .and a b, h => by
  have ha := a.size_pos; have hb := b.size_pos
  refine .of1 rfl (by simp only [Tr.size]; omega) ?_
  exact (reads a h.1).h1.and 38 (.inl rfl) (reads b h.2).h2 fun d h => by unfold Dp Dq at *; simp only [Tr.size] at h; omega
 | .minus a b, h => by
  have ha := a.size_pos; have hb := b.size_pos
  refine .of1 rfl (by simp only [Tr.size]; omega) ?_
  exact (reads a h.1).h1.and 45 (.inr rfl) (reads b h.2).h2 fun d h => by unfold Dp Dq at *; simp only [Tr.size] at h; omega
 | .alt a b, h => by
  have ha := a.size_pos; have hb := b.size_pos
  refine .of0 rfl (by simp only [Tr.size]; omega) ?_
  exact (reads a h.1).h0.alt (reads b h.2).h1 fun d h => by unfold Dp Dq at *; simp only [Tr.size] at h; omega
theorem aum (b e : Nat) (h : b ≤ e) : (abm b e).length ≤ 3 * (e - b + 2) := by
 have h1 := u7 b inL
 have h2 := u7 e inL
 unfold abm
 by_cases c1 : b + 1 < e <;> by_cases c2 : b < e <;> simp [c1, c2] <;> omega
theorem akw (s : CS) : ∀ k, k ≤ 256 → ((k = 0 ∨ s.getLsbD (k - 1) = false) → (m7 s k).length ≤ 3 * k) ∧ (0 < k → s.getLsbD (k - 1) = true → (m7 s k).length ≤ 3 * (u9 s (k - 1) + 2))
 | 0, _ => ⟨fun _ => by simp [m7], fun h => by omega⟩
 | k + 1, hk => by
  obtain ⟨i1, i2⟩ := akw s k (by omega)
  have hend : ∀ j, j ≤ 255 → j ≤ u9 s j ∧ u9 s j ≤ 255 ∧ (∀ i, j < i → i ≤ u9 s j → s.getLsbD i = true) ∧ (u9 s j < 255 → s.getLsbD (u9 s j + 1) = false) := fun j hj => adm s 256 j (by omega) (by omega)
  obtain ⟨r1, r2, r3, r4⟩ := hend k (by omega)
  rw [Nat.add_sub_cancel]
  by_cases hb : s.getLsbD k = true
  ·refine ⟨fun h => ?_, fun _ _ => ?_⟩
   ·rcases h with h | h
    ·omega
    ·rw [hb] at h; cases h
   ·simp only [m7, List.length_append]
    by_cases hs : k = 0 ∨ s.getLsbD (k - 1) = false
    ·have h1 := i1 hs
     have h2 : (abk s k).length ≤ 3 * (u9 s k - k + 2) := by
      unfold abk; split
      ·exact aum _ _ r1
      ·simp
     omega
    ·have h0 : 0 < k ∧ s.getLsbD (k - 1) = true := by
      by_cases hz : k = 0
      ·exact absurd (.inl hz) hs
      ·exact ⟨by omega, by cases h : s.getLsbD (k - 1) with
        | true => rfl
        | false => exact absurd (.inr h) hs⟩
     have h1 := i2 h0.1 h0.2
     have h2 : abk s k = [] := by
      unfold abk
      rw [if_neg (by simp [h0.2]; omega)]
     obtain ⟨p1, p2, p3, p4⟩ := hend (k - 1) (by omega)
     have h3 : u9 s (k - 1) = u9 s k := ac0 (by omega) r2 (fun i hi1 hi2 => by
      by_cases he : i = k
      ·rw [he]; exact hb
      ·exact r3 i (by omega) hi2) r4
     rw [h2, ← h3]; simp; exact h1
  ·have hb' : s.getLsbD k = false := by cases h : s.getLsbD k with
    | true => exact absurd h hb
    | false => rfl
   refine ⟨fun _ => ?_, fun _ h => absurd h hb⟩
   rw [ah9 hb']
   by_cases hs : k = 0 ∨ s.getLsbD (k - 1) = false
   ·have := i1 hs; omega
   ·have h0 : 0 < k ∧ s.getLsbD (k - 1) = true := by
     by_cases hz : k = 0
     ·exact absurd (.inl hz) hs
     ·exact ⟨by omega, by cases h : s.getLsbD (k - 1) with
       | true => rfl
       | false => exact absurd (.inr h) hs⟩
    have h1 := i2 h0.1 h0.2
    have h3 : u9 s (k - 1) = k - 1 := ac0 (by omega) (by omega) (fun i hi1 hi2 => by omega) (fun _ => by rw [show k - 1 + 1 = k by omega]; exact hb')
    rw [h3] at h1; omega
theorem anz (s : CS) : (m7 s 256).length ≤ 771 := by
 obtain ⟨h1, h2⟩ := akw s 256 (by omega)
 by_cases hb : s.getLsbD 255 = true
 ·have h3 := h2 (by omega) hb
  have h4 : u9 s 255 ≤ 255 := (adm s 256 255 (by omega) (by omega)).2.1
  have h5 : (m7 s 256).length ≤ 3 * (u9 s 255 + 2) := h3
  omega
 ·have := h1 (.inr (by cases h : s.getLsbD (256 - 1) with
   | true => exact absurd h hb
   | false => rfl))
  omega
theorem axd (s : CS) : (aaf s).length ≤ 780 := by
 unfold aaf
 have h1 := anz s; have h2 := anz (~~~ s); have h3 := u7 ((abd s 0).getD 0) spL
 split
 ·omega
 ·split <;> simp only [List.length_append, List.length_cons, List.length_nil] <;> omega
theorem ahj : ∀ x : Tr, (v6 x).length ≤ 400 * x.size + 390
 | .none | .eps => by simp [v6, Tr.size]
 | .cls s => by have := axd s; simp only [v6, Tr.size]; omega
 | .cat a b | .alt a b | .and a b | .minus a b => by
  have h1 := ahj a; have h2 := ahj b
  simp only [v6, Tr.size, List.length_append, List.length_cons, List.length_nil]
  have h3 := fun n => aei a n (v6 a); have h4 := fun n => aei b n (v6 b)
  have h5 := h3 0; have h6 := h3 1; have h7 := h3 2; have h8 := h4 1; have h9 := h4 2; have h10 := h4 3
  omega
 | .star a => by
  have h1 := ahj a; have h3 := aei a 3 (v6 a)
  simp only [v6, Tr.size, List.length_append, List.length_cons, List.length_nil]
  omega
theorem auf {x : Tr} (h : x.size ≤ 2000) : (a7 x 0).length ≤ 1048576 := by
 have := ahj x
 rw [aai (by cases x <;> simp [ago])]; omega
theorem auc {x : Tr} (hx : x.solid) (hs : x.size ≤ 2000) : w7 (a7 x 0) = .ok x := by
 have hl := auf hs
 have hsg : Sg (a7 x 0) 0 (a7 x 0) := ⟨by omega, [], by simp⟩
 have h := (reads x hx).h0 (a7 x 0) 0 0 (.ok (x, (a7 x 0).length)) hsg (by unfold Dp; omega) (by unfold alg; omega) (by
  rw [Int.zero_add]; exact .altZ (by omega))
 unfold w7
 rw [if_neg (by omega), ai7 (R := .ok x) ⟨_, h, by simp⟩]
 simp only
 rw [if_neg (by omega)]
end Go.Proofs.YtffhedoahdgniaaDoor
set_option maxRecDepth 100000
namespace Go.Proofs.YtffhedoahdgniaaDoor
open Go Go.RowKit
theorem aob : r8 Tryd.prog 4 = true := by kernel_rfl
theorem arx : r8 Tryd.prog 5 = true := by kernel_rfl
theorem asu : r8 Tryd.prog 6 = true := by kernel_rfl
theorem az3 : r8 Tryd.prog 7 = true := by kernel_rfl
theorem anw : r8 Tryd.prog 8 = true := by kernel_rfl
def aqe (text : List UInt8) (w : List UInt8) (K : Bool → Prop) : Prop :=
 ((!o0 [decide ((m3 ([97, 43] : List UInt8)).1 = 0), decide ((m3 ([97, 43] : List UInt8)).2 = 0), decide (([] : List UInt8) = [])]) = false → (Tr.size (b8 ([97, 43] : List UInt8)) ≤ 1099511627776)) ∧
 (if ((!o0 [decide ((m3 ([97, 43] : List UInt8)).1 = 0), decide ((m3 ([97, 43] : List UInt8)).2 = 0), decide (([] : List UInt8) = [])]) || (!decide (a7 (b8 ([97, 43] : List UInt8)) 0 = ([97, 97, 42] : List UInt8)))) = true then
  K false
 else
  (
   (if (!((o0 [decide ((m3 text).1 = 0), decide ((m3 text).2 = 0), decide (([] : List UInt8) = [])]) == (decide ((m3 text).1 = 0)))) = true then
    K false
   else
    (if (!decide ((m3 text).1 = 0)) = true then
     K true
    else
     (Tr.size (b8 text) ≤ 1099511627776) ∧
     (
      (((decide ((m3 (a7 (b8 text) 0)).1 = 0)) && (o0 [decide ((m3 (a7 (b8 text) 0)).1 = 0), decide ((m3 (a7 (b8 text) 0)).2 = 0), decide (([] : List UInt8) = [])])) = true → (Tr.high (b8 text) ≤ 4000)) ∧
      ((((decide ((m3 (a7 (b8 text) 0)).1 = 0)) && (o0 [decide ((m3 (a7 (b8 text) 0)).1 = 0), decide ((m3 (a7 (b8 text) 0)).2 = 0), decide (([] : List UInt8) = [])])) && (decide (Tr.whole (b8 text) = Tr.whole (b8 (a7 (b8 text) 0))))) = true → (azq (reN text) (q8 text) ∧ 24 * (w.length + 1) ≤ 281474976710656) ∧ (azq (reN (a7 (b8 text) 0)) (q8 (a7 (b8 text) 0)) ∧ 24 * (w.length + 1) ≤ 281474976710656)) ∧
      (((((decide ((m3 (a7 (b8 text) 0)).1 = 0)) && (o0 [decide ((m3 (a7 (b8 text) 0)).1 = 0), decide ((m3 (a7 (b8 text) 0)).2 = 0), decide (([] : List UInt8) = [])])) && (decide (Tr.whole (b8 text) = Tr.whole (b8 (a7 (b8 text) 0))))) && ((aav w (u6 (reN text) (q8 text))) == (aav w (u6 (reN (a7 (b8 text) 0)) (q8 (a7 (b8 text) 0)))))) = true → (aes Tryd.prog (Tr.val (b8 text)) "Nullable" [] (zB ((b8 text).null))) ∧ (azq (reN text) (q8 text) ∧ 24 * (([] : List UInt8).length + 1) ≤ 281474976710656)) ∧
      K (((((decide ((m3 (a7 (b8 text) 0)).1 = 0)) && (o0 [decide ((m3 (a7 (b8 text) 0)).1 = 0), decide ((m3 (a7 (b8 text) 0)).2 = 0), decide (([] : List UInt8) = [])])) && (decide (Tr.whole (b8 text) = Tr.whole (b8 (a7 (b8 text) 0))))) && ((aav w (u6 (reN text) (q8 text))) == (aav w (u6 (reN (a7 (b8 text) 0)) (q8 (a7 (b8 text) 0)))))) && (((b8 text).null) == (aav ([] : List UInt8) (u6 (reN text) (q8 text))))))))))
theorem a0n (te : TypeId) (fre : Nat × Nat) (text : List UInt8) (w : List UInt8) (K : Bool → Prop) (h : aqe text w K) :
  d5 Tryd.prog 3 [st text, st w] [(0, .cells [zU 110, zU 10, zU 114, zU 13, zU 116, zU 9].toArray te fre)] [] (fun o => (∃ (v : Bool), K v ∧ o = .ret (zB v) []) ∨ (False)) := by
 unfold aqe at h
 refine c8 (n := 89) (L0 := [(0, st text), (1, st w)]) Tryd.func3 rfl rfl rfl rfl (fun w0 M Q hE => ?_)
 refine a6 (fun _ hK => ?_)
 refine a4 ?_
 refine wa ?_
 refine WL.nil ?_
 refine kg (hK [(0, st text), (1, st w)] _ ?_)
 refine a6 (fun _ hK_1' => ?_)
 refine a4 ?_
 refine WL.call (A := []) aob rfl (aid te fre ([97, 43] : List UInt8)) rfl ⟨.inr (List.mem_of_getElem? (i := 0) rfl), trivial⟩ rfl rfl ?_
 refine wm ?_
 refine wv (OV.extract 0 rfl rfl) ?_
 refine wv (OV.extract 1 rfl rfl) ?_
 refine WL.make (MV.alloc ac1) rfl rfl rfl (fun b => ?_)
 refine wa ?_
 refine WL.storeW (vs := [zI ((m3 ([97, 43] : List UInt8)).1), zI ((m3 ([97, 43] : List UInt8)).2), st []]) 0 rfl rfl rfl rfl rfl aak rfl rfl rfl ?_
 refine WL.nil ?_
 refine kg (hK_1' [(0, st text), (1, st w), (5, Tr.val (b8 ([97, 43] : List UInt8))), (6, zP b)] _ ?_)
 refine a6 (fun _ hK_2' => ?_)
 refine a6 (fun _ hK_3' => ?_)
 refine a4 ?_
 refine wv (OV.loadR rfl (At.own 0 rfl) aab) ?_
 refine wv (OV.build rfl (cs := [zI 0, zI 0, st []]) rfl) ?_
 refine wv (OV.neqF (rs := [decide ((m3 ([97, 43] : List UInt8)).1 = 0), decide ((m3 ([97, 43] : List UInt8)).2 = 0), decide (([] : List UInt8) = [])]) rfl rfl Tryd.underlying26 aeq ag7 ⟨rfl, afs, ⟨_, _, rfl, rfl, aa3.int Tryd.underlying24⟩, ⟨rfl, b5, ⟨_, _, rfl, rfl, aa3.int Tryd.underlying3⟩, ⟨rfl, w6, ⟨_, _, rfl, rfl, aa3.str Tryd.underlying9⟩, trivial⟩⟩⟩) ?_
 refine wm ?_
 obtain ⟨o_1', h⟩ := h
 refine WL.cut 4 [(0, st text), (1, st w), (28, zB ((!o0 [decide ((m3 ([97, 43] : List UInt8)).1 = 0), decide ((m3 ([97, 43] : List UInt8)).2 = 0), decide (([] : List UInt8) = [])]) || (!decide (a7 (b8 ([97, 43] : List UInt8)) 0 = ([97, 97, 42] : List UInt8)))))] ?_ (fun K0_4' hK_4' => ?_)
 rotate_left
 ·refine WL.split (!o0 [decide ((m3 ([97, 43] : List UInt8)).1 = 0), decide ((m3 ([97, 43] : List UInt8)).2 = 0), decide (([] : List UInt8) = [])]) (fun hb => ?_) (fun hb => ?_)
  ·refine WL.set 24 rfl (congrArg zB hb) ?_
   refine wk ?_
   refine wk ?_
   refine wk ?_
   refine wv (OV.pickT rfl rfl) ?_
   refine WL.set 28 rfl (oT (v := !decide (a7 (b8 ([97, 43] : List UInt8)) 0 = ([97, 97, 42] : List UInt8))) hb) ?_
   exact WL.end_ (kg hK_4')
  ·have o := o_1' hb
   refine WL.set 24 rfl (congrArg zB hb) ?_
   refine wm ?_
   refine WL.call (A := []) arx rfl (an2 te fre (b8 ([97, 43] : List UInt8)) o) rfl ⟨.inr (List.mem_of_getElem? (i := 0) rfl), trivial⟩ rfl rfl ?_
   refine wv (OV.neqS rfl rfl) ?_
   refine wv (OV.pickF rfl rfl) ?_
   refine WL.set 28 rfl (oF (v := !decide (a7 (b8 ([97, 43] : List UInt8)) 0 = ([97, 97, 42] : List UInt8))) hb) ?_
   exact WL.end_ (kg hK_4')
 refine WL.nil ?_
 refine kg (hK_3' [(0, st text), (1, st w), (28, zB ((!o0 [decide ((m3 ([97, 43] : List UInt8)).1 = 0), decide ((m3 ([97, 43] : List UInt8)).2 = 0), decide (([] : List UInt8) = [])]) || (!decide (a7 (b8 ([97, 43] : List UInt8)) 0 = ([97, 97, 42] : List UInt8)))))] _ ?_)
 refine b6 (b := (!o0 [decide ((m3 ([97, 43] : List UInt8)).1 = 0), decide ((m3 ([97, 43] : List UInt8)).2 = 0), decide (([] : List UInt8) = [])]) || (!decide (a7 (b8 ([97, 43] : List UInt8)) 0 = ([97, 97, 42] : List UInt8)))) rfl (fun hb => ?_) (fun hb => ?_)
 ·replace h := j4 h hb
  refine a6 (fun _ hK_5' => ?_)
  refine a4 ?_
  refine wa ?_
  refine WL.nil ?_
  refine kg (hK_5' [(4, zB false)] _ ?_)
  refine c9 ?_
  exact hE.ret [] rfl rfl (.inl ⟨_, h, rfl⟩) (f9.of1 rfl (RV.tmp rfl))
 ·replace h := j5 h hb
  refine b7 ?_
  refine kg (hK_2' [(0, st text), (1, st w)] _ ?_)
  refine a6 (fun _ hK_6' => ?_)
  refine a4 ?_
  refine wm ?_
  refine WL.call (A := []) aob rfl (aid te fre text) rfl ⟨.inr (List.mem_of_getElem? (i := 0) rfl), trivial⟩ rfl rfl ?_
  refine wm ?_
  refine wv (OV.extract 0 rfl rfl) ?_
  refine wv (OV.extract 1 rfl rfl) ?_
  refine WL.make (MV.alloc ac1) rfl rfl rfl (fun b_1' => ?_)
  refine wa ?_
  refine WL.storeW (vs := [zI ((m3 text).1), zI ((m3 text).2), st []]) 0 rfl rfl rfl rfl rfl aak rfl rfl rfl ?_
  refine WL.nil ?_
  refine kg (hK_6' [(0, st text), (1, st w), (7, Tr.val (b8 text)), (8, zP b_1')] _ ?_)
  refine a6 (fun _ hK_7' => ?_)
  refine a4 ?_
  refine wm ?_
  refine WL.callS asu rfl (akt text) rfl trivial rfl rfl (fun r H' hS => ?_) (fun c H' hS => ?_)
  ·obtain ⟨w_1', ho⟩ := hS
   cases ho
   refine wm ?_
   refine wv (OV.extract 0 rfl rfl) ?_
   refine wv (OV.extract 1 rfl rfl) ?_
   refine wv (OV.extract 2 rfl rfl) ?_
   refine WL.make (MV.alloc af1) rfl rfl rfl (fun b_2' => ?_)
   refine WL.nilRow 63 261 ndC ?_
   refine WL.rowOne 2 rfl (fun hone => ?_)
   refine WL.storeW (vs := [w_1', zI (q8 text)]) 1 rfl rfl rfl rfl rfl aah rfl (d4 hone (d4 rfl m6)) rfl ?_
   refine wa ?_
   refine wa ?_
   refine WL.nil ?_
   refine kg (hK_7' [(1, st w), (7, Tr.val (b8 text)), (8, zP b_1'), (9, zP b_2'), (10, zI ((m3 text).1))] _ ?_)
   refine a6 (fun _ hK_8' => ?_)
   refine a6 (fun _ hK_9' => ?_)
   refine a4 ?_
   refine wv (OV.loadR rfl (At.own 3 rfl) aab) ?_
   refine wv (OV.build rfl (cs := [zI 0, zI 0, st []]) rfl) ?_
   refine wv (OV.eqlF (rs := [decide ((m3 text).1 = 0), decide ((m3 text).2 = 0), decide (([] : List UInt8) = [])]) rfl rfl Tryd.underlying26 aeq ag7 ⟨rfl, afs, ⟨_, _, rfl, rfl, aa3.int Tryd.underlying24⟩, ⟨rfl, b5, ⟨_, _, rfl, rfl, aa3.int Tryd.underlying3⟩, ⟨rfl, w6, ⟨_, _, rfl, rfl, aa3.str Tryd.underlying9⟩, trivial⟩⟩⟩) ?_
   refine wm ?_
   refine wv (OV.eql rfl rfl) ?_
   refine wv (OV.neqB rfl rfl Tryd.underlying4) ?_
   refine WL.nil ?_
   refine kg (hK_9' [(1, st w), (7, Tr.val (b8 text)), (9, zP b_2'), (10, zI ((m3 text).1)), (45, zB (!((o0 [decide ((m3 text).1 = 0), decide ((m3 text).2 = 0), decide (([] : List UInt8) = [])]) == (decide ((m3 text).1 = 0)))))] _ ?_)
   refine b6 (b := !((o0 [decide ((m3 text).1 = 0), decide ((m3 text).2 = 0), decide (([] : List UInt8) = [])]) == (decide ((m3 text).1 = 0)))) rfl (fun hb => ?_) (fun hb => ?_)
   ·replace h := j4 h hb
    refine a6 (fun _ hK_10' => ?_)
    refine a4 ?_
    refine wa ?_
    refine WL.nil ?_
    refine kg (hK_10' [(4, zB false)] _ ?_)
    refine c9 ?_
    exact hE.ret [] rfl rfl (.inl ⟨_, h, rfl⟩) (f9.of1 rfl (RV.tmp rfl))
   ·replace h := j5 h hb
    refine b7 ?_
    refine kg (hK_8' [(1, st w), (7, Tr.val (b8 text)), (9, zP b_2'), (10, zI ((m3 text).1))] _ ?_)
    refine a6 (fun _ hK_11' => ?_)
    refine a6 (fun _ hK_12' => ?_)
    refine a4 ?_
    refine wm ?_
    refine wv (OV.neq rfl rfl) ?_
    refine WL.nil ?_
    refine kg (hK_12' [(1, st w), (7, Tr.val (b8 text)), (9, zP b_2'), (47, zB (!decide ((m3 text).1 = 0)))] _ ?_)
    refine b6 (b := !decide ((m3 text).1 = 0)) rfl (fun hb => ?_) (fun hb => ?_)
    ·replace h := j4 h hb
     refine a6 (fun _ hK_13' => ?_)
     refine a4 ?_
     refine wa ?_
     refine WL.nil ?_
     refine kg (hK_13' [(4, zB true)] _ ?_)
     refine c9 ?_
     exact hE.ret [] rfl rfl (.inl ⟨_, h, rfl⟩) (f9.of1 rfl (RV.tmp rfl))
    ·replace h := j5 h hb
     refine b7 ?_
     refine kg (hK_11' [(1, st w), (7, Tr.val (b8 text)), (9, zP b_2')] _ ?_)
     refine a6 (fun _ hK_14' => ?_)
     refine a4 ?_
     refine wm ?_
     obtain ⟨o_2', h⟩ := h
     refine WL.call (A := []) arx rfl (an2 te fre (b8 text) o_2') rfl ⟨.inr (List.mem_of_getElem? (i := 0) rfl), trivial⟩ rfl rfl ?_
     refine wa ?_
     refine WL.nil ?_
     refine kg (hK_14' [(1, st w), (7, Tr.val (b8 text)), (9, zP b_2'), (12, st (a7 (b8 text) 0))] _ ?_)
     refine a6 (fun _ hK_15' => ?_)
     refine a4 ?_
     refine wm ?_
     refine WL.callS asu rfl (akt (a7 (b8 text) 0)) rfl trivial rfl rfl (fun r H' hS => ?_) (fun c H' hS => ?_)
     ·obtain ⟨w_2', ho⟩ := hS
      cases ho
      refine wm ?_
      refine wv (OV.extract 0 rfl rfl) ?_
      refine wv (OV.extract 1 rfl rfl) ?_
      refine wv (OV.extract 2 rfl rfl) ?_
      refine WL.make (MV.alloc af1) rfl rfl rfl (fun b_3' => ?_)
      refine WL.nilRow 63 261 ndC ?_
      refine WL.rowOne 2 rfl (fun hone => ?_)
      refine WL.storeW (vs := [w_2', zI (q8 (a7 (b8 text) 0))]) 1 rfl rfl rfl rfl rfl aah rfl (d4 hone (d4 rfl m6)) rfl ?_
      refine wa ?_
      refine wa ?_
      refine WL.nil ?_
      refine kg (hK_15' [(1, st w), (7, Tr.val (b8 text)), (9, zP b_2'), (10, zI ((m3 (a7 (b8 text) 0)).1)), (12, st (a7 (b8 text) 0)), (13, zP b_3')] _ ?_)
      refine a6 (fun _ hK_16' => ?_)
      refine a4 ?_
      refine wm ?_
      refine WL.call (A := []) aob rfl (aid te fre (a7 (b8 text) 0)) rfl ⟨.inr (List.mem_of_getElem? (i := 0) rfl), trivial⟩ rfl rfl ?_
      refine wm ?_
      refine wv (OV.extract 0 rfl rfl) ?_
      refine wv (OV.extract 1 rfl rfl) ?_
      refine WL.make (MV.alloc ac1) rfl rfl rfl (fun b_4' => ?_)
      refine wa ?_
      refine WL.storeW (vs := [zI ((m3 (a7 (b8 text) 0)).1), zI ((m3 (a7 (b8 text) 0)).2), st []]) 0 rfl rfl rfl rfl rfl aak rfl rfl rfl ?_
      refine WL.nil ?_
      refine kg (hK_16' [(1, st w), (7, Tr.val (b8 text)), (9, zP b_2'), (10, zI ((m3 (a7 (b8 text) 0)).1)), (13, zP b_3'), (15, Tr.val (b8 (a7 (b8 text) 0))), (16, zP b_4')] _ ?_)
      refine a6 (fun _ hK_17' => ?_)
      refine as4 [] g8 (by kernel_rfl) rfl (fun T hT => ?_)
      refine fv (fun _ => OV.move rfl) ?_
      refine fv (fun _ => OV.eql rfl rfl) ?_
      refine fv (fun _ => OV.move rfl) ?_
      refine FL.cut 4 rfl (fun _ => [(1, st w), (7, Tr.val (b8 text)), (9, zP b_2'), (13, zP b_3'), (15, Tr.val (b8 (a7 (b8 text) 0))), (67, zB ((decide ((m3 (a7 (b8 text) 0)).1 = 0)) && (o0 [decide ((m3 (a7 (b8 text) 0)).1 = 0), decide ((m3 (a7 (b8 text) 0)).2 = 0), decide (([] : List UInt8) = [])])))]) ?_ (fun K0_18' hK_18' => ?_)
      rotate_left
      ·refine FL.split (decide ((m3 (a7 (b8 text) 0)).1 = 0)) (fun hb => ?_) (fun hb => ?_)
       ·refine FL.set 63 (fun _ => rfl) (congrArg zB hb) ?_
        refine fv (fun _ => OV.loadR rfl (At.own 0 rfl) aab) ?_
        refine fv (fun _ => OV.build rfl (cs := [zI 0, zI 0, st []]) rfl) ?_
        refine fv (fun _ => OV.eqlF (rs := [decide ((m3 (a7 (b8 text) 0)).1 = 0), decide ((m3 (a7 (b8 text) 0)).2 = 0), decide (([] : List UInt8) = [])]) rfl rfl Tryd.underlying26 aeq ag7 ⟨rfl, afs, ⟨_, _, rfl, rfl, aa3.int Tryd.underlying24⟩, ⟨rfl, b5, ⟨_, _, rfl, rfl, aa3.int Tryd.underlying3⟩, ⟨rfl, w6, ⟨_, _, rfl, rfl, aa3.str Tryd.underlying9⟩, trivial⟩⟩⟩) ?_
        refine fv (fun _ => OV.pickT rfl rfl) ?_
        refine FL.set 67 (fun _ => rfl) (bT (v := o0 [decide ((m3 (a7 (b8 text) 0)).1 = 0), decide ((m3 (a7 (b8 text) 0)).2 = 0), decide (([] : List UInt8) = [])]) hb) ?_
        exact FL.weak (L' := fun _ => [(1, st w), (7, Tr.val (b8 text)), (9, zP b_2'), (13, zP b_3'), (15, Tr.val (b8 (a7 (b8 text) 0))), (67, zB ((decide ((m3 (a7 (b8 text) 0)).1 = 0)) && (o0 [decide ((m3 (a7 (b8 text) 0)).1 = 0), decide ((m3 (a7 (b8 text) 0)).2 = 0), decide (([] : List UInt8) = [])])))]) (fun _ => ⟨rfl, rfl, rfl, rfl, rfl, rfl, trivial⟩) (FL.nil hK_18')
       ·refine FL.set 63 (fun _ => rfl) (congrArg zB hb) ?_
        refine FL.skip rfl (fun _ => rfl) rfl rfl ?_
        refine FL.skip rfl (fun _ => rfl) rfl rfl ?_
        refine FL.skip rfl (fun _ => rfl) rfl rfl ?_
        refine fv (fun _ => OV.pickF rfl rfl) ?_
        refine FL.set 67 (fun _ => rfl) (bF (v := o0 [decide ((m3 (a7 (b8 text) 0)).1 = 0), decide ((m3 (a7 (b8 text) 0)).2 = 0), decide (([] : List UInt8) = [])]) hb) ?_
        exact FL.weak (L' := fun _ => [(1, st w), (7, Tr.val (b8 text)), (9, zP b_2'), (13, zP b_3'), (15, Tr.val (b8 (a7 (b8 text) 0))), (67, zB ((decide ((m3 (a7 (b8 text) 0)).1 = 0)) && (o0 [decide ((m3 (a7 (b8 text) 0)).1 = 0), decide ((m3 (a7 (b8 text) 0)).2 = 0), decide (([] : List UInt8) = [])])))]) (fun _ => ⟨rfl, rfl, rfl, rfl, rfl, rfl, trivial⟩) (FL.nil hK_18')
      refine fv (fun _ => OV.move rfl) ?_
      obtain ⟨o_5', h⟩ := h
      refine FL.cut 4 rfl (fun _ => [(1, st w), (7, Tr.val (b8 text)), (9, zP b_2'), (13, zP b_3'), (72, zB (((decide ((m3 (a7 (b8 text) 0)).1 = 0)) && (o0 [decide ((m3 (a7 (b8 text) 0)).1 = 0), decide ((m3 (a7 (b8 text) 0)).2 = 0), decide (([] : List UInt8) = [])])) && (decide (Tr.whole (b8 text) = Tr.whole (b8 (a7 (b8 text) 0))))))]) ?_ (fun K0_19' hK_19' => ?_)
      rotate_left
      ·refine FL.split ((decide ((m3 (a7 (b8 text) 0)).1 = 0)) && (o0 [decide ((m3 (a7 (b8 text) 0)).1 = 0), decide ((m3 (a7 (b8 text) 0)).2 = 0), decide (([] : List UInt8) = [])])) (fun hb => ?_) (fun hb => ?_)
       ·have o_4' := o_5' hb
        refine FL.set 68 (fun _ => rfl) (congrArg zB hb) ?_
        refine fv (fun _ => OV.move rfl) ?_
        refine fv (fun _ => OV.move rfl) ?_
        refine FL.call az3 (fun _ => rfl) (awq (b8 text) (b8 (a7 (b8 text) 0)) o_4') trivial rfl (fun _ => rfl) rfl ?_
        refine fv (fun _ => OV.pickT rfl rfl) ?_
        refine FL.set 72 (fun _ => rfl) (bT (v := decide (Tr.whole (b8 text) = Tr.whole (b8 (a7 (b8 text) 0)))) hb) ?_
        exact FL.weak (L' := fun _ => [(1, st w), (7, Tr.val (b8 text)), (9, zP b_2'), (13, zP b_3'), (72, zB (((decide ((m3 (a7 (b8 text) 0)).1 = 0)) && (o0 [decide ((m3 (a7 (b8 text) 0)).1 = 0), decide ((m3 (a7 (b8 text) 0)).2 = 0), decide (([] : List UInt8) = [])])) && (decide (Tr.whole (b8 text) = Tr.whole (b8 (a7 (b8 text) 0))))))]) (fun _ => ⟨rfl, rfl, rfl, rfl, rfl, trivial⟩) (FL.nil hK_19')
       ·refine FL.set 68 (fun _ => rfl) (congrArg zB hb) ?_
        refine FL.skip rfl (fun _ => rfl) rfl rfl ?_
        refine FL.skip rfl (fun _ => rfl) rfl rfl ?_
        refine FL.skip rfl (fun _ => rfl) rfl rfl ?_
        refine fv (fun _ => OV.pickF rfl rfl) ?_
        refine FL.set 72 (fun _ => rfl) (bF (v := decide (Tr.whole (b8 text) = Tr.whole (b8 (a7 (b8 text) 0)))) hb) ?_
        exact FL.weak (L' := fun _ => [(1, st w), (7, Tr.val (b8 text)), (9, zP b_2'), (13, zP b_3'), (72, zB (((decide ((m3 (a7 (b8 text) 0)).1 = 0)) && (o0 [decide ((m3 (a7 (b8 text) 0)).1 = 0), decide ((m3 (a7 (b8 text) 0)).2 = 0), decide (([] : List UInt8) = [])])) && (decide (Tr.whole (b8 text) = Tr.whole (b8 (a7 (b8 text) 0))))))]) (fun _ => ⟨rfl, rfl, rfl, rfl, rfl, trivial⟩) (FL.nil hK_19')
      refine fv (fun _ => OV.move rfl) ?_
      obtain ⟨o_8', h⟩ := h
      refine FL.cut 8 rfl (fun _ => [(7, Tr.val (b8 text)), (9, zP b_2'), (81, zB ((((decide ((m3 (a7 (b8 text) 0)).1 = 0)) && (o0 [decide ((m3 (a7 (b8 text) 0)).1 = 0), decide ((m3 (a7 (b8 text) 0)).2 = 0), decide (([] : List UInt8) = [])])) && (decide (Tr.whole (b8 text) = Tr.whole (b8 (a7 (b8 text) 0))))) && ((aav w (u6 (reN text) (q8 text))) == (aav w (u6 (reN (a7 (b8 text) 0)) (q8 (a7 (b8 text) 0)))))))]) ?_ (fun K0_20' hK_20' => ?_)
      rotate_left
      ·refine FL.split (((decide ((m3 (a7 (b8 text) 0)).1 = 0)) && (o0 [decide ((m3 (a7 (b8 text) 0)).1 = 0), decide ((m3 (a7 (b8 text) 0)).2 = 0), decide (([] : List UInt8) = [])])) && (decide (Tr.whole (b8 text) = Tr.whole (b8 (a7 (b8 text) 0))))) (fun hb => ?_) (fun hb => ?_)
       ·obtain ⟨o_6', o_7'⟩ := o_8' hb
        refine FL.set 73 (fun _ => rfl) (congrArg zB hb) ?_
        refine fv (fun _ => OV.loadR rfl (At.own 5 rfl) x4) ?_
        refine fv (fun _ => OV.move rfl) ?_
        refine FL.callL anw (fun _ => rfl) (agw w_1' (reN text) (q8 text) w o_6') (LOk.row 6 rfl) rfl (fun _ => rfl) rfl ?_
        refine fv (fun _ => OV.loadR rfl (At.own 2 rfl) x4) ?_
        refine fv (fun _ => OV.move rfl) ?_
        refine FL.callL anw (fun _ => rfl) (agw w_2' (reN (a7 (b8 text) 0)) (q8 (a7 (b8 text) 0)) w o_7') (LOk.row 3 rfl) rfl (fun _ => rfl) rfl ?_
        refine fv (fun _ => OV.eqlB rfl rfl Tryd.underlying4) ?_
        refine fv (fun _ => OV.pickT rfl rfl) ?_
        refine FL.set 81 (fun _ => rfl) (bT (v := (aav w (u6 (reN text) (q8 text))) == (aav w (u6 (reN (a7 (b8 text) 0)) (q8 (a7 (b8 text) 0))))) hb) ?_
        exact FL.weak (L' := fun _ => [(7, Tr.val (b8 text)), (9, zP b_2'), (81, zB ((((decide ((m3 (a7 (b8 text) 0)).1 = 0)) && (o0 [decide ((m3 (a7 (b8 text) 0)).1 = 0), decide ((m3 (a7 (b8 text) 0)).2 = 0), decide (([] : List UInt8) = [])])) && (decide (Tr.whole (b8 text) = Tr.whole (b8 (a7 (b8 text) 0))))) && ((aav w (u6 (reN text) (q8 text))) == (aav w (u6 (reN (a7 (b8 text) 0)) (q8 (a7 (b8 text) 0)))))))]) (fun _ => ⟨rfl, rfl, rfl, trivial⟩) (FL.nil hK_20')
       ·refine FL.set 73 (fun _ => rfl) (congrArg zB hb) ?_
        refine FL.skip rfl (fun _ => rfl) rfl rfl ?_
        refine FL.skip rfl (fun _ => rfl) rfl rfl ?_
        refine FL.skip rfl (fun _ => rfl) rfl rfl ?_
        refine FL.skip rfl (fun _ => rfl) rfl rfl ?_
        refine FL.skip rfl (fun _ => rfl) rfl rfl ?_
        refine FL.skip rfl (fun _ => rfl) rfl rfl ?_
        refine FL.skip rfl (fun _ => rfl) rfl rfl ?_
        refine fv (fun _ => OV.pickF rfl rfl) ?_
        refine FL.set 81 (fun _ => rfl) (bF (v := (aav w (u6 (reN text) (q8 text))) == (aav w (u6 (reN (a7 (b8 text) 0)) (q8 (a7 (b8 text) 0))))) hb) ?_
        exact FL.weak (L' := fun _ => [(7, Tr.val (b8 text)), (9, zP b_2'), (81, zB ((((decide ((m3 (a7 (b8 text) 0)).1 = 0)) && (o0 [decide ((m3 (a7 (b8 text) 0)).1 = 0), decide ((m3 (a7 (b8 text) 0)).2 = 0), decide (([] : List UInt8) = [])])) && (decide (Tr.whole (b8 text) = Tr.whole (b8 (a7 (b8 text) 0))))) && ((aav w (u6 (reN text) (q8 text))) == (aav w (u6 (reN (a7 (b8 text) 0)) (q8 (a7 (b8 text) 0)))))))]) (fun _ => ⟨rfl, rfl, rfl, trivial⟩) (FL.nil hK_20')
      refine fv (fun _ => OV.move rfl) ?_
      obtain ⟨o_11', h⟩ := h
      refine FL.cut 6 rfl (fun _ => [(88, zB (((((decide ((m3 (a7 (b8 text) 0)).1 = 0)) && (o0 [decide ((m3 (a7 (b8 text) 0)).1 = 0), decide ((m3 (a7 (b8 text) 0)).2 = 0), decide (([] : List UInt8) = [])])) && (decide (Tr.whole (b8 text) = Tr.whole (b8 (a7 (b8 text) 0))))) && ((aav w (u6 (reN text) (q8 text))) == (aav w (u6 (reN (a7 (b8 text) 0)) (q8 (a7 (b8 text) 0)))))) && (((b8 text).null) == (aav ([] : List UInt8) (u6 (reN text) (q8 text))))))]) ?_ (fun K0_21' hK_21' => ?_)
      rotate_left
      ·refine FL.split ((((decide ((m3 (a7 (b8 text) 0)).1 = 0)) && (o0 [decide ((m3 (a7 (b8 text) 0)).1 = 0), decide ((m3 (a7 (b8 text) 0)).2 = 0), decide (([] : List UInt8) = [])])) && (decide (Tr.whole (b8 text) = Tr.whole (b8 (a7 (b8 text) 0))))) && ((aav w (u6 (reN text) (q8 text))) == (aav w (u6 (reN (a7 (b8 text) 0)) (q8 (a7 (b8 text) 0)))))) (fun hb => ?_) (fun hb => ?_)
       ·obtain ⟨o_9', o_10'⟩ := o_11' hb
        refine FL.set 82 (fun _ => rfl) (congrArg zB hb) ?_
        refine fv (fun _ => OV.move rfl) ?_
        refine FL.cv (fun _ => CV.meth rfl o_9' rfl) rfl rfl (fun _ => rfl) rfl ?_
        refine fv (fun _ => OV.loadR rfl (At.own 5 rfl) x4) ?_
        refine FL.callL anw (fun _ => rfl) (agw w_1' (reN text) (q8 text) ([] : List UInt8) o_10') (LOk.row 6 rfl) rfl (fun _ => rfl) rfl ?_
        refine fv (fun _ => OV.eqlB rfl rfl Tryd.underlying4) ?_
        refine fv (fun _ => OV.pickT rfl rfl) ?_
        refine FL.set 88 (fun _ => rfl) (bT (v := ((b8 text).null) == (aav ([] : List UInt8) (u6 (reN text) (q8 text)))) hb) ?_
        exact FL.weak (L' := fun _ => [(88, zB (((((decide ((m3 (a7 (b8 text) 0)).1 = 0)) && (o0 [decide ((m3 (a7 (b8 text) 0)).1 = 0), decide ((m3 (a7 (b8 text) 0)).2 = 0), decide (([] : List UInt8) = [])])) && (decide (Tr.whole (b8 text) = Tr.whole (b8 (a7 (b8 text) 0))))) && ((aav w (u6 (reN text) (q8 text))) == (aav w (u6 (reN (a7 (b8 text) 0)) (q8 (a7 (b8 text) 0)))))) && (((b8 text).null) == (aav ([] : List UInt8) (u6 (reN text) (q8 text))))))]) (fun _ => ⟨rfl, trivial⟩) (FL.nil hK_21')
       ·refine FL.set 82 (fun _ => rfl) (congrArg zB hb) ?_
        refine FL.skip rfl (fun _ => rfl) rfl rfl ?_
        refine FL.skip rfl (fun _ => rfl) rfl rfl ?_
        refine FL.skip rfl (fun _ => rfl) rfl rfl ?_
        refine FL.skip rfl (fun _ => rfl) rfl rfl ?_
        refine FL.skip rfl (fun _ => rfl) rfl rfl ?_
        refine fv (fun _ => OV.pickF rfl rfl) ?_
        refine FL.set 88 (fun _ => rfl) (bF (v := ((b8 text).null) == (aav ([] : List UInt8) (u6 (reN text) (q8 text)))) hb) ?_
        exact FL.weak (L' := fun _ => [(88, zB (((((decide ((m3 (a7 (b8 text) 0)).1 = 0)) && (o0 [decide ((m3 (a7 (b8 text) 0)).1 = 0), decide ((m3 (a7 (b8 text) 0)).2 = 0), decide (([] : List UInt8) = [])])) && (decide (Tr.whole (b8 text) = Tr.whole (b8 (a7 (b8 text) 0))))) && ((aav w (u6 (reN text) (q8 text))) == (aav w (u6 (reN (a7 (b8 text) 0)) (q8 (a7 (b8 text) 0)))))) && (((b8 text).null) == (aav ([] : List UInt8) (u6 (reN text) (q8 text))))))]) (fun _ => ⟨rfl, trivial⟩) (FL.nil hK_21')
      refine fv (fun _ => OV.assign rfl) ?_
      refine FL.weak (L' := fun _ => [(4, zB (((((decide ((m3 (a7 (b8 text) 0)).1 = 0)) && (o0 [decide ((m3 (a7 (b8 text) 0)).1 = 0), decide ((m3 (a7 (b8 text) 0)).2 = 0), decide (([] : List UInt8) = [])])) && (decide (Tr.whole (b8 text) = Tr.whole (b8 (a7 (b8 text) 0))))) && ((aav w (u6 (reN text) (q8 text))) == (aav w (u6 (reN (a7 (b8 text) 0)) (q8 (a7 (b8 text) 0)))))) && (((b8 text).null) == (aav ([] : List UInt8) (u6 (reN text) (q8 text))))))]) (fun _ => ⟨rfl, trivial⟩) (FL.nil (hT (fun _ => [(4, zB (((((decide ((m3 (a7 (b8 text) 0)).1 = 0)) && (o0 [decide ((m3 (a7 (b8 text) 0)).1 = 0), decide ((m3 (a7 (b8 text) 0)).2 = 0), decide (([] : List UInt8) = [])])) && (decide (Tr.whole (b8 text) = Tr.whole (b8 (a7 (b8 text) 0))))) && ((aav w (u6 (reN text) (q8 text))) == (aav w (u6 (reN (a7 (b8 text) 0)) (q8 (a7 (b8 text) 0)))))) && (((b8 text).null) == (aav ([] : List UInt8) (u6 (reN text) (q8 text))))))]) (fun _ => ?_)))
      refine kg (hK_17' [(4, zB (((((decide ((m3 (a7 (b8 text) 0)).1 = 0)) && (o0 [decide ((m3 (a7 (b8 text) 0)).1 = 0), decide ((m3 (a7 (b8 text) 0)).2 = 0), decide (([] : List UInt8) = [])])) && (decide (Tr.whole (b8 text) = Tr.whole (b8 (a7 (b8 text) 0))))) && ((aav w (u6 (reN text) (q8 text))) == (aav w (u6 (reN (a7 (b8 text) 0)) (q8 (a7 (b8 text) 0)))))) && (((b8 text).null) == (aav ([] : List UInt8) (u6 (reN text) (q8 text))))))] _ ?_)
      refine c9 ?_
      exact hE.ret [] rfl rfl (.inl ⟨_, h, rfl⟩) (f9.of1 rfl (RV.tmp rfl))
     ·obtain ⟨w_2', ho⟩ := hS
      cases ho
  ·obtain ⟨w_1', ho⟩ := hS
   cases ho
theorem a2l (t : List UInt8) : o0 [decide ((m3 t).1 = 0), decide ((m3 t).2 = 0), decide (([] : List UInt8) = [])] = decide ((m3 t).1 = 0) := by
 by_cases h : (m3 t).1 = 0
 ·obtain ⟨x, hx, _⟩ := ape h
  rw [(aqp hx).1]; rfl
 ·simp [o0, h]
theorem arq {t : List UInt8} {x : Tr} (h : w7 t = .ok x) : x.isNone = false := (aj8 h).2.2.1 |> Tr.solid_some
theorem awf (te : TypeId) (fre : Nat × Nat) (t w : List UInt8) (hw : 24 * (w.length + 1) ≤ 281474976710656) : d5 Tryd.prog 3 [st t, st w] (z8 te fre) [] (Ret (.bool true) []) := by
 refine d5.one (e := fun v => .bool v) (a0n te fre t w (fun v => v = true) ?_)
 unfold aqe
 simp only [↓a2l]
 obtain ⟨a1, a2⟩ := aqp a1w
 rw [a1, a2]
 refine ⟨fun _ => by decide, ?_⟩
 have h1 : a7 (.cat (.cls (ofS [97])) (.star (.cls (ofS [97])))) 0 = [97, 97, 42] := by
  simp [a7, v6, agc, ago, a1j]
 rw [h1, if_neg (by decide)]
 rw [if_neg (by simp)]
 by_cases he : (m3 t).1 = 0
 ·obtain ⟨x, hx, hT⟩ := ape he
  obtain ⟨_, hs, hsol, _⟩ := aj8 hx
  have hn := arq hx
  have hh := adv x
  have hps := auc hsol hs
  obtain ⟨p1, p2⟩ := aqp hps
  obtain ⟨-, -, r1, r2⟩ := a1b hx
  obtain ⟨-, -, s1, s2⟩ := a1b hps
  rw [if_neg (by simp [he]), hT, p1, p2, r2, s2]
  refine ⟨by omega, fun _ => by omega, fun _ => ⟨⟨r1, hw⟩, s1, hw⟩, fun _ => ⟨abx x hn, r1, by simp⟩, ?_⟩
  rw [ayu]; simp
 ·rw [if_pos (by simp [he])]; trivial
end Go.Proofs.YtffhedoahdgniaaDoor
namespace Go.Proofs.YtffhedoahdgniaaDoor
open Go Go.ChangeShapes Go.WideShapes Go.ChangeAt Go.RowKit
theorem auj {f : FuncId} {vs : List Value} {v : Value} {W : World} (hL : laidMetH Tryd.prog ajr W) (h : ∀ te fre, d5 Tryd.prog f vs (z8 te fre) [] (Ret v [])) :
  Calls Tryd.prog f vs.toArray W fun e W' => e = .returned v ∧ Below W.heap.size W W' := d5.pureE h W (asr hL)
section
variable {H : Type}
end
theorem amt (os : Os) : laidMet Tryd.prog Rows.topPrintedUptoRow.laid ((akl os).forCall (fun _ _ => 0) ⟨#[], #[.string ByteArray.empty, .string ByteArray.empty], []⟩).memory :=
 laidMet_of_run' 8 (by kernel_rfl) (by kernel_rfl)
theorem aj4 (os : Os) {H : Type} (enc : TypeId × Value → H) : ∃ places, DataW.whole enc Tryd.prog ((akl os).forCall (fun _ _ => 0) ⟨#[], #[.string ByteArray.empty, .string ByteArray.empty], []⟩).memory Tryd.f3.params.toList Rows.topPrintedSpec.vars false (#[.string ByteArray.empty, .string ByteArray.empty] : Array Value).toList 8 = some ([.lit (.string []), .lit (.string [])], [], places) :=
 ⟨[], by kernel_rfl⟩
set_option maxRecDepth 100000 in
theorem age (os : Os) (started : os.Started) (H : Type) (enc : TypeId × Value → H) (F : Stop.Interp) :
  ReturnsInHanded {} Tryd.checked os 3 .any ((Rows.OpenSpec.upto Rows.topPrintedSpec).preRow enc Tryd.prog Tryd.f3 Rows.topPrintedUptoRow.domain false Rows.topPrintedUptoRow.laid) (((Rows.OpenSpec.upto Rows.topPrintedSpec).at F).post enc Tryd.prog Tryd.f3 false true false false) := by
 obtain ⟨places, hx⟩ := aj4 os enc
 refine returnsInHanded_of_row (C := Tryd.checked) (s := Rows.OpenSpec.upto Rows.topPrintedSpec) azv started (by kernel_rfl) Tryd.func3
  (witness_row_at (enc := enc) (C := Tryd.checked) false (akl os) #[.string ByteArray.empty, .string ByteArray.empty] rfl (by kernel_rfl) (by kernel_rfl) (by kernel_rfl)
   (OpenSpec.preRow_of_cond 8 hx (by kernel_rfl) (fun k hk => by cases hk; kernel_rfl) (by kernel_rfl) (amt os))) ?_
 intro W base args ds gs before hval0 hW _ hcond hwt0 hL _ _
 have hval : ∀ (j : Nat) t v, Tryd.f3.params[j]? = some t → args[j]? = some v → Value.okWide Tryd.prog W .any base t v := hval0
 have hW' : DataW.Whole enc Tryd.prog Tryd.f3.params.toList Rows.topPrintedSpec.vars false W args.toList ds gs before := hW
 obtain ⟨p, q, hA0, hV, rfl, _, _⟩ := hW'
 have hA : DataW.TrodAll enc Tryd.prog W 0 (fun _ => true) true Tryd.f3.params.toList args.toList ds p := hA0
 have hwt : (DataW.weightsEach Tryd.prog (Tryd.f3.params.toList ++ Rows.topPrintedSpec.plain.varTypes Tryd.prog) (ds ++ gs)).all (· ≤ reachBytes) = true := hwt0
 rw [Tryd.params3] at hA hval hwt
 obtain ⟨v0, v1, d0, d1, p0, p1, rfl, rfl, rfl, h0, h1⟩ := trodAll_two hA
 obtain ⟨rfl, rfl⟩ := trodVars_none hV
 obtain ⟨a0, rfl, e0, _, _⟩ := ChangeMaps.open_string Tryd.underlying9 (hval 0 _ v0 rfl rfl) h0
 have y0 : a0.data.toList.length ≤ reachBytes := sized_string hwt (j := 0) (t := 9) rfl (by rw [e0]; rfl)
 obtain ⟨a1, rfl, e1, _, _⟩ := ChangeMaps.open_string Tryd.underlying9 (hval 1 _ v1 rfl rfl) h1
 have y1 : a1.data.toList.length ≤ reachBytes := sized_string hwt (j := 1) (t := 9) rfl (by rw [e1]; rfl)
 have hk := of_decide_eq_true (hcond _ rfl)
 rw [e0, e1] at hk
 simp only [List.append_nil, Rows.uptoBulkAll, Rows.uptoBulk] at hk
 have z0 : a0.data.toList.length ≤ 1048576 := by omega
 have z1 : a1.data.toList.length ≤ 1048576 := by omega
 have r0 : a0.data.toList.length ≤ 140737488351232 := y0
 have r1 : a1.data.toList.length ≤ 140737488351232 := y1
 refine (auj hL (fun te fre => awf te fre a0.data.toList a1.data.toList (by omega))).mono fun e W' ⟨he, hb⟩ => ?_
 subst he
 exact ⟨_, rfl, azw azc rfl Tryd.underlying4 (by kernel_rfl) rfl hW rfl hb⟩
theorem aht : Rows.TopPrintedUptoSaid :=
 OpenClaim.holds_of_cond 3 Tryd.f3 rfl rfl rfl rfl rfl rfl rfl ⟨rfl, rfl, rfl, rfl, rfl⟩ rfl rfl rfl rfl rfl (by kernel_rfl) Tryd.func3 (by kernel_rfl)
  (of_decide_eq_true (by kernel_rfl)) (by unfold Func.isWrapper; rw [if_neg (of_decide_eq_false (by kernel_rfl))]; exact ⟨rfl, rfl⟩)
  (fun os started H enc _ F => by rw [OpenClaim.pre_eq_preRow]; exact age os started H enc F)
theorem topPrintedUpto_card_holds : Rows.TopPrintedUptoCardSaid :=
 Claim7.holds_tied_plain_at .later [] _ _ _ _ aht (fun _ h => by cases h) (by kernel_rfl) (fun _ h => by cases h) topPrintedUpto_row_tie rfl ⟨rfl, rfl⟩ (by kernel_rfl) rfl
  (fun f fn hf hfn => by
   obtain rfl : f = 3 := Option.some.inj ((show Tryd.prog.funcNamed "loupe/loupetop.TopPrinted" = some 3 by kernel_rfl).symm.trans hf) |>.symm
   obtain rfl : fn = Tryd.f3 := (Option.some.inj (Tryd.func3.symm.trans hfn)).symm
   refine ⟨by kernel_rfl, fun j t ht => ?_⟩
   rw [Tryd.params3] at ht
   have h3 : t = 9 ∨ t = 9 := by simpa using Array.mem_of_getElem? ht
   rcases h3 with rfl | rfl
   ·exact (show Tryd.prog.wantsStandIn 9 = false by kernel_rfl)
   ·exact (show Tryd.prog.wantsStandIn 9 = false by kernel_rfl))
  (by kernel_rfl)
end Go.Proofs.YtffhedoahdgniaaDoor
