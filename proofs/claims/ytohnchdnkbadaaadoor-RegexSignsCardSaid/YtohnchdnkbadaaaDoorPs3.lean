/-
  Merged: RdR, RxD, RefShow, Rback, Shows, RxV, TiedR, RxT, RfD, RfV, RfR, RfA, RfB, RfC, RfE.
-/
import Derived.Test.YtohnchdnkbadaaaDoorRows
import Derived.Test.YtohnchdnkbadaaaDoorCards
import Derived.Test.YtohnchdnkbadaaaDoorTie
import Derived.Test.YtohnchdnkbadaaaDoorPs2
set_option maxRecDepth 100000
namespace Go.Proofs.YtohnchdnkbadaaaDoor
open Go Go.RowKit
theorem n6 : r7 Tryd.prog 26 3 = true := by kernel_rfl
theorem an3 : aay Tryd.prog 3 = some [zI 0] := by kernel_rfl
theorem u9 : aay Tryd.prog 26 = some [zI 0, zI 0, st []] := by kernel_rfl
theorem m7 : RowT Tryd.prog 26 3 := ⟨by kernel_rfl, by kernel_rfl⟩
theorem al2 : n5 Tryd.prog 170 = true := by kernel_rfl
theorem agt : n5 Tryd.prog 169 = true := by kernel_rfl
def aep (c : CS) (c_1' : Int) (c_2'_0 : Int) (c_2'_1 : Int) (c_2'_2 : List UInt8) (K : CS → Int → Int → Int → (List UInt8) → Prop) : Prop :=
 K c c_1' c_2'_0 c_2'_1 c_2'_2
theorem anq (b : Nat) (b_1' : Nat) (b_2' : Nat) (c : CS) (c_1' : Int) (c_2'_0 : Int) (c_2'_1 : Int) (c_2'_2 : List UInt8) (K : CS → Int → Int → Int → (List UInt8) → Prop) (h : aep c c_1' c_2'_0 c_2'_1 c_2'_2 K) :
  abr Tryd.prog 169 [zP b, zP b_1', zP b_2'] (.returning) (.returning) [] [HA.blk b (.cells (wl c).toArray 84 (0, 0)), HA.blk b_1' (.cells [zI c_1'].toArray 3 (0, 0)), HA.blk b_2' (.cells [zI c_2'_0, zI c_2'_1, st c_2'_2].toArray 26 (0, 0))] (fun o => (∃ (d : CS) (d_1' : Int) (d_2'_0 : Int) (d_2'_1 : Int) (d_2'_2 : List UInt8), K d d_1' d_2'_0 d_2'_1 d_2'_2 ∧ o = .ret (Value.tuple #[]) [HA.blk b (.cells (wl d).toArray 84 (0, 0)), HA.blk b_1' (.cells [zI d_1'].toArray 3 (0, 0)), HA.blk b_2' (.cells [zI d_2'_0, zI d_2'_1, st d_2'_2].toArray 26 (0, 0))]) ∨ (False)) := by
 unfold aep at h
 refine ac1 (n := 10) (L0 := [(0, zP b), (1, zP b_1'), (2, zP b_2')]) (v := Value.nilIface) Tryd.func169 rfl rfl rfl rfl rfl rfl (.inl ⟨rfl, rfl, rfl⟩) (fun w0 M Q hE => ?_)
 refine a6 (fun _ hK => ?_)
 refine a4 ?_
 refine wm ?_
 refine wv (OV.neqNil0 rfl Tryd.underlying20) ?_
 refine WL.nil ?_
 refine kg (hK [(0, zP b), (1, zP b_1'), (2, zP b_2'), (3, Value.nilIface), (6, zB false)] _ ?_)
 refine g9 rfl ?_
 refine d4 ?_
 exact hE.norm [0, 1, 2] rfl rfl (.inl ⟨_, _, _, _, _, h, rfl⟩) (e9.none rfl)
def ae4 (_ : CS) (_ : Int) (_ : Int) (_ : Int) (_ : List UInt8) (fc : Int) (fa : Int) (ft : List UInt8) (K : CS → Int → Int → Int → (List UInt8) → Prop) : Prop :=
 K cs0 0 fc fa ft
theorem aof (b : Nat) (b_1' : Nat) (b_2' : Nat) (c : CS) (c_1' : Int) (c_2'_0 : Int) (c_2'_1 : Int) (c_2'_2 : List UInt8) (fc : Int) (fa : Int) (ft : List UInt8) (K : CS → Int → Int → Int → (List UInt8) → Prop) (h : ae4 c c_1' c_2'_0 c_2'_1 c_2'_2 fc fa ft K) :
  abr Tryd.prog 169 [zP b, zP b_1', zP b_2'] (.panicking [{ v := Value.iface 26 (Value.agg [zI fc, zI fa, st ft].toArray), recovered := false }]) (.panicking [{ v := Value.iface 26 (Value.agg [zI fc, zI fa, st ft].toArray), recovered := true }]) [] [HA.blk b (.cells (wl c).toArray 84 (0, 0)), HA.blk b_1' (.cells [zI c_1'].toArray 3 (0, 0)), HA.blk b_2' (.cells [zI c_2'_0, zI c_2'_1, st c_2'_2].toArray 26 (0, 0))] (fun o => (∃ (d : CS) (d_1' : Int) (d_2'_0 : Int) (d_2'_1 : Int) (d_2'_2 : List UInt8), K d d_1' d_2'_0 d_2'_1 d_2'_2 ∧ o = .ret (Value.tuple #[]) [HA.blk b (.cells (wl d).toArray 84 (0, 0)), HA.blk b_1' (.cells [zI d_1'].toArray 3 (0, 0)), HA.blk b_2' (.cells [zI d_2'_0, zI d_2'_1, st d_2'_2].toArray 26 (0, 0))]) ∨ (False)) := by
 unfold ae4 at h
 refine ac1 (n := 10) (L0 := [(0, zP b), (1, zP b_1'), (2, zP b_2')]) (v := Value.iface 26 (Value.agg [zI fc, zI fa, st ft].toArray)) Tryd.func169 rfl rfl rfl rfl rfl rfl (.inr ⟨_, rfl, rfl, rfl⟩) (fun w0 M Q hE => ?_)
 refine a6 (fun _ hK => ?_)
 refine a4 ?_
 refine wm ?_
 refine wv (OV.neqNil rfl rfl Tryd.underlying20) ?_
 refine WL.nil ?_
 refine kg (hK [(0, zP b), (1, zP b_1'), (2, zP b_2'), (3, Value.iface 26 (Value.agg [zI fc, zI fa, st ft].toArray)), (6, zB true)] _ ?_)
 refine t4 rfl ?_
 refine agj 3 [] [] rfl rfl g8 (by kernel_rfl) (fun T hT => ?_)
 refine TW.val (OV.build rfl (cs := [Value.int .u64 0, Value.int .u64 0, Value.int .u64 0, Value.int .u64 0]) rfl) rfl rfl rfl ?_
 refine TW.val (OV.move rfl) rfl rfl rfl ?_
 refine TW.val (OV.assertIs rfl Tryd.underlying26 rfl) rfl rfl rfl ?_
 refine TW.nil (hT _ ?_)
 refine WLK.op [] rfl rfl (OpK.storeW (vs := [Value.int .u64 0, Value.int .u64 0, Value.int .u64 0, Value.int .u64 0]) 0 rfl rfl rfl rfl rfl q8 rfl rfl) rfl ?_
 refine WLK.op [] rfl rfl (OpK.store (vs := [zI 0]) (cs' := [zI 0]) 1 rfl rfl rfl rfl i8 (Nat.le_of_ble_eq_true rfl) rfl rfl) rfl ?_
 refine WLK.op [] rfl rfl (OpK.storeW (vs := [zI fc, zI fa, st ft]) 2 rfl rfl rfl rfl rfl n6 rfl rfl) rfl ?_
 refine WLK.nil ?_
 exact hE.norm [0, 1, 2] rfl rfl (.inl ⟨_, _, _, _, _, h, rfl⟩) (e9.none rfl)
abbrev afx (b b1 b2 : Nat) (c : CS) (n x y : Int) (z : List UInt8) : List HA :=
 [.blk b (.cells (wl c).toArray 84 (0, 0)), .blk b1 (.cells [zI n].toArray 3 (0, 0)), .blk b2 (.cells [zI x, zI y, st z].toArray 26 (0, 0))]
theorem aov (b b1 b2 : Nat) (c : CS) (n x y : Int) (z : List UInt8) : abr Tryd.prog 169 [.pointer (some ⟨b, 0, none⟩), .pointer (some ⟨b1, 0, none⟩), .pointer (some ⟨b2, 0, none⟩)] .returning .returning [] (afx b b1 b2 c n x y z) (Ret (.tuple #[]) (afx b b1 b2 c n x y z)) := by
 refine (anq b b1 b2 c n x y z (fun c' n' x' y' z' => c' = c ∧ n' = n ∧ x' = x ∧ y' = y ∧ z' = z) ?_).weak ?_
 ·unfold aep; exact ⟨rfl, rfl, rfl, rfl, rfl⟩
 ·rintro o (⟨c', n', x', y', z', ⟨rfl, rfl, rfl, rfl, rfl⟩, rfl⟩ | h)
  ·rfl
  ·exact h.elim
theorem anw (b b1 b2 : Nat) (c : CS) (n x y : Int) (z : List UInt8) (fc fa : Int) (ft : List UInt8) : abr Tryd.prog 169 [.pointer (some ⟨b, 0, none⟩), .pointer (some ⟨b1, 0, none⟩), .pointer (some ⟨b2, 0, none⟩)]
  (.panicking [{ v := .iface 26 (.agg [.int .i64 fc, .int .i64 fa, st ft].toArray), recovered := false }]) (.panicking [{ v := .iface 26 (.agg [.int .i64 fc, .int .i64 fa, st ft].toArray), recovered := true }]) [] (afx b b1 b2 c n x y z) (Ret (.tuple #[]) (afx b b1 b2 cs0 0 fc fa ft)) := by
 refine (aof b b1 b2 c n x y z fc fa ft (fun c' n' x' y' z' => c' = cs0 ∧ n' = 0 ∧ x' = fc ∧ y' = fa ∧ z' = ft) ?_).weak ?_
 ·unfold ae4; exact ⟨rfl, rfl, rfl, rfl, rfl⟩
 ·rintro o (⟨c', n', x', y', z', ⟨rfl, rfl, rfl, rfl, rfl⟩, rfl⟩ | h)
  ·rfl
  ·exact h.elim
def ai0 (text : List UInt8) (at0 : Int) (K : CS → Int → Int → Int → (List UInt8) → Prop) : Prop :=
 (if ((decide (at0 < 0)) || (decide ((text.length : Int) ≤ at0))) = true then
  K cs0 0 2 0 []
 else
  (0 ≤ at0 ∧ at0 < text.length ∧ text.length ≤ 9223372036854775807) ∧
  (∀ (r : CS) (at0_1' : Int), aao text at0 = .ok (r, at0_1') →
   K r at0_1' 0 0 []) ∧
  (∀ (e : Int) (_at0_2' : Int), aao text at0 = .error e →
   K cs0 0 10 e []))
theorem aql (te : TypeId) (fre : Nat × Nat) (text : List UInt8) (at0 : Int) (K : CS → Int → Int → Int → (List UInt8) → Prop) (h : ai0 text at0 K) :
  c9 Tryd.prog 160 [st text, zI at0] [(1, .cells [zU 110, zU 10, zU 114, zU 13, zU 116, zU 9].toArray te fre)] [] (fun o => (∃ (v : CS) (v_1' : Int) (v_2'_0 : Int) (v_2'_1 : Int) (v_2'_2 : List UInt8), K v v_1' v_2'_0 v_2'_1 v_2'_2 ∧ o = .ret (Value.tuple #[Value.agg (wl v).toArray, zI v_1', Value.agg [zI v_2'_0, zI v_2'_1, st v_2'_2].toArray]) []) ∨ (False)) := by
 unfold ai0 at h
 refine afe (n := 31) (L0 := [(0, st text), (1, zI at0)]) Tryd.func160 rfl rfl rfl rfl (fun w0 M Q hE => ?_)
 refine a6 (fun _ hK => ?_)
 refine a4 ?_
 refine WL.make (MV.alloc aax) rfl rfl rfl (fun b => ?_)
 refine WL.make (MV.alloc an3) rfl rfl rfl (fun b_1' => ?_)
 refine WL.make (MV.alloc u9) rfl rfl rfl (fun b_2' => ?_)
 refine WL.nil ?_
 refine kg (hK [(0, st text), (1, zI at0), (4, zP b), (5, zP b_1'), (6, zP b_2')] _ ?_)
 refine a6 (fun _ hK_1' => ?_)
 refine a6 (fun _ hK_2' => ?_)
 refine a4 ?_
 refine wm ?_
 refine wv (OV.lss rfl rfl) ?_
 refine wm ?_
 refine WL.cut 5 [(0, st text), (1, zI at0), (4, zP b), (5, zP b_1'), (6, zP b_2'), (15, zB ((decide (at0 < 0)) || (decide ((text.length : Int) ≤ at0))))] ?_ (fun K0_3' hK_3' => ?_)
 rotate_left
 ·refine WL.split (decide (at0 < 0)) (fun hb => ?_) (fun hb => ?_)
  ·refine WL.set 10 rfl (congrArg zB hb) ?_
   refine wk ?_
   refine wk ?_
   refine wk ?_
   refine wk ?_
   refine wv (OV.pickT rfl rfl) ?_
   refine WL.set 15 rfl (oT (v := decide ((text.length : Int) ≤ at0)) hb) ?_
   exact WL.end_ (kg hK_3')
  ·refine WL.set 10 rfl (congrArg zB hb) ?_
   refine wm ?_
   refine wm ?_
   refine wv (OV.len rfl t0) ?_
   refine wv (OV.geq rfl rfl) ?_
   refine wv (OV.pickF rfl rfl) ?_
   refine WL.set 15 rfl (oF (v := decide ((text.length : Int) ≤ at0)) hb) ?_
   exact WL.end_ (kg hK_3')
 refine WL.nil ?_
 refine kg (hK_2' [(0, st text), (1, zI at0), (4, zP b), (5, zP b_1'), (6, zP b_2'), (15, zB ((decide (at0 < 0)) || (decide ((text.length : Int) ≤ at0))))] _ ?_)
 refine c6 (b := (decide (at0 < 0)) || (decide ((text.length : Int) ≤ at0))) rfl (fun hb => ?_) (fun hb => ?_)
 ·replace h := k9 h hb
  refine a6 (fun _ hK_4' => ?_)
  refine a4 ?_
  refine wv (OV.build rfl (cs := [Value.int .u64 0, Value.int .u64 0, Value.int .u64 0, Value.int .u64 0]) rfl) ?_
  refine wv (OV.build rfl (cs := [zI 2, zI 0, st []]) rfl) ?_
  refine WL.storeW (vs := [Value.int .u64 0, Value.int .u64 0, Value.int .u64 0, Value.int .u64 0]) 2 rfl rfl rfl rfl rfl q8 rfl rfl rfl ?_
  refine WL.store (vs := [zI 0]) (cs' := [zI 0]) 1 rfl rfl rfl rfl i8 (Nat.le_of_ble_eq_true rfl) rfl rfl rfl ?_
  refine WL.storeW (vs := [zI 2, zI 0, st []]) 0 rfl rfl rfl rfl rfl n6 rfl rfl rfl ?_
  refine WL.nil ?_
  refine kg (hK_4' [(4, zP b), (5, zP b_1'), (6, zP b_2')] _ ?_)
  refine c7 ?_
  exact hE.ret (anb [] rfl rfl (.inl ⟨_, _, _, _, _, h, rfl⟩) (e9.of3 rfl (RV.row rfl (At.own 2 rfl) o6) (RV.cell rfl (At.own 1 rfl) rfl b8) (RV.row rfl (At.own 0 rfl) m7)))
 ·replace h := l0 h hb
  refine d4 ?_
  refine kg (hK_1' [(0, st text), (1, zI at0), (4, zP b), (5, zP b_1'), (6, zP b_2')] _ ?_)
  refine anf (fun K0_5' hK_5' => ?_)
  refine a4 ?_
  refine wv (OV.makeFunc rfl) ?_
  refine WL.defer rfl rfl ?_
  refine WL.nil ?_
  refine kg (hK_5' _ [(0, st text), (1, zI at0), (4, zP b), (5, zP b_1'), (6, zP b_2')] _ ?_)
  refine a6 (fun _ hK_6' => ?_)
  refine a4 ?_
  refine wm ?_
  refine wm ?_
  refine wv (OV.build rfl (cs := [st text, zI at0]) rfl) ?_
  refine WL.make (MV.box (cs := [st text, zI at0]) rfl rfl) rfl rfl rfl (fun b_3' => ?_)
  refine wa ?_
  refine WL.nil ?_
  refine kg (hK_6' [(4, zP b), (5, zP b_1'), (6, zP b_2'), (7, zP b_3')] _ ?_)
  refine a6 (fun _ hK_7' => ?_)
  refine a4 ?_
  refine wm ?_
  obtain ⟨o_1', h⟩ := h
  refine WL.callS al2 rfl (anm b_3' te fre text at0 o_1') rfl ⟨.inr (List.mem_of_getElem? (i := 0) rfl), trivial⟩ rfl rfl (fun r H' hS => ?_) (fun c H' hS => ?_)
  ·rcases hS with ⟨r, at0_1', hc, ho⟩ | ⟨e, at0_2', hc, ho⟩ <;> cases ho
   replace h := h.1 r at0_1' hc
   refine WL.storeW (vs := wl r) 3 rfl rfl rfl rfl rfl q8 rfl rfl rfl ?_
   refine WL.nil ?_
   refine kg (hK_7' [(4, zP b), (5, zP b_1'), (6, zP b_2'), (7, zP b_3')] _ ?_)
   refine a6 (fun _ hK_8' => ?_)
   refine agj 6 [0, 1, 3] [HA.blk b_3' (.cells [st text, zI at0_1'].toArray 222 (0, 0)), HA.blk b_2' (.cells [zI 0, zI 0, st []].toArray 26 (0, 0)), HA.blk b (.cells (wl r).toArray 84 (0, 0))] rfl rfl g8 (by kernel_rfl) (fun T hT => ?_)
   refine TW.val (OV.loadR rfl (At.own 2 rfl) o6) rfl rfl rfl ?_
   refine TW.val (OV.move rfl) rfl rfl rfl ?_
   refine TW.val (OV.nilCheck rfl) rfl rfl rfl ?_
   refine TW.val (OV.fieldAddr0 rfl b7) rfl rfl rfl ?_
   refine TW.val (OV.load rfl (At.own 0 rfl) rfl b8) rfl rfl rfl ?_
   refine TW.val (OV.build rfl (cs := [zI 0, zI 0, st []]) rfl) rfl rfl rfl ?_
   refine TW.nil (hT _ ?_)
   refine WLK.op [0, 1, 3] rfl rfl (OpK.storeW (vs := wl r) 3 rfl rfl rfl rfl rfl q8 rfl rfl) rfl ?_
   refine WLK.op [0, 1, 3] rfl rfl (OpK.store (vs := [zI at0_1']) (cs' := [zI at0_1']) 2 rfl rfl rfl rfl i8 (Nat.le_of_ble_eq_true rfl) rfl rfl) rfl ?_
   refine WLK.op [0, 1, 3] rfl rfl (OpK.storeW (vs := [zI 0, zI 0, st []]) 1 rfl rfl rfl rfl rfl n6 rfl rfl) rfl ?_
   refine WLK.nil ?_
   refine kg (hK_8' [(4, zP b), (5, zP b_1'), (6, zP b_2')] _ ?_)
   refine c7 ?_
   exact hE.ret (acw (A := [HA.blk b (.cells (wl r).toArray 84 (0, 0)), HA.blk b_1' (.cells [zI at0_1'].toArray 3 (0, 0)), HA.blk b_2' (.cells [zI 0, zI 0, st []].toArray 26 (0, 0))]) (A' := [HA.blk b (.cells (wl r).toArray 84 (0, 0)), HA.blk b_1' (.cells [zI at0_1'].toArray 3 (0, 0)), HA.blk b_2' (.cells [zI 0, zI 0, st []].toArray 26 (0, 0))]) (Rest := [HA.blk b_3' (.cells [st text, zI at0_1'].toArray 222 (0, 0))]) [3, 2, 1, 0] rfl rfl agt (aov b b_1' b_2' r at0_1' 0 0 []) (by intro hx; cases hx) rfl trivial [] rfl rfl (.inl ⟨_, _, _, _, _, h, rfl⟩) (e9.of3 rfl (RV.row rfl (At.own 0 rfl) o6) (RV.cell rfl (At.own 1 rfl) rfl b8) (RV.row rfl (At.own 2 rfl) m7)))
  ·rcases hS with ⟨r, at0_1', hc, ho⟩ | ⟨e, at0_2', hc, ho⟩ <;> cases ho
   replace h := h.2 e at0_2' hc
   exact hE.pan (acw (A := [HA.blk b (.cells (wl cs0).toArray 84 (0, 0)), HA.blk b_1' (.cells [zI 0].toArray 3 (0, 0)), HA.blk b_2' (.cells [zI 0, zI 0, st []].toArray 26 (0, 0))]) (A' := [HA.blk b (.cells (wl cs0).toArray 84 (0, 0)), HA.blk b_1' (.cells [zI 0].toArray 3 (0, 0)), HA.blk b_2' (.cells [zI 10, zI e, st []].toArray 26 (0, 0))]) (Rest := [HA.blk b_3' (.cells [st text, zI at0_2'].toArray 222 (0, 0))]) [3, 2, 1, 0] rfl rfl agt (anw b b_1' b_2' cs0 0 0 0 [] 10 e []) (by intro hx; cases hx) rfl trivial [] rfl rfl (.inl ⟨_, _, _, _, _, h, rfl⟩) (e9.of3 rfl (RV.row rfl (At.own 0 rfl) o6) (RV.cell rfl (At.own 1 rfl) rfl b8) (RV.row rfl (At.own 2 rfl) m7)))
def k5 (t : List UInt8) (a : Int) : CS × Int × Int × Int :=
 if a < 0 ∨ (t.length : Int) ≤ a then (cs0, 0, 2, 0)
 else match aao t a with
  | .ok (s, q) => (s, q, 0, 0)
  | .error e => (cs0, 0, 10, e)
def asf (r : CS × Int × Int × Int) : Value := .tuple #[.agg (wl r.1).toArray, .int .i64 r.2.1, .agg [zI r.2.2.1, zI r.2.2.2, st []].toArray]
theorem an2 (te : TypeId) (fre : Nat × Nat) (t : List UInt8) (a : Int) (h : t.length ≤ 9223372036854775807) : c9 Tryd.prog 160 [st t, .int .i64 a] (o8 te fre) [] (Ret (asf (k5 t a)) []) := by
 refine (aql te fre t a (fun s q c p x => k5 t a = (s, q, c, p) ∧ x = []) ?_).weak ?_
 ·unfold ai0 k5
  by_cases h1 : a < 0 ∨ (t.length : Int) ≤ a
  ·rw [if_pos (by simpa using h1), if_pos h1]; exact ⟨rfl, rfl⟩
  ·rw [if_neg (by simpa using h1), if_neg h1]
   exact ⟨⟨by omega, by omega, h⟩, fun r q hr => by simp [hr], fun e _ he => by simp [he]⟩
 ·rintro o (⟨s, q, c, p, x, ⟨hm, rfl⟩, rfl⟩ | h)
  ·rw [hm]; rfl
  ·exact h.elim
end Go.Proofs.YtohnchdnkbadaaaDoor
namespace Go.Proofs.YtohnchdnkbadaaaDoor
open Go Go.RowKit
inductive Tr where
 | none
 | eps
 | cls (s : CS)
 | cat (a b : Tr)
 | alt (a b : Tr)
 | star (a : Tr)
 | and (a b : Tr)
 | minus (a b : Tr)
 deriving DecidableEq
def Tr.val : Tr → Value
 | .none => .nilIface
 | .eps => .iface 49 (.agg ([] : List Value).toArray)
 | .cls s => .iface 87 (.agg (wl s).toArray)
 | .cat a b => .iface 51 (.agg [a.val, b.val].toArray)
 | .alt a b => .iface 165 (.agg [a.val, b.val].toArray)
 | .star a => .iface 167 (.agg [a.val].toArray)
 | .and a b => .iface 163 (.agg [a.val, b.val].toArray)
 | .minus a b => .iface 164 (.agg [a.val, b.val].toArray)
def Tr.isNone : Tr → Bool
 | .none => true
 | _ => false
def Tr.sure : Tr → Tr
 | .none => .cls cs0
 | x => x
def Tr.size : Tr → Nat
 | .none => 1
 | .eps => 1
 | .cls _ => 1
 | .cat a b => 1 + a.size + b.size
 | .alt a b => 1 + a.size + b.size
 | .star a => 1 + a.size
 | .and a b => 1 + a.size + b.size
 | .minus a b => 1 + a.size + b.size
def Tr.null : Tr → Bool
 | .none => false
 | .eps => true
 | .cls _ => false
 | .cat a b => a.null && b.null
 | .alt a b => a.null || b.null
 | .star _ => true
 | .and a b => a.null && b.null
 | .minus a b => a.null && !b.null
theorem Tr.size_pos : ∀ x : Tr, 0 < x.size
 | .none | .eps | .cls _ => by simp [Tr.size]
 | .cat _ _ | .alt _ _ | .star _ | .and _ _ | .minus _ _ => by simp only [Tr.size]; omega
section ov
variable {C : Cx} {L : Sl} {H : List HA} {x : Operand} {t t' ty : TypeId} {d : Option Tmp} {p : String} {e : Array Edge} {g : Option (Nat × Bool)} {ms : Array (String × TypeId)} {P : Program}
theorem OV.eqlNil {v : Value} {tv : TypeId} {y : Operand} (hx : ev L x = some (.iface tv v)) (hy : ev L y = some .nilIface) (hu : P.underlying t = some (.interface ms)) : OV P C L H ⟨d, .binOp .eql t x y t', ty, p, e, g⟩ (.bool false) := fun a w hf _ => by
 have h : binOp .eql t (.iface tv v) .nilIface = (do pure (.bool (← Op.equal t (.iface tv v) .nilIface))) := rfl
 have h2 : (Op.equal t (.iface tv v) .nilIface).run P w = .ok false w := by
  unfold Op.equal Op.maxDepth Op.equalIn
  rw [Sem.run_bind, l6 hu]; rfl
 simp only [execOp, hf.ev hx, hf.ev hy, eqGuard_at_iface, h, Sem.run_bind, Sem.run_pure, Result.andThen_ok, h2]
theorem OV.eqlNil0 (hx : ev L x = some .nilIface) (hu : P.underlying t = some (.interface ms)) : OV P C L H ⟨d, .binOp .eql t x (.const .nilIface) t', ty, p, e, g⟩ (.bool true) := fun a w hf _ => by
 have h : binOp .eql t .nilIface .nilIface = (do pure (.bool (← Op.equal t .nilIface .nilIface))) := rfl
 have h2 : (Op.equal t .nilIface .nilIface).run P w = .ok true w := by
  unfold Op.equal Op.maxDepth Op.equalIn
  rw [Sem.run_bind, l6 hu]; rfl
 have hc : a.eval (.const .nilIface) = .nilIface := rfl
 simp only [execOp, hf.ev hx, hc, eqGuard_nil_constR, h, Sem.run_bind, Sem.run_pure, Result.andThen_ok, h2]
theorem Tr.val_some {z : Tr} (h : z.isNone = false) : ∃ T r, z.val = .iface T r := by
 cases z <;> first | (cases h; done) | exact ⟨_, _, rfl⟩
theorem OV.eqlTr {z : Tr} (hx : ev L x = some z.val) (hu : P.underlying t = some (.interface ms)) : OV P C L H ⟨d, .binOp .eql t x (.const .nilIface) t', ty, p, e, g⟩ (.bool z.isNone) := by
 cases hz : z.isNone with
 | true => cases z <;> first | (cases hz; done) | exact OV.eqlNil0 hx hu
 | false => obtain ⟨T, r, hr⟩ := Tr.val_some hz; exact OV.eqlNil (hx.trans (congrArg some hr)) rfl hu
theorem OV.neqTr {z : Tr} (hx : ev L x = some z.val) (hu : P.underlying t = some (.interface ms)) : OV P C L H ⟨d, .binOp .neq t x (.const .nilIface) t', ty, p, e, g⟩ (.bool (!z.isNone)) := by
 cases hz : z.isNone with
 | true => cases z <;> first | (cases hz; done) | exact OV.neqNil0 hx hu
 | false => obtain ⟨T, r, hr⟩ := Tr.val_some hz; exact OV.neqNil (hx.trans (congrArg some hr)) rfl hu
end ov
def nx (t : List UInt8) (j : Int) : Int := ((t.getD j.toNat 0).toNat : Int)
def ada (x y : Tr) : Nat → Tr
 | 0 => x
 | k + 1 => ada (.cat x y) y k
theorem aez (y : Tr) : ∀ (k : Nat) (x : Tr), ada x y (k + 1) = .cat (ada x y k) y
 | 0, _ => rfl
 | k + 1, x => by rw [ada, aez y k, ada]
def aa3 (x : Tr) (m n : Int) : Tr :=
 if m = 0 ∧ n < 0 then .star x else if m = 0 ∧ n = 0 then .eps else
  let out := ada (if m = 0 then .alt x .eps else x) x (m - 1).toNat
  if n < 0 then .cat out (.star x) else ada out (.alt x .eps) (n - max m 1).toNat
def aqu (c : Int) : Bool := decide (48 ≤ c) && decide (c ≤ 57)
def aco (t : List UInt8) : Nat → Int → Int → Int × Int
 | 0, n, j => (n, j)
 | k + 1, n, j => if j < t.length ∧ aqu (nx t j) = true then aco t k (10 * n + (nx t j - 48)) (j + 1) else (n, j)
def numM (t : List UInt8) (j : Int) : Except (Int × Int) (Int × Int) := if (aco t 3 0 j).2 = j then .error (20, j) else .ok (aco t 3 0 j)
def ace (t : List UInt8) (m j : Int) : Except (Int × Int) (Int × Int) :=
 if j < t.length ∧ nx t j = 44 then (if (j + 1 < t.length ∧ nx t (j + 1) = 125) then .ok (-1, j + 1) else numM t (j + 1)) else .ok (m, j)
def p8 (t : List UInt8) (x : Tr) (from_ : Int) : Except (Int × Int) (Tr × Int) :=
 match numM t (from_ + 1) with
 | .error e => .error e
 | .ok (m, j) =>
  match ace t m j with
  | .error e => .error e
  | .ok (n, k) =>
   if k < t.length ∧ nx t k = 125 then (if m > 255 ∨ n > 255 ∨ (0 ≤ n ∧ n < m) then .error (22, from_) else .ok (aa3 x m n, k + 1)) else .error (20, k)
def ail (c : Int) (x : Tr) : Tr := if c = 42 then .star x else if c = 43 then .cat x (.star x) else .alt x .eps
inductive RP (t : List UInt8) : Tr → Int → Except (Int × Int) (Tr × Int) → Prop
 | zero {x} {j : Int} : ¬ (j < t.length ∧ (nx t j = 42 ∨ nx t j = 43 ∨ nx t j = 63 ∨ nx t j = 123)) → RP t x j (.ok (x, j))
 | one {x} {j : Int} {r} : j < t.length → nx t j = 42 ∨ nx t j = 43 ∨ nx t j = 63 → RP t (ail (nx t j) x) (j + 1) r → RP t x j r
 | brace {x} {j : Int} {y} {k : Int} {r} : j < t.length → nx t j = 123 → p8 t x j = .ok (y, k) → RP t y k r → RP t x j r
 | braceE {x} {j : Int} {e} : j < t.length → nx t j = 123 → p8 t x j = .error e → RP t x j (.error e)
theorem RP.det {t : List UInt8} {x : Tr} {j : Int} {r : Except (Int × Int) (Tr × Int)} (h : RP t x j r) : ∀ {r' : Except (Int × Int) (Tr × Int)}, RP t x j r' → r = r' := by
 induction h with
 | zero n =>
  intro r' h'
  cases h' with
  | zero _ => rfl
  | one a b => exfalso; omega
  | brace a b => exfalso; omega
  | braceE a b => exfalso; omega
 | one h1 h2 _ ih =>
  intro r' h'
  cases h' with
  | zero n => exfalso; omega
  | one _ _ c => exact ih c
  | brace a b => exfalso; omega
  | braceE a b => exfalso; omega
 | brace h1 h2 h3 _ ih =>
  intro r' h'
  cases h' with
  | zero n => exfalso; omega
  | one a b => exfalso; omega
  | brace _ _ a b => rw [h3] at a; cases a; exact ih b
  | braceE _ _ a => rw [h3] at a; cases a
 | braceE h1 h2 h3 =>
  intro r' h'
  cases h' with
  | zero n => exfalso; omega
  | one a b => exfalso; omega
  | brace _ _ a b => rw [h3] at a; cases a
  | braceE _ _ a => rw [h3] at a; cases a; rfl
inductive Md where
 | alt
 | altL (x : Tr)
 | meet
 | meetL (x : Tr)
 | row (acc : Option Tr)
def aes (acc : Option Tr) (y : Tr) : Option Tr := match acc with
 | none => some y
 | some x => some (.cat x y)
def aoo (c : Int) (x y : Tr) : Tr := if c = 38 then .and x y else .minus x y
inductive PR (t : List UInt8) : Md → Nat → Int → Except (Int × Int) (Tr × Int) → Prop
 | alt {d} {i : Int} {x} {j : Int} {r} : PR t .meet d i (.ok (x, j)) → PR t (.altL x) d j r → PR t .alt d i r
 | altE {d} {i : Int} {e} : PR t .meet d i (.error e) → PR t .alt d i (.error e)
 | altL {d x} {j : Int} {y} {k : Int} {r} : j < t.length → nx t j = 124 → PR t .meet d (j + 1) (.ok (y, k)) → PR t (.altL (.alt x y)) d k r → PR t (.altL x) d j r
 | altLE {d x} {j : Int} {e} : j < t.length → nx t j = 124 → PR t .meet d (j + 1) (.error e) → PR t (.altL x) d j (.error e)
 | altZ {d x} {j : Int} : ¬ (j < t.length ∧ nx t j = 124) → PR t (.altL x) d j (.ok (x, j))
 | meet {d} {i : Int} {x} {j : Int} {r} : PR t (.row none) d i (.ok (x, j)) → PR t (.meetL x) d j r → PR t .meet d i r
 | meetE {d} {i : Int} {e} : PR t (.row none) d i (.error e) → PR t .meet d i (.error e)
 | meetL {d x} {j : Int} {y} {k : Int} {r} : j < t.length → nx t j = 38 ∨ nx t j = 45 → PR t (.row none) d (j + 1) (.ok (y, k)) → PR t (.meetL (aoo (nx t j) x y)) d k r → PR t (.meetL x) d j r
 | meetLE {d x} {j : Int} {e} : j < t.length → nx t j = 38 ∨ nx t j = 45 → PR t (.row none) d (j + 1) (.error e) → PR t (.meetL x) d j (.error e)
 | meetZ {d x} {j : Int} : ¬ (j < t.length ∧ (nx t j = 38 ∨ nx t j = 45)) → PR t (.meetL x) d j (.ok (x, j))
 | rowZ {d acc} {j : Int} : ¬ (j < t.length ∧ nx t j ≠ 124 ∧ nx t j ≠ 38 ∧ nx t j ≠ 45 ∧ nx t j ≠ 41) → PR t (.row acc) d j (.ok (acc.getD .eps, j))
 | rowB {d acc} {j : Int} : j < t.length → nx t j = 42 ∨ nx t j = 43 ∨ nx t j = 63 ∨ nx t j = 123 → PR t (.row acc) d j (.error (20, j))
 | rowC {d acc} {j : Int} {s} {k : Int} {y} {l : Int} {r} : j < t.length → nx t j ∉ [124, 38, 45, 41, 42, 43, 63, 123, 40] → k5 t j = (s, k, 0, 0) → RP t (.cls s) k (.ok (y, l)) → PR t (.row (aes acc y)) d l r → PR t (.row acc) d j r
 | rowCR {d acc} {j : Int} {s} {k : Int} {e} : j < t.length → nx t j ∉ [124, 38, 45, 41, 42, 43, 63, 123, 40] → k5 t j = (s, k, 0, 0) → RP t (.cls s) k (.error e) → PR t (.row acc) d j (.error e)
 | rowCE {d acc} {j : Int} {s} {k e p : Int} : j < t.length → nx t j ∉ [124, 38, 45, 41, 42, 43, 63, 123, 40] → k5 t j = (s, k, e, p) → ¬ (e = 0 ∧ p = 0) → PR t (.row acc) d j (.error (e, p))
 | rowN {d acc} {j : Int} : j < t.length → nx t j = 40 → 1000 ≤ d → PR t (.row acc) d j (.error (23, j))
 | rowP {d acc} {j : Int} {x} {k : Int} {y} {l : Int} {r} : j < t.length → nx t j = 40 → d < 1000 → PR t .alt (d + 1) (j + 1) (.ok (x, k)) → k < t.length → RP t x (k + 1) (.ok (y, l)) → PR t (.row (aes acc y)) d l r → PR t (.row acc) d j r
 | rowPR {d acc} {j : Int} {x} {k : Int} {e} : j < t.length → nx t j = 40 → d < 1000 → PR t .alt (d + 1) (j + 1) (.ok (x, k)) → k < t.length → RP t x (k + 1) (.error e) → PR t (.row acc) d j (.error e)
 | rowPE {d acc} {j : Int} {e} : j < t.length → nx t j = 40 → d < 1000 → PR t .alt (d + 1) (j + 1) (.error e) → PR t (.row acc) d j (.error e)
 | rowO {d acc} {j : Int} {x} {k : Int} : j < t.length → nx t j = 40 → d < 1000 → PR t .alt (d + 1) (j + 1) (.ok (x, k)) → ¬ (k < t.length) → PR t (.row acc) d j (.error (21, j))
theorem PR.det {t : List UInt8} {m : Md} {d : Nat} {i : Int} {r : Except (Int × Int) (Tr × Int)} (h : PR t m d i r) : ∀ {r' : Except (Int × Int) (Tr × Int)}, PR t m d i r' → r = r' := by
 induction h with
 | alt _ _ ih1 ih2 =>
  intro r' h'
  cases h' with
  | alt a b => cases ih1 a; exact ih2 b
  | altE a => cases ih1 a
 | altE _ ih1 =>
  intro r' h'
  cases h' with
  | alt a b => cases ih1 a
  | altE a => cases ih1 a; rfl
 | altL h1 h2 _ _ ih1 ih2 =>
  intro r' h'
  cases h' with
  | altL _ _ a b => cases ih1 a; exact ih2 b
  | altLE _ _ a => cases ih1 a
  | altZ n => exact absurd ⟨h1, h2⟩ n
 | altLE h1 h2 _ ih1 =>
  intro r' h'
  cases h' with
  | altL _ _ a b => cases ih1 a
  | altLE _ _ a => cases ih1 a; rfl
  | altZ n => exact absurd ⟨h1, h2⟩ n
 | altZ n =>
  intro r' h'
  cases h' with
  | altL h1 h2 a b => exact absurd ⟨h1, h2⟩ n
  | altLE h1 h2 a => exact absurd ⟨h1, h2⟩ n
  | altZ _ => rfl
 | «meet» _ _ ih1 ih2 =>
  intro r' h'
  cases h' with
  | «meet» a b => cases ih1 a; exact ih2 b
  | meetE a => cases ih1 a
 | meetE _ ih1 =>
  intro r' h'
  cases h' with
  | «meet» a b => cases ih1 a
  | meetE a => cases ih1 a; rfl
 | meetL h1 h2 _ _ ih1 ih2 =>
  intro r' h'
  cases h' with
  | meetL _ _ a b => cases ih1 a; exact ih2 b
  | meetLE _ _ a => cases ih1 a
  | meetZ n => exact absurd ⟨h1, h2⟩ n
 | meetLE h1 h2 _ ih1 =>
  intro r' h'
  cases h' with
  | meetL _ _ a b => cases ih1 a
  | meetLE _ _ a => cases ih1 a; rfl
  | meetZ n => exact absurd ⟨h1, h2⟩ n
 | meetZ n =>
  intro r' h'
  cases h' with
  | meetL h1 h2 a b => exact absurd ⟨h1, h2⟩ n
  | meetLE h1 h2 a => exact absurd ⟨h1, h2⟩ n
  | meetZ _ => rfl
 | rowZ n =>
  intro r' h'
  cases h' <;> first | rfl | (exfalso; simp_all; done) | (exfalso; simp_all; omega)
 | rowB h1 h2 =>
  intro r' h'
  cases h' <;> first | rfl | (exfalso; simp_all; done) | (exfalso; simp_all; omega)
 | rowC h1 h2 h3 h4 _ ih =>
  intro r' h'
  cases h' with
  | rowC _ _ a b c => rw [h3] at a; cases a; cases h4.det b; exact ih c
  | rowCR _ _ a b => rw [h3] at a; cases a; cases h4.det b
  | rowCE _ _ a n => rw [h3] at a; cases a; exact absurd ⟨rfl, rfl⟩ n
  | _ => exfalso; first | (simp_all; done) | (simp_all; omega)
 | rowCR h1 h2 h3 h4 =>
  intro r' h'
  cases h' with
  | rowC _ _ a b c => rw [h3] at a; cases a; cases h4.det b
  | rowCR _ _ a b => rw [h3] at a; cases a; cases h4.det b; rfl
  | rowCE _ _ a n => rw [h3] at a; cases a; exact absurd ⟨rfl, rfl⟩ n
  | _ => exfalso; first | (simp_all; done) | (simp_all; omega)
 | rowCE h1 h2 h3 h4 =>
  intro r' h'
  cases h' with
  | rowC _ _ a b c => rw [h3] at a; cases a; exact absurd ⟨rfl, rfl⟩ h4
  | rowCR _ _ a b => rw [h3] at a; cases a; exact absurd ⟨rfl, rfl⟩ h4
  | rowCE _ _ a n => rw [h3] at a; cases a; rfl
  | _ => exfalso; first | (simp_all; done) | (simp_all; omega)
 | rowN h1 h2 h3 =>
  intro r' h'
  cases h' <;> first | rfl | omega | (exfalso; simp_all; done) | (exfalso; simp_all; omega)
 | rowP h1 h2 h3 _ h5 h6 _ ih1 ih2 =>
  intro r' h'
  cases h' with
  | rowP _ _ _ a _ b c => cases ih1 a; cases h6.det b; exact ih2 c
  | rowPR _ _ _ a _ b => cases ih1 a; cases h6.det b
  | rowPE _ _ _ a => cases ih1 a
  | rowO _ _ _ a n => cases ih1 a; exact absurd h5 n
  | _ => exfalso; first | omega | (simp_all; done) | (simp_all; omega)
 | rowPR h1 h2 h3 _ h5 h6 ih1 =>
  intro r' h'
  cases h' with
  | rowP _ _ _ a _ b c => cases ih1 a; cases h6.det b
  | rowPR _ _ _ a _ b => cases ih1 a; cases h6.det b; rfl
  | rowPE _ _ _ a => cases ih1 a
  | rowO _ _ _ a n => cases ih1 a; exact absurd h5 n
  | _ => exfalso; first | omega | (simp_all; done) | (simp_all; omega)
 | rowPE h1 h2 h3 _ ih1 =>
  intro r' h'
  cases h' with
  | rowP _ _ _ a _ b c => cases ih1 a
  | rowPR _ _ _ a _ b => cases ih1 a
  | rowPE _ _ _ a => cases ih1 a; rfl
  | rowO _ _ _ a n => cases ih1 a
  | _ => exfalso; first | omega | (simp_all; done) | (simp_all; omega)
 | rowO h1 h2 h3 _ h5 ih1 =>
  intro r' h'
  cases h' with
  | rowP _ _ _ a k b c => cases ih1 a; exact absurd k h5
  | rowPR _ _ _ a k b => cases ih1 a; exact absurd k h5
  | rowPE _ _ _ a => cases ih1 a
  | rowO _ _ _ a n => cases ih1 a; rfl
  | _ => exfalso; first | omega | (simp_all; done) | (simp_all; omega)
theorem ab4 {t : List UInt8} : ∀ (n : Nat) {s s' : CS} {a q : Int}, adu t n s a = .ok (s', q) → a < q ∧ q ≤ t.length
 | 0, _, _, _, _, h => by cases h
 | n + 1, s, s', a, q, h => by
  unfold adu at h
  split at h
  ·cases h; omega
  ·split at h
   ·cases h
   ·rename_i lo p hp
    have h1 := aba hp
    split at h
    ·split at h
     ·cases h
     ·rename_i hi q' hq
      have h2 := aba hq
      split at h
      ·cases h
      ·have := ab4 n h; omega
    ·have := ab4 n h; omega
theorem aci {t : List UInt8} {j k : Int} {s : CS} (h : k5 t j = (s, k, 0, 0)) (_h0 : 0 ≤ j) : j < k ∧ k ≤ t.length := by
 unfold k5 at h
 split at h
 ·simp at h
 ·split at h
  ·rename_i s' q hi
   simp only [Prod.mk.injEq, and_true] at h
   obtain ⟨rfl, rfl⟩ := h
   unfold aao at hi
   split at hi
   ·cases hi; omega
   ·split at hi
    ·unfold afq at hi
     split at hi
     ·split at hi
      ·rename_i hm; have := ab4 _ hm; cases hi; omega
      ·cases hi
     ·have := ab4 _ hi; omega
    ·split at hi
     ·rename_i ho; have := aba ho; cases hi; omega
     ·cases hi
  ·simp at h
theorem am7 {t : List UInt8} : ∀ (f : Nat) {n j m k : Int}, aco t f n j = (m, k) → 0 ≤ n → 0 ≤ j → j ≤ t.length → 0 ≤ m ∧ j ≤ k ∧ k ≤ t.length
 | 0, n, j, m, k, h, hn, h0, hl => by simp only [aco, Prod.mk.injEq] at h; omega
 | f + 1, n, j, m, k, h, hn, h0, hl => by
  unfold aco at h
  split at h
  ·rename_i hc
   have hd := hc.2
   simp only [aqu, Bool.and_eq_true, decide_eq_true_eq] at hd
   have := am7 f h (by omega) (by omega) (by omega)
   omega
  ·simp only [Prod.mk.injEq] at h; omega
theorem ab0 {t : List UInt8} {j m k : Int} (h : numM t j = .ok (m, k)) (h0 : 0 ≤ j) (hl : j ≤ t.length) : 0 ≤ m ∧ j < k ∧ k ≤ t.length := by
 unfold numM at h
 split at h
 ·cases h
 ·rename_i hne
  have h2 : aco t 3 0 j = (m, k) := by injection h
  have := am7 3 h2 (by omega) h0 hl
  have h3 : ¬ k = j := fun e => hne (by rw [h2]; exact e)
  omega
theorem ads {t : List UInt8} {x y : Tr} {j k : Int} (h : p8 t x j = .ok (y, k)) (h0 : 0 ≤ j) (hl : j < t.length) : j < k ∧ k ≤ t.length := by
 unfold p8 at h
 split at h
 ·cases h
 ·rename_i m p hm
  have h1 := ab0 hm (by omega) (by omega)
  split at h
  ·cases h
  ·rename_i n q hq
   have h2 : p ≤ q ∧ q ≤ t.length := by
    unfold ace at hq
    split at hq
    ·split at hq
     ·simp only [Except.ok.injEq, Prod.mk.injEq] at hq; omega
     ·have := ab0 hq (by omega) (by omega); omega
    ·simp only [Except.ok.injEq, Prod.mk.injEq] at hq; omega
   split at h
   ·split at h
    ·cases h
    ·simp only [Except.ok.injEq, Prod.mk.injEq] at h; omega
   ·cases h
theorem RP.ends {t : List UInt8} {x : Tr} {j : Int} {r : Except (Int × Int) (Tr × Int)} (h : RP t x j r) : 0 ≤ j → j ≤ t.length → ∀ y k, r = .ok (y, k) → j ≤ k ∧ k ≤ t.length := by
 induction h with
 | zero n => intro h0 hl y k e; cases e; omega
 | one h1 h2 _ ih => intro h0 hl y k e; have := ih (by omega) (by omega) y k e; omega
 | brace h1 h2 h3 _ ih => intro h0 hl y k e; have h4 := ads h3 h0 h1; have := ih (by omega) (by omega) y k e; omega
 | braceE => intro h0 hl y k e; cases e
theorem PR.ends {t : List UInt8} {m : Md} {d : Nat} {i : Int} {r : Except (Int × Int) (Tr × Int)} (h : PR t m d i r) : 0 ≤ i → i ≤ t.length → ∀ y k, r = .ok (y, k) → i ≤ k ∧ k ≤ t.length := by
 induction h with
 | alt _ _ ih1 ih2 => intro h0 hl y k e; have h1 := ih1 h0 hl _ _ rfl; have := ih2 (by omega) (by omega) y k e; omega
 | altL _ _ _ _ ih1 ih2 => intro h0 hl y k e; have h1 := ih1 (by omega) (by omega) _ _ rfl; have := ih2 (by omega) (by omega) y k e; omega
 | «meet» _ _ ih1 ih2 => intro h0 hl y k e; have h1 := ih1 h0 hl _ _ rfl; have := ih2 (by omega) (by omega) y k e; omega
 | meetL _ _ _ _ ih1 ih2 => intro h0 hl y k e; have h1 := ih1 (by omega) (by omega) _ _ rfl; have := ih2 (by omega) (by omega) y k e; omega
 | altZ _ => intro h0 hl y k e; cases e; omega
 | meetZ _ => intro h0 hl y k e; cases e; omega
 | rowZ _ => intro h0 hl y k e; cases e; omega
 | rowC h1 h2 h3 h4 _ ih => intro h0 hl y k e; have h5 := aci h3 h0; have h6 := h4.ends (by omega) (by omega) _ _ rfl; have := ih (by omega) (by omega) y k e; omega
 | rowP h1 h2 h3 _ h5 h6 _ ih1 ih2 => intro h0 hl y k e; have h7 := ih1 (by omega) (by omega) _ _ rfl; have h8 := h6.ends (by omega) (by omega) _ _ rfl; have := ih2 (by omega) (by omega) y k e; omega
 | _ => intro h0 hl y k e; cases e
abbrev aab := Except (Int × Int) (Tr × Int)
structure AF where
 place : Int
 alt : Option Tr
 «meet» : Option Tr
 sign : Int
 row : Option Tr
 fac : Option Tr
def aru (f : AF) (x : Tr) : Tr := match f.meet with
 | none => x
 | some z => aoo f.sign z x
def asp (f : AF) (x : Tr) : Tr := match f.alt with
 | none => x
 | some z => .alt z x
def OwA (t : List UInt8) (d : Nat) (f : AF) (rm r : aab) : Prop := match rm with
 | .error e => r = .error e
 | .ok (x, k) => PR t (.altL (asp f x)) d k r
def OwM (t : List UInt8) (d : Nat) (f : AF) (rr r : aab) : Prop := match rr with
 | .error e => r = .error e
 | .ok (x, k) => ∃ rm, PR t (.meetL (aru f x)) d k rm ∧ OwA t d f rm r
def OwN (t : List UInt8) (d : Nat) (f : AF) (acc : Option Tr) (i : Int) (r : aab) : Prop := ∃ rr, PR t (.row acc) d i rr ∧ OwM t d f rr r
def OwR (t : List UInt8) (d : Nat) (f : AF) (i : Int) (r : aab) : Prop := match f.fac with
 | none => OwN t d f f.row i r
 | some y => ∃ ry, RP t y i ry ∧ match ry with
  | .error e => r = .error e
  | .ok (z, k) => OwN t d f (aes f.row z) k r
variable {t : List UInt8} {d : Nat} {f : AF} {i : Int} {r : aab}
def OwS (t : List UInt8) : List AF → Int → aab → Except (Int × Int) Tr → Prop
 | [], _, r, R => match r with
  | .error e => R = .error e
  | .ok (x, k) => if k < t.length then R = .error (20, k) else R = .ok x
 | g :: rest, p, r, R => match r with
  | .error e => R = .error e
  | .ok (x, k) => if k < t.length then ∃ r', OwR t rest.length { g with fac := some x } (k + 1) r' ∧ OwS t rest g.place r' R else R = .error (21, p)
def asm (t : List UInt8) : List AF → Int → Except (Int × Int) Tr → Prop
 | [], _, _ => False
 | f :: rest, i, R => ∃ r, OwR t rest.length f i r ∧ OwS t rest f.place r R
end Go.Proofs.YtohnchdnkbadaaaDoor
namespace Go.Proofs.YtohnchdnkbadaaaDoor
open Go Go.RowKit
set_option maxRecDepth 100000 in
theorem an4 (s : CS) : (w5 s).length ≤ 4096 := by
 unfold w5
 have h1 := n8 ((w6 s 0).getD 0) spL
 have h2 := v6 s 256
 have h3 := v6 (~~~ s) 256
 split
 ·omega
 ·split <;> simp <;> omega
end Go.Proofs.YtohnchdnkbadaaaDoor
namespace Go.Proofs.YtohnchdnkbadaaaDoor
open Go Go.RowKit
set_option maxRecDepth 100000 in
theorem aoe (s : CS) : ad8 86 #[.agg (j6 s)] (.string (bs (w5 s))) := by
 by_cases h : s9 s = 1
 ·exact aoz s h
 ·exact aoq s h
end Go.Proofs.YtohnchdnkbadaaaDoor
set_option maxRecDepth 100000
namespace Go.Proofs.YtohnchdnkbadaaaDoor
open Go Go.RowKit
theorem ahn : Program.concrete Tryd.prog 87 = true := by kernel_rfl
theorem abb : l3 Tryd.prog 51 0 = some 0 := by kernel_rfl
theorem d8 : aas Tryd.prog 23 = true := by kernel_rfl
theorem m3 : n5 Tryd.prog 56 = true := by kernel_rfl
theorem abe : l3 Tryd.prog 51 1 = some 1 := by kernel_rfl
theorem aaz : l3 Tryd.prog 165 0 = some 0 := by kernel_rfl
theorem aaw : l3 Tryd.prog 165 1 = some 1 := by kernel_rfl
theorem ach : l3 Tryd.prog 167 0 = some 0 := by kernel_rfl
theorem aan : l3 Tryd.prog 163 0 = some 0 := by kernel_rfl
theorem aar : l3 Tryd.prog 163 1 = some 1 := by kernel_rfl
theorem aat : l3 Tryd.prog 164 0 = some 0 := by kernel_rfl
theorem aap : l3 Tryd.prog 164 1 = some 1 := by kernel_rfl
theorem abg : abq Tryd.prog 163 = true := by kernel_rfl
theorem ac5 : acf Tryd.prog 163 = some (Value.agg [Tr.val Tr.none, Tr.val Tr.none].toArray) := by kernel_rfl
theorem acx : abq Tryd.prog 164 = true := by kernel_rfl
theorem aeu : acf Tryd.prog 164 = some (Value.agg [Tr.val Tr.none, Tr.val Tr.none].toArray) := by kernel_rfl
theorem af7 : abq Tryd.prog 51 = true := by kernel_rfl
theorem ajh : acf Tryd.prog 51 = some (Value.agg [Tr.val Tr.none, Tr.val Tr.none].toArray) := by kernel_rfl
theorem aai : abq Tryd.prog 165 = true := by kernel_rfl
theorem abn : acf Tryd.prog 165 = some (Value.agg [Tr.val Tr.none, Tr.val Tr.none].toArray) := by kernel_rfl
theorem ah6 : abq Tryd.prog 167 = true := by kernel_rfl
theorem an9 : acf Tryd.prog 167 = some (Value.agg [Tr.val Tr.none].toArray) := by kernel_rfl
theorem alx : aay Tryd.prog 51 = some [Tr.val Tr.none, Tr.val Tr.none] := by kernel_rfl
theorem ak8 : r7 Tryd.prog 51 2 = true := by kernel_rfl
theorem aki : aay Tryd.prog 165 = some [Tr.val Tr.none, Tr.val Tr.none] := by kernel_rfl
theorem aj8 : r7 Tryd.prog 165 2 = true := by kernel_rfl
theorem ajt : aay Tryd.prog 167 = some [Tr.val Tr.none] := by kernel_rfl
theorem aj6 : r7 Tryd.prog 167 1 = true := by kernel_rfl
theorem amb : Program.concrete Tryd.prog 51 = true := by kernel_rfl
theorem ajm : Program.concrete Tryd.prog 165 = true := by kernel_rfl
theorem ajs : Program.concrete Tryd.prog 167 = true := by kernel_rfl
theorem akv : aay Tryd.prog 163 = some [Tr.val Tr.none, Tr.val Tr.none] := by kernel_rfl
theorem ajx : r7 Tryd.prog 163 2 = true := by kernel_rfl
theorem akb : Program.concrete Tryd.prog 163 = true := by kernel_rfl
theorem ajl : aay Tryd.prog 164 = some [Tr.val Tr.none, Tr.val Tr.none] := by kernel_rfl
theorem ajr : r7 Tryd.prog 164 2 = true := by kernel_rfl
theorem ajw : Program.concrete Tryd.prog 164 = true := by kernel_rfl
theorem z8 : abq Tryd.prog 49 = true := by kernel_rfl
theorem aam : acf Tryd.prog 49 = some (Value.agg [].toArray) := by kernel_rfl
theorem aa4 : abq Tryd.prog 87 = true := by kernel_rfl
theorem abh : acf Tryd.prog 87 = some (Value.agg (wl cs0).toArray) := by kernel_rfl
theorem ams : aay Tryd.prog 49 = some [] := by kernel_rfl
theorem alq : r7 Tryd.prog 49 0 = true := by kernel_rfl
theorem al3 : aay Tryd.prog 87 = some (wl cs0) := by kernel_rfl
theorem al7 : r7 Tryd.prog 87 4 = true := by kernel_rfl
theorem ahz : l3 Tryd.prog 87 0 = some 0 := by kernel_rfl
theorem aod : n5 Tryd.prog 86 = true := by kernel_rfl
theorem t8 : n5 Tryd.prog 51 = true := by kernel_rfl
theorem c9.ofPureE {f : FuncId} {vs : List Value} {v : Value} (te : TypeId) (fre : Nat × Nat) (h : ad8 f vs.toArray v) : c9 Tryd.prog f vs (o8 te fre) [] (Ret v []) := fun w M hO hn _ hr => by
 have : M = [] := hO
 subst this
 refine (h w ⟨te, fre, (hr (1, .cells u1 te fre) (List.mem_singleton.2 rfl)).1⟩).mono ?_
 rintro en w' ⟨rfl, hb⟩
 exact ⟨[], .inl ⟨v, rfl, rfl⟩, (Hp.start 0 [] w (H := []) rfl hn (fun k hk => by cases hk) hr).below hb⟩
def ai1 (n : Tr) (K : Tr → Prop) : Prop :=
 (if n.isNone = true then
  K (.cls cs0)
 else
  K n)
theorem aqq  (n : Tr) (K : Tr → Prop) (h : ai1 n K) :
  c9 Tryd.prog 56 [Tr.val n] [] [] (fun o => (∃ (v : Tr), K v ∧ o = .ret (Tr.val v) []) ∨ (False)) := by
 unfold ai1 at h
 refine b5 (n := 8) (L0 := [(0, Tr.val n)]) Tryd.func56 rfl rfl rfl rfl (fun w0 M Q hE => ?_)
 refine a6 (fun _ hK => ?_)
 refine a4 ?_
 refine wa ?_
 refine WL.nil ?_
 refine kg (hK [(0, Tr.val n)] _ ?_)
 refine a6 (fun _ hK_1' => ?_)
 refine a6 (fun _ hK_2' => ?_)
 refine a4 ?_
 refine wm ?_
 refine wv (OV.eqlTr rfl Tryd.underlying23) ?_
 refine WL.nil ?_
 refine kg (hK_2' [(0, Tr.val n), (4, zB n.isNone)] _ ?_)
 refine c6 (b := n.isNone) rfl (fun hb => ?_) (fun hb => ?_)
 ·replace h := k9 h hb
  refine a6 (fun _ hK_3' => ?_)
  refine a4 ?_
  refine wv (OV.build rfl (cs := wl cs0) rfl) ?_
  refine wv (OV.cast (OV.iface rfl ahn) (v' := Tr.val (.cls cs0)) rfl) ?_
  refine wa ?_
  refine WL.nil ?_
  refine kg (hK_3' [(2, Tr.val (.cls cs0))] _ ?_)
  refine c7 ?_
  exact hE.ret [] rfl rfl (.inl ⟨_, h, rfl⟩) (e9.of1 rfl (RV.tmp rfl))
 ·replace h := l0 h hb
  refine d4 ?_
  refine kg (hK_1' [(0, Tr.val n)] _ ?_)
  refine a6 (fun _ hK_4' => ?_)
  refine a4 ?_
  refine wm ?_
  refine wa ?_
  refine WL.nil ?_
  refine kg (hK_4' [(2, Tr.val n)] _ ?_)
  refine c7 ?_
  exact hE.ret [] rfl rfl (.inl ⟨_, h, rfl⟩) (e9.of1 rfl (RV.tmp rfl))
theorem Tr.val_one (x : Tr) : x.val.oneCell' = true := by cases x <;> rfl
theorem Tr.val_cells (x : Tr) : x.val.cells = [x.val].toArray := ah9 x.val_one
theorem m4 (x : Tr) : c9 Tryd.prog 56 [x.val] [] [] (Ret x.sure.val []) :=
 c9.one (aqq x (fun v => v = x.sure) (by unfold ai1; cases x <;> simp [Tr.isNone, Tr.sure]))
def amz : Tr → Int
 | .alt _ _ => 0
 | .and _ _ | .minus _ _ => 1
 | .cat _ _ => 2
 | .star _ => 3
 | _ => 4
def ad9 (x : Tr) (n : Int) (s : List UInt8) : List UInt8 := if amz x < n then [40] ++ s ++ [41] else s
def u5 : Tr → List UInt8
 | .none => [91, 93]
 | .eps => [40, 41]
 | .cls s => w5 s
 | .alt a b => (ad9 a 0 (u5 a) ++ [124]) ++ ad9 b 1 (u5 b)
 | .and a b => (ad9 a 1 (u5 a) ++ [38]) ++ ad9 b 2 (u5 b)
 | .minus a b => (ad9 a 1 (u5 a) ++ [45]) ++ ad9 b 2 (u5 b)
 | .cat a b => ad9 a 2 (u5 a) ++ ad9 b 3 (u5 b)
 | .star a => ad9 a 3 (u5 a) ++ [42]
def b6 (x : Tr) (n : Int) : List UInt8 := ad9 x n (u5 x)
theorem ad7 (x : Tr) (n : Int) (s : List UInt8) : (ad9 x n s).length ≤ s.length + 2 := by
 unfold ad9; split <;> simp
def ag9  (K : Int → Prop) : Prop :=
 K 1
theorem ak3   (K : Int → Prop) (h : ag9  K) :
  c9 Tryd.prog 200 [Value.agg [].toArray] [] [] (fun o => (∃ (v : Int), K v ∧ o = .ret (zI v) []) ∨ (False)) := by
 unfold ag9 at h
 refine b5 (n := 3) (L0 := [(0, Value.agg [].toArray)]) Tryd.func200 rfl rfl rfl rfl (fun w0 M Q hE => ?_)
 refine a6 (fun _ hK => ?_)
 refine a4 ?_
 refine WL.make (MV.box (cs := []) rfl rfl) rfl rfl rfl (fun b => ?_)
 refine wa ?_
 refine WL.nil ?_
 refine KX.go (hK [] _ ?_) trivial
 refine a6 (fun _ hK_1' => ?_)
 refine a4 ?_
 refine wa ?_
 refine WL.nil ?_
 refine kg (hK_1' [(2, zI 1)] _ ?_)
 refine c7 ?_
 exact hE.ret [] rfl rfl (.inl ⟨_, h, rfl⟩) (e9.of1 rfl (RV.tmp rfl))
def af4 (_ : CS) (K : Int → Prop) : Prop :=
 K 1
theorem amu  (a0 : CS) (K : Int → Prop) (h : af4 a0 K) :
  c9 Tryd.prog 202 [Value.agg (wl a0).toArray] [] [] (fun o => (∃ (v : Int), K v ∧ o = .ret (zI v) []) ∨ (False)) := by
 unfold af4 at h
 refine b5 (n := 3) (L0 := [(0, Value.agg (wl a0).toArray)]) Tryd.func202 rfl rfl rfl rfl (fun w0 M Q hE => ?_)
 refine a6 (fun _ hK => ?_)
 refine a4 ?_
 refine WL.make (MV.box (cs := wl a0) rfl rfl) rfl rfl rfl (fun b => ?_)
 refine wa ?_
 refine WL.nil ?_
 refine KX.go (hK [] _ ?_) trivial
 refine a6 (fun _ hK_1' => ?_)
 refine a4 ?_
 refine wa ?_
 refine WL.nil ?_
 refine kg (hK_1' [(2, zI 1)] _ ?_)
 refine c7 ?_
 exact hE.ret [] rfl rfl (.inl ⟨_, h, rfl⟩) (e9.of1 rfl (RV.tmp rfl))
def af3 (n_0 : Tr) (n_1 : Tr) (K : Int → Prop) : Prop :=
 (m9 Tryd.prog (Tr.val n_0.sure) "Size" [] (zI ((n_0.sure.size : Nat) : Int))) ∧
 (I64 (1 + ((n_0.sure.size : Nat) : Int))) ∧
 (m9 Tryd.prog (Tr.val n_1.sure) "Size" [] (zI ((n_1.sure.size : Nat) : Int))) ∧
 (I64 ((1 + ((n_0.sure.size : Nat) : Int)) + ((n_1.sure.size : Nat) : Int))) ∧
 K ((1 + ((n_0.sure.size : Nat) : Int)) + ((n_1.sure.size : Nat) : Int))
theorem amt  (n_0 : Tr) (n_1 : Tr) (K : Int → Prop) (h : af3 n_0 n_1 K) :
  c9 Tryd.prog 27 [Value.agg [Tr.val n_0, Tr.val n_1].toArray] [] [] (fun o => (∃ (v : Int), K v ∧ o = .ret (zI v) []) ∨ (False)) := by
 unfold af3 at h
 refine b5 (n := 13) (L0 := [(0, Value.agg [Tr.val n_0, Tr.val n_1].toArray)]) Tryd.func27 rfl rfl rfl rfl (fun w0 M Q hE => ?_)
 refine a6 (fun _ hK => ?_)
 refine a4 ?_
 refine WL.make (MV.box (cs := [Tr.val n_0, Tr.val n_1]) rfl rfl) rfl rfl rfl (fun b => ?_)
 refine wa ?_
 refine WL.nil ?_
 refine kg (hK [(1, zP b)] _ ?_)
 refine a6 (fun _ hK_1' => ?_)
 refine o5 9 [] g8 (by kernel_rfl) rfl (fun T hT => ?_)
 refine fv (fun _ => OV.fieldAddr0 rfl abb) ?_
 refine fv (fun _ => OV.load rfl (At.own 0 rfl) rfl d8) ?_
 refine FL.call m3 (fun _ => rfl) (m4 n_0) trivial rfl (fun _ => rfl) rfl ?_
 obtain ⟨o, h⟩ := h
 refine FL.cv (fun _ => CV.meth rfl o rfl) rfl rfl (fun _ => rfl) rfl ?_
 obtain ⟨o_1', h⟩ := h
 refine fv (fun _ => OV.add rfl rfl o_1') ?_
 refine fv (fun _ => OV.fieldAddr0 rfl abe) ?_
 refine fv (fun _ => OV.load rfl (At.own 0 rfl) rfl d8) ?_
 refine FL.call m3 (fun _ => rfl) (m4 n_1) trivial rfl (fun _ => rfl) rfl ?_
 obtain ⟨o_2', h⟩ := h
 refine FL.cv (fun _ => CV.meth rfl o_2' rfl) rfl rfl (fun _ => rfl) rfl ?_
 refine FL.weak (L' := fun γ => [(7, zI (1 + ((n_0.sure.size : Nat) : Int))), (11, zI ((n_1.sure.size : Nat) : Int))]) (fun γ => ⟨rfl, rfl, trivial⟩) (FL.nil (hT (fun γ => [(7, zI (1 + ((n_0.sure.size : Nat) : Int))), (11, zI ((n_1.sure.size : Nat) : Int))]) (fun γ => ?_)))
 obtain ⟨o_3', h⟩ := h
 refine wv (OV.add rfl rfl o_3') ?_
 refine wa ?_
 refine WL.nil ?_
 refine kg (hK_1' [(2, zI ((1 + ((n_0.sure.size : Nat) : Int)) + ((n_1.sure.size : Nat) : Int)))] _ ?_)
 refine c7 ?_
 exact hE.ret [] rfl rfl (.inl ⟨_, h, rfl⟩) (e9.of1 rfl (RV.tmp rfl))
def af0 (n_0 : Tr) (n_1 : Tr) (K : Int → Prop) : Prop :=
 (m9 Tryd.prog (Tr.val n_0.sure) "Size" [] (zI ((n_0.sure.size : Nat) : Int))) ∧
 (I64 (1 + ((n_0.sure.size : Nat) : Int))) ∧
 (m9 Tryd.prog (Tr.val n_1.sure) "Size" [] (zI ((n_1.sure.size : Nat) : Int))) ∧
 (I64 ((1 + ((n_0.sure.size : Nat) : Int)) + ((n_1.sure.size : Nat) : Int))) ∧
 K ((1 + ((n_0.sure.size : Nat) : Int)) + ((n_1.sure.size : Nat) : Int))
theorem alf  (n_0 : Tr) (n_1 : Tr) (K : Int → Prop) (h : af0 n_0 n_1 K) :
  c9 Tryd.prog 209 [Value.agg [Tr.val n_0, Tr.val n_1].toArray] [] [] (fun o => (∃ (v : Int), K v ∧ o = .ret (zI v) []) ∨ (False)) := by
 unfold af0 at h
 refine b5 (n := 13) (L0 := [(0, Value.agg [Tr.val n_0, Tr.val n_1].toArray)]) Tryd.func209 rfl rfl rfl rfl (fun w0 M Q hE => ?_)
 refine a6 (fun _ hK => ?_)
 refine a4 ?_
 refine WL.make (MV.box (cs := [Tr.val n_0, Tr.val n_1]) rfl rfl) rfl rfl rfl (fun b => ?_)
 refine wa ?_
 refine WL.nil ?_
 refine kg (hK [(1, zP b)] _ ?_)
 refine a6 (fun _ hK_1' => ?_)
 refine o5 9 [] g8 (by kernel_rfl) rfl (fun T hT => ?_)
 refine fv (fun _ => OV.fieldAddr0 rfl aaz) ?_
 refine fv (fun _ => OV.load rfl (At.own 0 rfl) rfl d8) ?_
 refine FL.call m3 (fun _ => rfl) (m4 n_0) trivial rfl (fun _ => rfl) rfl ?_
 obtain ⟨o, h⟩ := h
 refine FL.cv (fun _ => CV.meth rfl o rfl) rfl rfl (fun _ => rfl) rfl ?_
 obtain ⟨o_1', h⟩ := h
 refine fv (fun _ => OV.add rfl rfl o_1') ?_
 refine fv (fun _ => OV.fieldAddr0 rfl aaw) ?_
 refine fv (fun _ => OV.load rfl (At.own 0 rfl) rfl d8) ?_
 refine FL.call m3 (fun _ => rfl) (m4 n_1) trivial rfl (fun _ => rfl) rfl ?_
 obtain ⟨o_2', h⟩ := h
 refine FL.cv (fun _ => CV.meth rfl o_2' rfl) rfl rfl (fun _ => rfl) rfl ?_
 refine FL.weak (L' := fun γ => [(7, zI (1 + ((n_0.sure.size : Nat) : Int))), (11, zI ((n_1.sure.size : Nat) : Int))]) (fun γ => ⟨rfl, rfl, trivial⟩) (FL.nil (hT (fun γ => [(7, zI (1 + ((n_0.sure.size : Nat) : Int))), (11, zI ((n_1.sure.size : Nat) : Int))]) (fun γ => ?_)))
 obtain ⟨o_3', h⟩ := h
 refine wv (OV.add rfl rfl o_3') ?_
 refine wa ?_
 refine WL.nil ?_
 refine kg (hK_1' [(2, zI ((1 + ((n_0.sure.size : Nat) : Int)) + ((n_1.sure.size : Nat) : Int)))] _ ?_)
 refine c7 ?_
 exact hE.ret [] rfl rfl (.inl ⟨_, h, rfl⟩) (e9.of1 rfl (RV.tmp rfl))
def afi (n_0 : Tr) (K : Int → Prop) : Prop :=
 (m9 Tryd.prog (Tr.val n_0.sure) "Size" [] (zI ((n_0.sure.size : Nat) : Int))) ∧
 (I64 (1 + ((n_0.sure.size : Nat) : Int))) ∧
 K (1 + ((n_0.sure.size : Nat) : Int))
theorem akn  (n_0 : Tr) (K : Int → Prop) (h : afi n_0 K) :
  c9 Tryd.prog 211 [Value.agg [Tr.val n_0].toArray] [] [] (fun o => (∃ (v : Int), K v ∧ o = .ret (zI v) []) ∨ (False)) := by
 unfold afi at h
 refine b5 (n := 8) (L0 := [(0, Value.agg [Tr.val n_0].toArray)]) Tryd.func211 rfl rfl rfl rfl (fun w0 M Q hE => ?_)
 refine a6 (fun _ hK => ?_)
 refine a4 ?_
 refine WL.make (MV.box (cs := [Tr.val n_0]) rfl rfl) rfl rfl rfl (fun b => ?_)
 refine wa ?_
 refine WL.nil ?_
 refine kg (hK [(1, zP b)] _ ?_)
 refine a6 (fun _ hK_1' => ?_)
 refine a4 ?_
 refine wv (OV.fieldAddr0 rfl ach) ?_
 refine wv (OV.load rfl (At.own 0 rfl) rfl d8) ?_
 refine WL.call (A := []) m3 rfl (m4 n_0) rfl trivial rfl rfl ?_
 obtain ⟨o, h⟩ := h
 refine WL.cv (CV.meth rfl o rfl) rfl rfl rfl ?_
 obtain ⟨o_1', h⟩ := h
 refine wv (OV.add rfl rfl o_1') ?_
 refine wa ?_
 refine WL.nil ?_
 refine kg (hK_1' [(2, zI (1 + ((n_0.sure.size : Nat) : Int)))] _ ?_)
 refine c7 ?_
 exact hE.ret [] rfl rfl (.inl ⟨_, h, rfl⟩) (e9.of1 rfl (RV.tmp rfl))
def afz (n_0 : Tr) (n_1 : Tr) (K : Int → Prop) : Prop :=
 (m9 Tryd.prog (Tr.val n_0.sure) "Size" [] (zI ((n_0.sure.size : Nat) : Int))) ∧
 (I64 (1 + ((n_0.sure.size : Nat) : Int))) ∧
 (m9 Tryd.prog (Tr.val n_1.sure) "Size" [] (zI ((n_1.sure.size : Nat) : Int))) ∧
 (I64 ((1 + ((n_0.sure.size : Nat) : Int)) + ((n_1.sure.size : Nat) : Int))) ∧
 K ((1 + ((n_0.sure.size : Nat) : Int)) + ((n_1.sure.size : Nat) : Int))
theorem ak7  (n_0 : Tr) (n_1 : Tr) (K : Int → Prop) (h : afz n_0 n_1 K) :
  c9 Tryd.prog 205 [Value.agg [Tr.val n_0, Tr.val n_1].toArray] [] [] (fun o => (∃ (v : Int), K v ∧ o = .ret (zI v) []) ∨ (False)) := by
 unfold afz at h
 refine b5 (n := 13) (L0 := [(0, Value.agg [Tr.val n_0, Tr.val n_1].toArray)]) Tryd.func205 rfl rfl rfl rfl (fun w0 M Q hE => ?_)
 refine a6 (fun _ hK => ?_)
 refine a4 ?_
 refine WL.make (MV.box (cs := [Tr.val n_0, Tr.val n_1]) rfl rfl) rfl rfl rfl (fun b => ?_)
 refine wa ?_
 refine WL.nil ?_
 refine kg (hK [(1, zP b)] _ ?_)
 refine a6 (fun _ hK_1' => ?_)
 refine o5 9 [] g8 (by kernel_rfl) rfl (fun T hT => ?_)
 refine fv (fun _ => OV.fieldAddr0 rfl aan) ?_
 refine fv (fun _ => OV.load rfl (At.own 0 rfl) rfl d8) ?_
 refine FL.call m3 (fun _ => rfl) (m4 n_0) trivial rfl (fun _ => rfl) rfl ?_
 obtain ⟨o, h⟩ := h
 refine FL.cv (fun _ => CV.meth rfl o rfl) rfl rfl (fun _ => rfl) rfl ?_
 obtain ⟨o_1', h⟩ := h
 refine fv (fun _ => OV.add rfl rfl o_1') ?_
 refine fv (fun _ => OV.fieldAddr0 rfl aar) ?_
 refine fv (fun _ => OV.load rfl (At.own 0 rfl) rfl d8) ?_
 refine FL.call m3 (fun _ => rfl) (m4 n_1) trivial rfl (fun _ => rfl) rfl ?_
 obtain ⟨o_2', h⟩ := h
 refine FL.cv (fun _ => CV.meth rfl o_2' rfl) rfl rfl (fun _ => rfl) rfl ?_
 refine FL.weak (L' := fun γ => [(7, zI (1 + ((n_0.sure.size : Nat) : Int))), (11, zI ((n_1.sure.size : Nat) : Int))]) (fun γ => ⟨rfl, rfl, trivial⟩) (FL.nil (hT (fun γ => [(7, zI (1 + ((n_0.sure.size : Nat) : Int))), (11, zI ((n_1.sure.size : Nat) : Int))]) (fun γ => ?_)))
 obtain ⟨o_3', h⟩ := h
 refine wv (OV.add rfl rfl o_3') ?_
 refine wa ?_
 refine WL.nil ?_
 refine kg (hK_1' [(2, zI ((1 + ((n_0.sure.size : Nat) : Int)) + ((n_1.sure.size : Nat) : Int)))] _ ?_)
 refine c7 ?_
 exact hE.ret [] rfl rfl (.inl ⟨_, h, rfl⟩) (e9.of1 rfl (RV.tmp rfl))
def aee (n_0 : Tr) (n_1 : Tr) (K : Int → Prop) : Prop :=
 (m9 Tryd.prog (Tr.val n_0.sure) "Size" [] (zI ((n_0.sure.size : Nat) : Int))) ∧
 (I64 (1 + ((n_0.sure.size : Nat) : Int))) ∧
 (m9 Tryd.prog (Tr.val n_1.sure) "Size" [] (zI ((n_1.sure.size : Nat) : Int))) ∧
 (I64 ((1 + ((n_0.sure.size : Nat) : Int)) + ((n_1.sure.size : Nat) : Int))) ∧
 K ((1 + ((n_0.sure.size : Nat) : Int)) + ((n_1.sure.size : Nat) : Int))
theorem ain  (n_0 : Tr) (n_1 : Tr) (K : Int → Prop) (h : aee n_0 n_1 K) :
  c9 Tryd.prog 207 [Value.agg [Tr.val n_0, Tr.val n_1].toArray] [] [] (fun o => (∃ (v : Int), K v ∧ o = .ret (zI v) []) ∨ (False)) := by
 unfold aee at h
 refine b5 (n := 13) (L0 := [(0, Value.agg [Tr.val n_0, Tr.val n_1].toArray)]) Tryd.func207 rfl rfl rfl rfl (fun w0 M Q hE => ?_)
 refine a6 (fun _ hK => ?_)
 refine a4 ?_
 refine WL.make (MV.box (cs := [Tr.val n_0, Tr.val n_1]) rfl rfl) rfl rfl rfl (fun b => ?_)
 refine wa ?_
 refine WL.nil ?_
 refine kg (hK [(1, zP b)] _ ?_)
 refine a6 (fun _ hK_1' => ?_)
 refine o5 9 [] g8 (by kernel_rfl) rfl (fun T hT => ?_)
 refine fv (fun _ => OV.fieldAddr0 rfl aat) ?_
 refine fv (fun _ => OV.load rfl (At.own 0 rfl) rfl d8) ?_
 refine FL.call m3 (fun _ => rfl) (m4 n_0) trivial rfl (fun _ => rfl) rfl ?_
 obtain ⟨o, h⟩ := h
 refine FL.cv (fun _ => CV.meth rfl o rfl) rfl rfl (fun _ => rfl) rfl ?_
 obtain ⟨o_1', h⟩ := h
 refine fv (fun _ => OV.add rfl rfl o_1') ?_
 refine fv (fun _ => OV.fieldAddr0 rfl aap) ?_
 refine fv (fun _ => OV.load rfl (At.own 0 rfl) rfl d8) ?_
 refine FL.call m3 (fun _ => rfl) (m4 n_1) trivial rfl (fun _ => rfl) rfl ?_
 obtain ⟨o_2', h⟩ := h
 refine FL.cv (fun _ => CV.meth rfl o_2' rfl) rfl rfl (fun _ => rfl) rfl ?_
 refine FL.weak (L' := fun γ => [(7, zI (1 + ((n_0.sure.size : Nat) : Int))), (11, zI ((n_1.sure.size : Nat) : Int))]) (fun γ => ⟨rfl, rfl, trivial⟩) (FL.nil (hT (fun γ => [(7, zI (1 + ((n_0.sure.size : Nat) : Int))), (11, zI ((n_1.sure.size : Nat) : Int))]) (fun γ => ?_)))
 obtain ⟨o_3', h⟩ := h
 refine wv (OV.add rfl rfl o_3') ?_
 refine wa ?_
 refine WL.nil ?_
 refine kg (hK_1' [(2, zI ((1 + ((n_0.sure.size : Nat) : Int)) + ((n_1.sure.size : Nat) : Int)))] _ ?_)
 refine c7 ?_
 exact hE.ret [] rfl rfl (.inl ⟨_, h, rfl⟩) (e9.of1 rfl (RV.tmp rfl))
def agi  (K : Bool → Prop) : Prop :=
 K true
theorem amr   (K : Bool → Prop) (h : agi  K) :
  c9 Tryd.prog 199 [Value.agg [].toArray] [] [] (fun o => (∃ (v : Bool), K v ∧ o = .ret (zB v) []) ∨ (False)) := by
 unfold agi at h
 refine b5 (n := 3) (L0 := [(0, Value.agg [].toArray)]) Tryd.func199 rfl rfl rfl rfl (fun w0 M Q hE => ?_)
 refine a6 (fun _ hK => ?_)
 refine a4 ?_
 refine WL.make (MV.box (cs := []) rfl rfl) rfl rfl rfl (fun b => ?_)
 refine wa ?_
 refine WL.nil ?_
 refine KX.go (hK [] _ ?_) trivial
 refine a6 (fun _ hK_1' => ?_)
 refine a4 ?_
 refine wa ?_
 refine WL.nil ?_
 refine kg (hK_1' [(2, zB true)] _ ?_)
 refine c7 ?_
 exact hE.ret [] rfl rfl (.inl ⟨_, h, rfl⟩) (e9.of1 rfl (RV.tmp rfl))
def ag0 (_ : CS) (K : Bool → Prop) : Prop :=
 K false
theorem ak2  (a0 : CS) (K : Bool → Prop) (h : ag0 a0 K) :
  c9 Tryd.prog 201 [Value.agg (wl a0).toArray] [] [] (fun o => (∃ (v : Bool), K v ∧ o = .ret (zB v) []) ∨ (False)) := by
 unfold ag0 at h
 refine b5 (n := 3) (L0 := [(0, Value.agg (wl a0).toArray)]) Tryd.func201 rfl rfl rfl rfl (fun w0 M Q hE => ?_)
 refine a6 (fun _ hK => ?_)
 refine a4 ?_
 refine WL.make (MV.box (cs := wl a0) rfl rfl) rfl rfl rfl (fun b => ?_)
 refine wa ?_
 refine WL.nil ?_
 refine KX.go (hK [] _ ?_) trivial
 refine a6 (fun _ hK_1' => ?_)
 refine a4 ?_
 refine wa ?_
 refine WL.nil ?_
 refine kg (hK_1' [(2, zB false)] _ ?_)
 refine c7 ?_
 exact hE.ret [] rfl rfl (.inl ⟨_, h, rfl⟩) (e9.of1 rfl (RV.tmp rfl))
def ag4 (n_0 : Tr) (n_1 : Tr) (K : Bool → Prop) : Prop :=
 (m9 Tryd.prog (Tr.val n_0.sure) "Nullable" [] (zB n_0.sure.null)) ∧
 (n_0.sure.null = true → (m9 Tryd.prog (Tr.val n_1.sure) "Nullable" [] (zB n_1.sure.null))) ∧
 K (n_0.sure.null && n_1.sure.null)
theorem amm  (n_0 : Tr) (n_1 : Tr) (K : Bool → Prop) (h : ag4 n_0 n_1 K) :
  c9 Tryd.prog 28 [Value.agg [Tr.val n_0, Tr.val n_1].toArray] [] [] (fun o => (∃ (v : Bool), K v ∧ o = .ret (zB v) []) ∨ (False)) := by
 unfold ag4 at h
 refine b5 (n := 13) (L0 := [(0, Value.agg [Tr.val n_0, Tr.val n_1].toArray)]) Tryd.func28 rfl rfl rfl rfl (fun w0 M Q hE => ?_)
 refine a6 (fun _ hK => ?_)
 refine a4 ?_
 refine WL.make (MV.box (cs := [Tr.val n_0, Tr.val n_1]) rfl rfl) rfl rfl rfl (fun b => ?_)
 refine wa ?_
 refine WL.nil ?_
 refine kg (hK [(1, zP b)] _ ?_)
 refine a6 (fun _ hK_1' => ?_)
 refine a4 ?_
 refine wv (OV.fieldAddr0 rfl abb) ?_
 refine wv (OV.load rfl (At.own 0 rfl) rfl d8) ?_
 refine WL.call (A := []) m3 rfl (m4 n_0) rfl trivial rfl rfl ?_
 obtain ⟨o, h⟩ := h
 refine WL.cv (CV.meth rfl o rfl) rfl rfl rfl ?_
 refine wm ?_
 obtain ⟨o_2', h⟩ := h
 refine WL.cut 5 [(12, zB (n_0.sure.null && n_1.sure.null))] ?_ (fun K0_2' hK_2' => ?_)
 rotate_left
 ·refine WL.split (n_0.sure.null) (fun hb => ?_) (fun hb => ?_)
  ·have o_1' := o_2' hb
   refine WL.set 7 rfl (congrArg zB hb) ?_
   refine wv (OV.fieldAddr0 rfl abe) ?_
   refine wv (OV.load rfl (At.own 0 rfl) rfl d8) ?_
   refine WL.call (A := []) m3 rfl (m4 n_1) rfl trivial rfl rfl ?_
   refine WL.cv (CV.meth rfl o_1' rfl) rfl rfl rfl ?_
   refine wv (OV.pickT rfl rfl) ?_
   refine WL.set 12 rfl (bT (v := n_1.sure.null) hb) ?_
   exact WL.end_ (kg hK_2')
  ·refine WL.set 7 rfl (congrArg zB hb) ?_
   refine wk ?_
   refine wk ?_
   refine wk ?_
   refine wk ?_
   refine wv (OV.pickF rfl rfl) ?_
   refine WL.set 12 rfl (bF (v := n_1.sure.null) hb) ?_
   exact WL.end_ (kg hK_2')
 refine wa ?_
 refine WL.nil ?_
 refine kg (hK_1' [(2, zB (n_0.sure.null && n_1.sure.null))] _ ?_)
 refine c7 ?_
 exact hE.ret [] rfl rfl (.inl ⟨_, h, rfl⟩) (e9.of1 rfl (RV.tmp rfl))
def agh (n_0 : Tr) (n_1 : Tr) (K : Bool → Prop) : Prop :=
 (m9 Tryd.prog (Tr.val n_0.sure) "Nullable" [] (zB n_0.sure.null)) ∧
 (n_0.sure.null = false → (m9 Tryd.prog (Tr.val n_1.sure) "Nullable" [] (zB n_1.sure.null))) ∧
 K (n_0.sure.null || n_1.sure.null)
theorem ak6  (n_0 : Tr) (n_1 : Tr) (K : Bool → Prop) (h : agh n_0 n_1 K) :
  c9 Tryd.prog 208 [Value.agg [Tr.val n_0, Tr.val n_1].toArray] [] [] (fun o => (∃ (v : Bool), K v ∧ o = .ret (zB v) []) ∨ (False)) := by
 unfold agh at h
 refine b5 (n := 13) (L0 := [(0, Value.agg [Tr.val n_0, Tr.val n_1].toArray)]) Tryd.func208 rfl rfl rfl rfl (fun w0 M Q hE => ?_)
 refine a6 (fun _ hK => ?_)
 refine a4 ?_
 refine WL.make (MV.box (cs := [Tr.val n_0, Tr.val n_1]) rfl rfl) rfl rfl rfl (fun b => ?_)
 refine wa ?_
 refine WL.nil ?_
 refine kg (hK [(1, zP b)] _ ?_)
 refine a6 (fun _ hK_1' => ?_)
 refine a4 ?_
 refine wv (OV.fieldAddr0 rfl aaz) ?_
 refine wv (OV.load rfl (At.own 0 rfl) rfl d8) ?_
 refine WL.call (A := []) m3 rfl (m4 n_0) rfl trivial rfl rfl ?_
 obtain ⟨o, h⟩ := h
 refine WL.cv (CV.meth rfl o rfl) rfl rfl rfl ?_
 refine wm ?_
 obtain ⟨o_2', h⟩ := h
 refine WL.cut 5 [(12, zB (n_0.sure.null || n_1.sure.null))] ?_ (fun K0_2' hK_2' => ?_)
 rotate_left
 ·refine WL.split (n_0.sure.null) (fun hb => ?_) (fun hb => ?_)
  ·refine WL.set 7 rfl (congrArg zB hb) ?_
   refine wk ?_
   refine wk ?_
   refine wk ?_
   refine wk ?_
   refine wv (OV.pickT rfl rfl) ?_
   refine WL.set 12 rfl (oT (v := n_1.sure.null) hb) ?_
   exact WL.end_ (kg hK_2')
  ·have o_1' := o_2' hb
   refine WL.set 7 rfl (congrArg zB hb) ?_
   refine wv (OV.fieldAddr0 rfl aaw) ?_
   refine wv (OV.load rfl (At.own 0 rfl) rfl d8) ?_
   refine WL.call (A := []) m3 rfl (m4 n_1) rfl trivial rfl rfl ?_
   refine WL.cv (CV.meth rfl o_1' rfl) rfl rfl rfl ?_
   refine wv (OV.pickF rfl rfl) ?_
   refine WL.set 12 rfl (oF (v := n_1.sure.null) hb) ?_
   exact WL.end_ (kg hK_2')
 refine wa ?_
 refine WL.nil ?_
 refine kg (hK_1' [(2, zB (n_0.sure.null || n_1.sure.null))] _ ?_)
 refine c7 ?_
 exact hE.ret [] rfl rfl (.inl ⟨_, h, rfl⟩) (e9.of1 rfl (RV.tmp rfl))
def ae7 (_ : Tr) (K : Bool → Prop) : Prop :=
 K true
theorem ajz  (a0_0 : Tr) (K : Bool → Prop) (h : ae7 a0_0 K) :
  c9 Tryd.prog 210 [Value.agg [Tr.val a0_0].toArray] [] [] (fun o => (∃ (v : Bool), K v ∧ o = .ret (zB v) []) ∨ (False)) := by
 unfold ae7 at h
 refine b5 (n := 3) (L0 := [(0, Value.agg [Tr.val a0_0].toArray)]) Tryd.func210 rfl rfl rfl rfl (fun w0 M Q hE => ?_)
 refine a6 (fun _ hK => ?_)
 refine a4 ?_
 refine WL.make (MV.box (cs := [Tr.val a0_0]) rfl rfl) rfl rfl rfl (fun b => ?_)
 refine wa ?_
 refine WL.nil ?_
 refine KX.go (hK [] _ ?_) trivial
 refine a6 (fun _ hK_1' => ?_)
 refine a4 ?_
 refine wa ?_
 refine WL.nil ?_
 refine kg (hK_1' [(2, zB true)] _ ?_)
 refine c7 ?_
 exact hE.ret [] rfl rfl (.inl ⟨_, h, rfl⟩) (e9.of1 rfl (RV.tmp rfl))
def afy (n_0 : Tr) (n_1 : Tr) (K : Bool → Prop) : Prop :=
 (m9 Tryd.prog (Tr.val n_0.sure) "Nullable" [] (zB n_0.sure.null)) ∧
 (n_0.sure.null = true → (m9 Tryd.prog (Tr.val n_1.sure) "Nullable" [] (zB n_1.sure.null))) ∧
 K (n_0.sure.null && n_1.sure.null)
theorem amk  (n_0 : Tr) (n_1 : Tr) (K : Bool → Prop) (h : afy n_0 n_1 K) :
  c9 Tryd.prog 204 [Value.agg [Tr.val n_0, Tr.val n_1].toArray] [] [] (fun o => (∃ (v : Bool), K v ∧ o = .ret (zB v) []) ∨ (False)) := by
 unfold afy at h
 refine b5 (n := 13) (L0 := [(0, Value.agg [Tr.val n_0, Tr.val n_1].toArray)]) Tryd.func204 rfl rfl rfl rfl (fun w0 M Q hE => ?_)
 refine a6 (fun _ hK => ?_)
 refine a4 ?_
 refine WL.make (MV.box (cs := [Tr.val n_0, Tr.val n_1]) rfl rfl) rfl rfl rfl (fun b => ?_)
 refine wa ?_
 refine WL.nil ?_
 refine kg (hK [(1, zP b)] _ ?_)
 refine a6 (fun _ hK_1' => ?_)
 refine a4 ?_
 refine wv (OV.fieldAddr0 rfl aan) ?_
 refine wv (OV.load rfl (At.own 0 rfl) rfl d8) ?_
 refine WL.call (A := []) m3 rfl (m4 n_0) rfl trivial rfl rfl ?_
 obtain ⟨o, h⟩ := h
 refine WL.cv (CV.meth rfl o rfl) rfl rfl rfl ?_
 refine wm ?_
 obtain ⟨o_2', h⟩ := h
 refine WL.cut 5 [(12, zB (n_0.sure.null && n_1.sure.null))] ?_ (fun K0_2' hK_2' => ?_)
 rotate_left
 ·refine WL.split (n_0.sure.null) (fun hb => ?_) (fun hb => ?_)
  ·have o_1' := o_2' hb
   refine WL.set 7 rfl (congrArg zB hb) ?_
   refine wv (OV.fieldAddr0 rfl aar) ?_
   refine wv (OV.load rfl (At.own 0 rfl) rfl d8) ?_
   refine WL.call (A := []) m3 rfl (m4 n_1) rfl trivial rfl rfl ?_
   refine WL.cv (CV.meth rfl o_1' rfl) rfl rfl rfl ?_
   refine wv (OV.pickT rfl rfl) ?_
   refine WL.set 12 rfl (bT (v := n_1.sure.null) hb) ?_
   exact WL.end_ (kg hK_2')
  ·refine WL.set 7 rfl (congrArg zB hb) ?_
   refine wk ?_
   refine wk ?_
   refine wk ?_
   refine wk ?_
   refine wv (OV.pickF rfl rfl) ?_
   refine WL.set 12 rfl (bF (v := n_1.sure.null) hb) ?_
   exact WL.end_ (kg hK_2')
 refine wa ?_
 refine WL.nil ?_
 refine kg (hK_1' [(2, zB (n_0.sure.null && n_1.sure.null))] _ ?_)
 refine c7 ?_
 exact hE.ret [] rfl rfl (.inl ⟨_, h, rfl⟩) (e9.of1 rfl (RV.tmp rfl))
def ad6 (n_0 : Tr) (n_1 : Tr) (K : Bool → Prop) : Prop :=
 (m9 Tryd.prog (Tr.val n_0.sure) "Nullable" [] (zB n_0.sure.null)) ∧
 (n_0.sure.null = true → (m9 Tryd.prog (Tr.val n_1.sure) "Nullable" [] (zB n_1.sure.null))) ∧
 K (n_0.sure.null && (!n_1.sure.null))
theorem aiq  (n_0 : Tr) (n_1 : Tr) (K : Bool → Prop) (h : ad6 n_0 n_1 K) :
  c9 Tryd.prog 206 [Value.agg [Tr.val n_0, Tr.val n_1].toArray] [] [] (fun o => (∃ (v : Bool), K v ∧ o = .ret (zB v) []) ∨ (False)) := by
 unfold ad6 at h
 refine b5 (n := 14) (L0 := [(0, Value.agg [Tr.val n_0, Tr.val n_1].toArray)]) Tryd.func206 rfl rfl rfl rfl (fun w0 M Q hE => ?_)
 refine a6 (fun _ hK => ?_)
 refine a4 ?_
 refine WL.make (MV.box (cs := [Tr.val n_0, Tr.val n_1]) rfl rfl) rfl rfl rfl (fun b => ?_)
 refine wa ?_
 refine WL.nil ?_
 refine kg (hK [(1, zP b)] _ ?_)
 refine a6 (fun _ hK_1' => ?_)
 refine a4 ?_
 refine wv (OV.fieldAddr0 rfl aat) ?_
 refine wv (OV.load rfl (At.own 0 rfl) rfl d8) ?_
 refine WL.call (A := []) m3 rfl (m4 n_0) rfl trivial rfl rfl ?_
 obtain ⟨o, h⟩ := h
 refine WL.cv (CV.meth rfl o rfl) rfl rfl rfl ?_
 refine wm ?_
 obtain ⟨o_2', h⟩ := h
 refine WL.cut 6 [(13, zB (n_0.sure.null && (!n_1.sure.null)))] ?_ (fun K0_2' hK_2' => ?_)
 rotate_left
 ·refine WL.split (n_0.sure.null) (fun hb => ?_) (fun hb => ?_)
  ·have o_1' := o_2' hb
   refine WL.set 7 rfl (congrArg zB hb) ?_
   refine wv (OV.fieldAddr0 rfl aap) ?_
   refine wv (OV.load rfl (At.own 0 rfl) rfl d8) ?_
   refine WL.call (A := []) m3 rfl (m4 n_1) rfl trivial rfl rfl ?_
   refine WL.cv (CV.meth rfl o_1' rfl) rfl rfl rfl ?_
   refine wv (OV.not rfl) ?_
   refine wv (OV.pickT rfl rfl) ?_
   refine WL.set 13 rfl (bT (v := !n_1.sure.null) hb) ?_
   exact WL.end_ (kg hK_2')
  ·refine WL.set 7 rfl (congrArg zB hb) ?_
   refine wk ?_
   refine wk ?_
   refine wk ?_
   refine wk ?_
   refine wk ?_
   refine wv (OV.pickF rfl rfl) ?_
   refine WL.set 13 rfl (bF (v := !n_1.sure.null) hb) ?_
   exact WL.end_ (kg hK_2')
 refine wa ?_
 refine WL.nil ?_
 refine kg (hK_1' [(2, zB (n_0.sure.null && (!n_1.sure.null)))] _ ?_)
 refine c7 ?_
 exact hE.ret [] rfl rfl (.inl ⟨_, h, rfl⟩) (e9.of1 rfl (RV.tmp rfl))
theorem Tr.sure_size (x : Tr) : x.sure.size = x.size := by cases x <;> rfl
theorem Tr.sure_null (x : Tr) : x.sure.null = x.null := by cases x <;> rfl
theorem aku (s : CS) : m9 Tryd.prog (Tr.cls s).val "Size" [] (.int .i64 (((Tr.cls s).size : Nat) : Int)) :=
 ⟨_, _, _, rfl, by kernel_rfl, by kernel_rfl, by kernel_rfl, c9.one (amu s (fun v => v = ((Tr.size (.cls s) : Nat) : Int)) rfl)⟩
theorem w3 {x : Tr} (h : x.isNone = false → m9 Tryd.prog x.val "Size" [] (.int .i64 ((x.size : Nat) : Int))) : m9 Tryd.prog x.sure.val "Size" [] (.int .i64 ((x.sure.size : Nat) : Int)) := by
 cases x <;> first | exact aku cs0 | exact h rfl
theorem m8 : ∀ x : Tr, x.isNone = false → x.size ≤ 4611686018427387904 → m9 Tryd.prog x.val "Size" [] (.int .i64 ((x.size : Nat) : Int))
 | .none, h, _ => by cases h
 | .eps, _, _ => ⟨_, _, _, rfl, by kernel_rfl, by kernel_rfl, by kernel_rfl, c9.one (ak3 (fun v => v = ((Tr.size .eps : Nat) : Int)) rfl)⟩
 | .cls s, _, _ => aku s
 | .cat a b, _, hb => ⟨_, _, _, rfl, by kernel_rfl, by kernel_rfl, by kernel_rfl, c9.one (amt a b (fun v => v = ((Tr.size (.cat a b) : Nat) : Int)) (by
   simp only [Tr.size] at hb
   refine ⟨w3 fun h => m8 a h (by omega), ?_, w3 fun h => m8 b h (by omega), ?_, ?_⟩ <;> simp only [Tr.sure_size, Tr.size, I64] <;> omega))⟩
 | .alt a b, _, hb => ⟨_, _, _, rfl, by kernel_rfl, by kernel_rfl, by kernel_rfl, c9.one (alf a b (fun v => v = ((Tr.size (.alt a b) : Nat) : Int)) (by
   simp only [Tr.size] at hb
   refine ⟨w3 fun h => m8 a h (by omega), ?_, w3 fun h => m8 b h (by omega), ?_, ?_⟩ <;> simp only [Tr.sure_size, Tr.size, I64] <;> omega))⟩
 | .and a b, _, hb => ⟨_, _, _, rfl, by kernel_rfl, by kernel_rfl, by kernel_rfl, c9.one (ak7 a b (fun v => v = ((Tr.size (.and a b) : Nat) : Int)) (by
   simp only [Tr.size] at hb
   refine ⟨w3 fun h => m8 a h (by omega), ?_, w3 fun h => m8 b h (by omega), ?_, ?_⟩ <;> simp only [Tr.sure_size, Tr.size, I64] <;> omega))⟩
 | .minus a b, _, hb => ⟨_, _, _, rfl, by kernel_rfl, by kernel_rfl, by kernel_rfl, c9.one (ain a b (fun v => v = ((Tr.size (.minus a b) : Nat) : Int)) (by
   simp only [Tr.size] at hb
   refine ⟨w3 fun h => m8 a h (by omega), ?_, w3 fun h => m8 b h (by omega), ?_, ?_⟩ <;> simp only [Tr.sure_size, Tr.size, I64] <;> omega))⟩
 | .star a, _, hb => ⟨_, _, _, rfl, by kernel_rfl, by kernel_rfl, by kernel_rfl, c9.one (akn a (fun v => v = ((Tr.size (.star a) : Nat) : Int)) (by
   simp only [Tr.size] at hb
   refine ⟨w3 fun h => m8 a h (by omega), ?_, ?_⟩ <;> simp only [Tr.sure_size, Tr.size, I64] <;> omega))⟩
theorem aj9 (s : CS) : m9 Tryd.prog (Tr.cls s).val "Nullable" [] (.bool (Tr.cls s).null) :=
 ⟨_, _, _, rfl, by kernel_rfl, by kernel_rfl, by kernel_rfl, c9.one (ak2 s (fun v => v = (Tr.cls s).null) rfl)⟩
theorem x5 {x : Tr} (h : x.isNone = false → m9 Tryd.prog x.val "Nullable" [] (.bool x.null)) : m9 Tryd.prog x.sure.val "Nullable" [] (.bool x.sure.null) := by
 cases x <;> first | exact aj9 cs0 | exact h rfl
theorem n7 : ∀ x : Tr, x.isNone = false → m9 Tryd.prog x.val "Nullable" [] (.bool x.null)
 | .none, h => by cases h
 | .eps, _ => ⟨_, _, _, rfl, by kernel_rfl, by kernel_rfl, by kernel_rfl, c9.one (amr (fun v => v = Tr.null .eps) rfl)⟩
 | .cls s, _ => aj9 s
 | .star a, _ => ⟨_, _, _, rfl, by kernel_rfl, by kernel_rfl, by kernel_rfl, c9.one (ajz a (fun v => v = Tr.null (.star a)) rfl)⟩
 | .cat a b, _ => ⟨_, _, _, rfl, by kernel_rfl, by kernel_rfl, by kernel_rfl, c9.one (amm a b (fun v => v = Tr.null (.cat a b)) ⟨x5 fun h => n7 a h, fun _ => x5 fun h => n7 b h, by simp only [Tr.sure_null, Tr.null]⟩)⟩
 | .alt a b, _ => ⟨_, _, _, rfl, by kernel_rfl, by kernel_rfl, by kernel_rfl, c9.one (ak6 a b (fun v => v = Tr.null (.alt a b)) ⟨x5 fun h => n7 a h, fun _ => x5 fun h => n7 b h, by simp only [Tr.sure_null, Tr.null]⟩)⟩
 | .and a b, _ => ⟨_, _, _, rfl, by kernel_rfl, by kernel_rfl, by kernel_rfl, c9.one (amk a b (fun v => v = Tr.null (.and a b)) ⟨x5 fun h => n7 a h, fun _ => x5 fun h => n7 b h, by simp only [Tr.sure_null, Tr.null]⟩)⟩
 | .minus a b, _ => ⟨_, _, _, rfl, by kernel_rfl, by kernel_rfl, by kernel_rfl, c9.one (aiq a b (fun v => v = Tr.null (.minus a b)) ⟨x5 fun h => n7 a h, fun _ => x5 fun h => n7 b h, by simp only [Tr.sure_null, Tr.null]⟩)⟩
def afj (need : Int) (K : (List UInt8) → Prop) : Prop :=
 ∃ (J0 : Prop),
  (∀ (_ : Unit), J0 →
   (if (decide (4 < need)) = true then
    (([40] : List UInt8).length + ([91, 93] : List UInt8).length ≤ 9223372036854775807) ∧
    ((([40] : List UInt8) ++ ([91, 93] : List UInt8)).length + ([41] : List UInt8).length ≤ 9223372036854775807) ∧
    K ((([40] : List UInt8) ++ ([91, 93] : List UInt8)) ++ ([41] : List UInt8))
   else
    K ([91, 93] : List UInt8))) ∧
  J0
theorem aj7 (te : TypeId) (fre : Nat × Nat) (need : Int) (K : (List UInt8) → Prop) (h : afj need K) :
  c9 Tryd.prog 51 [Tr.val Tr.none, zI need] [(1, .cells [zU 110, zU 10, zU 114, zU 13, zU 116, zU 9].toArray te fre)] [] (fun o => (∃ (v : List UInt8), K v ∧ o = .ret (st v) []) ∨ (False)) := by
 unfold afj at h
 refine b5 (n := 82) (L0 := [(0, Tr.val Tr.none), (1, zI need)]) Tryd.func51 rfl rfl rfl rfl (fun w0 M Q hE => ?_)
 refine a6 (fun _ hK => ?_)
 refine a4 ?_
 refine wa ?_
 refine WL.nil ?_
 refine kg (hK [(0, Tr.val Tr.none), (1, zI need)] _ ?_)
 refine a6 (fun _ hK_1' => ?_)
 refine a4 ?_
 refine wa ?_
 refine wa ?_
 refine WL.nil ?_
 refine kg (hK_1' [(0, Tr.val Tr.none), (1, zI need), (6, zI 4)] _ ?_)
 obtain ⟨J0, hJ, h⟩ := h
 refine q9 (X := Unit) (fun _ => J0) (fun _ => [(1, zI need), (5, st ([91, 93] : List UInt8)), (6, zI 4)]) (fun _ => []) ?_ (fun K0_11' hK_11' => ?_)
 ·rintro _ hj
  replace h := hJ () hj
  show WC _ _ _ _ [(1, zI need), (5, st ([91, 93] : List UInt8)), (6, zI 4)] []
  refine a6 (fun _ hK_12' => ?_)
  refine a6 (fun _ hK_13' => ?_)
  refine a4 ?_
  refine wm ?_
  refine wm ?_
  refine wv (OV.lss rfl rfl) ?_
  refine WL.nil ?_
  refine kg (hK_13' [(5, st ([91, 93] : List UInt8)), (77, zB (decide (4 < need)))] _ ?_)
  refine c6 (b := decide (4 < need)) rfl (fun hb => ?_) (fun hb => ?_)
  ·replace h := k9 h hb
   refine a6 (fun _ hK_14' => ?_)
   refine a4 ?_
   refine wm ?_
   obtain ⟨o, h⟩ := h
   refine wv (OV.cat rfl rfl o) ?_
   obtain ⟨o_1', h⟩ := h
   refine wv (OV.cat rfl rfl o_1') ?_
   refine wa ?_
   refine WL.nil ?_
   refine kg (hK_14' [(4, st ((([40] : List UInt8) ++ ([91, 93] : List UInt8)) ++ ([41] : List UInt8)))] _ ?_)
   refine c7 ?_
   exact hE.ret [] rfl rfl (.inl ⟨_, h, rfl⟩) (e9.of1 rfl (RV.tmp rfl))
  ·replace h := l0 h hb
   refine d4 ?_
   refine kg (hK_12' [(5, st ([91, 93] : List UInt8))] _ ?_)
   refine a6 (fun _ hK_15' => ?_)
   refine a4 ?_
   refine wm ?_
   refine wa ?_
   refine WL.nil ?_
   refine kg (hK_15' [(4, st ([91, 93] : List UInt8))] _ ?_)
   refine c7 ?_
   exact hE.ret [] rfl rfl (.inl ⟨_, h, rfl⟩) (e9.of1 rfl (RV.tmp rfl))
 ·skip
  refine a6 (fun _ hK_16' => ?_)
  refine a4 ?_
  refine wm ?_
  refine WL.nil ?_
  refine kg (hK_16' [(1, zI need), (6, zI 4), (15, Tr.val Tr.none)] _ ?_)
  refine f0 ?_
  refine a6 (fun _ hK_17' => ?_)
  refine a4 ?_
  refine wv (OV.assertNil rfl z8 aam) ?_
  refine wv (OV.extract 1 rfl rfl) ?_
  refine wv (OV.extract 0 rfl rfl) ?_
  refine WL.nil ?_
  refine kg (hK_17' [(1, zI need), (6, zI 4), (15, Tr.val Tr.none), (17, zB false), (18, Value.agg [].toArray)] _ ?_)
  refine g9 rfl ?_
  refine a6 (fun _ hK_18' => ?_)
  refine a4 ?_
  refine wv (OV.assertNil rfl aa4 abh) ?_
  refine wv (OV.extract 1 rfl rfl) ?_
  refine wv (OV.extract 0 rfl rfl) ?_
  refine WL.nil ?_
  refine kg (hK_18' [(1, zI need), (6, zI 4), (15, Tr.val Tr.none), (20, zB false), (21, Value.agg (wl cs0).toArray)] _ ?_)
  refine g9 rfl ?_
  refine a6 (fun _ hK_19' => ?_)
  refine a4 ?_
  refine wv (OV.assertNil rfl aai abn) ?_
  refine wv (OV.extract 1 rfl rfl) ?_
  refine wv (OV.extract 0 rfl rfl) ?_
  refine WL.nil ?_
  refine kg (hK_19' [(1, zI need), (6, zI 4), (15, Tr.val Tr.none), (26, zB false), (27, Value.agg [Tr.val Tr.none, Tr.val Tr.none].toArray)] _ ?_)
  refine g9 rfl ?_
  refine a6 (fun _ hK_20' => ?_)
  refine a4 ?_
  refine wv (OV.assertNil rfl abg ac5) ?_
  refine wv (OV.extract 1 rfl rfl) ?_
  refine wv (OV.extract 0 rfl rfl) ?_
  refine WL.nil ?_
  refine kg (hK_20' [(1, zI need), (6, zI 4), (15, Tr.val Tr.none), (37, zB false), (38, Value.agg [Tr.val Tr.none, Tr.val Tr.none].toArray)] _ ?_)
  refine g9 rfl ?_
  refine a6 (fun _ hK_21' => ?_)
  refine a4 ?_
  refine wv (OV.assertNil rfl acx aeu) ?_
  refine wv (OV.extract 1 rfl rfl) ?_
  refine wv (OV.extract 0 rfl rfl) ?_
  refine WL.nil ?_
  refine kg (hK_21' [(1, zI need), (6, zI 4), (15, Tr.val Tr.none), (48, zB false), (49, Value.agg [Tr.val Tr.none, Tr.val Tr.none].toArray)] _ ?_)
  refine g9 rfl ?_
  refine a6 (fun _ hK_22' => ?_)
  refine a4 ?_
  refine wv (OV.assertNil rfl af7 ajh) ?_
  refine wv (OV.extract 1 rfl rfl) ?_
  refine wv (OV.extract 0 rfl rfl) ?_
  refine WL.nil ?_
  refine kg (hK_22' [(1, zI need), (6, zI 4), (15, Tr.val Tr.none), (59, zB false), (60, Value.agg [Tr.val Tr.none, Tr.val Tr.none].toArray)] _ ?_)
  refine g9 rfl ?_
  refine a6 (fun _ hK_23' => ?_)
  refine a4 ?_
  refine wv (OV.assertNil rfl ah6 an9) ?_
  refine wv (OV.extract 1 rfl rfl) ?_
  refine wv (OV.extract 0 rfl rfl) ?_
  refine WL.nil ?_
  refine kg (hK_23' [(1, zI need), (6, zI 4), (15, Tr.val Tr.none), (69, zB false), (70, Value.agg [Tr.val Tr.none].toArray)] _ ?_)
  refine g9 rfl ?_
  refine a6 (fun _ hK_24' => ?_)
  refine a4 ?_
  refine wa ?_
  refine WL.nil ?_
  refine kg (hK_24' [(1, zI need), (6, zI 4)] _ ?_)
  refine a4 ?_
  refine wa ?_
  refine WL.nil ?_
  exact kh (hK_11' () h) []
def agx (need : Int) (K : (List UInt8) → Prop) : Prop :=
 ∃ (J0 : Prop),
  (∀ (_ : Unit), J0 →
   (if (decide (4 < need)) = true then
    (([40] : List UInt8).length + ([40, 41] : List UInt8).length ≤ 9223372036854775807) ∧
    ((([40] : List UInt8) ++ ([40, 41] : List UInt8)).length + ([41] : List UInt8).length ≤ 9223372036854775807) ∧
    K ((([40] : List UInt8) ++ ([40, 41] : List UInt8)) ++ ([41] : List UInt8))
   else
    K ([40, 41] : List UInt8))) ∧
  J0
theorem amg (te : TypeId) (fre : Nat × Nat) (need : Int) (K : (List UInt8) → Prop) (h : agx need K) :
  c9 Tryd.prog 51 [Tr.val .eps, zI need] [(1, .cells [zU 110, zU 10, zU 114, zU 13, zU 116, zU 9].toArray te fre)] [] (fun o => (∃ (v : List UInt8), K v ∧ o = .ret (st v) []) ∨ (False)) := by
 unfold agx at h
 refine b5 (n := 82) (L0 := [(0, Tr.val .eps), (1, zI need)]) Tryd.func51 rfl rfl rfl rfl (fun w0 M Q hE => ?_)
 refine a6 (fun _ hK => ?_)
 refine a4 ?_
 refine wa ?_
 refine WL.nil ?_
 refine kg (hK [(0, Tr.val .eps), (1, zI need)] _ ?_)
 refine a6 (fun _ hK_1' => ?_)
 refine a4 ?_
 refine wa ?_
 refine wa ?_
 refine WL.nil ?_
 refine kg (hK_1' [(0, Tr.val .eps), (1, zI need), (6, zI 4)] _ ?_)
 obtain ⟨J0, hJ, h⟩ := h
 refine q9 (X := Unit) (fun _ => J0) (fun _ => [(1, zI need), (5, st ([40, 41] : List UInt8)), (6, zI 4)]) (fun _ => []) ?_ (fun K0_5' hK_5' => ?_)
 ·rintro _ hj
  replace h := hJ () hj
  show WC _ _ _ _ [(1, zI need), (5, st ([40, 41] : List UInt8)), (6, zI 4)] []
  refine a6 (fun _ hK_6' => ?_)
  refine a6 (fun _ hK_7' => ?_)
  refine a4 ?_
  refine wm ?_
  refine wm ?_
  refine wv (OV.lss rfl rfl) ?_
  refine WL.nil ?_
  refine kg (hK_7' [(5, st ([40, 41] : List UInt8)), (77, zB (decide (4 < need)))] _ ?_)
  refine c6 (b := decide (4 < need)) rfl (fun hb => ?_) (fun hb => ?_)
  ·replace h := k9 h hb
   refine a6 (fun _ hK_8' => ?_)
   refine a4 ?_
   refine wm ?_
   obtain ⟨o, h⟩ := h
   refine wv (OV.cat rfl rfl o) ?_
   obtain ⟨o_1', h⟩ := h
   refine wv (OV.cat rfl rfl o_1') ?_
   refine wa ?_
   refine WL.nil ?_
   refine kg (hK_8' [(4, st ((([40] : List UInt8) ++ ([40, 41] : List UInt8)) ++ ([41] : List UInt8)))] _ ?_)
   refine c7 ?_
   exact hE.ret [] rfl rfl (.inl ⟨_, h, rfl⟩) (e9.of1 rfl (RV.tmp rfl))
  ·replace h := l0 h hb
   refine d4 ?_
   refine kg (hK_6' [(5, st ([40, 41] : List UInt8))] _ ?_)
   refine a6 (fun _ hK_9' => ?_)
   refine a4 ?_
   refine wm ?_
   refine wa ?_
   refine WL.nil ?_
   refine kg (hK_9' [(4, st ([40, 41] : List UInt8))] _ ?_)
   refine c7 ?_
   exact hE.ret [] rfl rfl (.inl ⟨_, h, rfl⟩) (e9.of1 rfl (RV.tmp rfl))
 ·skip
  refine a6 (fun _ hK_10' => ?_)
  refine a4 ?_
  refine wm ?_
  refine WL.nil ?_
  refine kg (hK_10' [(1, zI need), (6, zI 4), (15, Tr.val .eps)] _ ?_)
  refine f0 ?_
  refine a6 (fun _ hK_11' => ?_)
  refine a4 ?_
  refine wv (OV.assertYes (t' := 49) (v := Value.agg [].toArray) rfl z8) ?_
  refine wv (OV.extract 1 rfl rfl) ?_
  refine wv (OV.extract 0 rfl rfl) ?_
  refine WL.nil ?_
  refine kg (hK_11' [(1, zI need), (6, zI 4), (15, Tr.val .eps), (17, zB true), (18, Value.agg [].toArray)] _ ?_)
  refine t4 rfl ?_
  refine a6 (fun _ hK_12' => ?_)
  refine a4 ?_
  refine WL.make (MV.alloc ams) rfl rfl rfl (fun b_1' => ?_)
  refine WL.store (vs := []) (cs' := []) 0 rfl rfl rfl rfl alq (Nat.le_of_ble_eq_true rfl) rfl rfl rfl ?_
  refine WL.nil ?_
  refine kg (hK_12' [(1, zI need), (6, zI 4)] _ ?_)
  refine a4 ?_
  refine wa ?_
  refine WL.nil ?_
  exact kh (hK_5' () h) []
def aga (xs : CS) (need : Int) (K : (List UInt8) → Prop) : Prop :=
 ∃ (J0 : Prop),
  (∀ (_ : Unit), J0 →
   (if (decide (4 < need)) = true then
    (([40] : List UInt8).length + (w5 xs).length ≤ 9223372036854775807) ∧
    ((([40] : List UInt8) ++ (w5 xs)).length + ([41] : List UInt8).length ≤ 9223372036854775807) ∧
    K ((([40] : List UInt8) ++ (w5 xs)) ++ ([41] : List UInt8))
   else
    K (w5 xs))) ∧
  J0
theorem amo (te : TypeId) (fre : Nat × Nat) (xs : CS) (need : Int) (K : (List UInt8) → Prop) (h : aga xs need K) :
  c9 Tryd.prog 51 [Tr.val (.cls xs), zI need] [(1, .cells [zU 110, zU 10, zU 114, zU 13, zU 116, zU 9].toArray te fre)] [] (fun o => (∃ (v : List UInt8), K v ∧ o = .ret (st v) []) ∨ (False)) := by
 unfold aga at h
 refine b5 (n := 82) (L0 := [(0, Tr.val (.cls xs)), (1, zI need)]) Tryd.func51 rfl rfl rfl rfl (fun w0 M Q hE => ?_)
 refine a6 (fun _ hK => ?_)
 refine a4 ?_
 refine wa ?_
 refine WL.nil ?_
 refine kg (hK [(0, Tr.val (.cls xs)), (1, zI need)] _ ?_)
 refine a6 (fun _ hK_1' => ?_)
 refine a4 ?_
 refine wa ?_
 refine wa ?_
 refine WL.nil ?_
 refine kg (hK_1' [(0, Tr.val (.cls xs)), (1, zI need), (6, zI 4)] _ ?_)
 obtain ⟨J0, hJ, h⟩ := h
 refine q9 (X := Unit) (fun _ => J0) (fun _ => [(1, zI need), (5, st (w5 xs)), (6, zI 4)]) (fun _ => []) ?_ (fun K0_6' hK_6' => ?_)
 ·rintro _ hj
  replace h := hJ () hj
  show WC _ _ _ _ [(1, zI need), (5, st (w5 xs)), (6, zI 4)] []
  refine a6 (fun _ hK_7' => ?_)
  refine a6 (fun _ hK_8' => ?_)
  refine a4 ?_
  refine wm ?_
  refine wm ?_
  refine wv (OV.lss rfl rfl) ?_
  refine WL.nil ?_
  refine kg (hK_8' [(5, st (w5 xs)), (77, zB (decide (4 < need)))] _ ?_)
  refine c6 (b := decide (4 < need)) rfl (fun hb => ?_) (fun hb => ?_)
  ·replace h := k9 h hb
   refine a6 (fun _ hK_9' => ?_)
   refine a4 ?_
   refine wm ?_
   obtain ⟨o, h⟩ := h
   refine wv (OV.cat rfl rfl o) ?_
   obtain ⟨o_1', h⟩ := h
   refine wv (OV.cat rfl rfl o_1') ?_
   refine wa ?_
   refine WL.nil ?_
   refine kg (hK_9' [(4, st ((([40] : List UInt8) ++ (w5 xs)) ++ ([41] : List UInt8)))] _ ?_)
   refine c7 ?_
   exact hE.ret [] rfl rfl (.inl ⟨_, h, rfl⟩) (e9.of1 rfl (RV.tmp rfl))
  ·replace h := l0 h hb
   refine d4 ?_
   refine kg (hK_7' [(5, st (w5 xs))] _ ?_)
   refine a6 (fun _ hK_10' => ?_)
   refine a4 ?_
   refine wm ?_
   refine wa ?_
   refine WL.nil ?_
   refine kg (hK_10' [(4, st (w5 xs))] _ ?_)
   refine c7 ?_
   exact hE.ret [] rfl rfl (.inl ⟨_, h, rfl⟩) (e9.of1 rfl (RV.tmp rfl))
 ·skip
  refine a6 (fun _ hK_11' => ?_)
  refine a4 ?_
  refine wm ?_
  refine WL.nil ?_
  refine kg (hK_11' [(1, zI need), (6, zI 4), (15, Tr.val (.cls xs))] _ ?_)
  refine f0 ?_
  refine a6 (fun _ hK_12' => ?_)
  refine a4 ?_
  refine wv (OV.assertNo (t2 := 87) (v := Value.agg (wl xs).toArray) rfl z8 aam rfl) ?_
  refine wv (OV.extract 1 rfl rfl) ?_
  refine wv (OV.extract 0 rfl rfl) ?_
  refine WL.nil ?_
  refine kg (hK_12' [(1, zI need), (6, zI 4), (15, Tr.val (.cls xs)), (17, zB false), (18, Value.agg [].toArray)] _ ?_)
  refine g9 rfl ?_
  refine a6 (fun _ hK_13' => ?_)
  refine a4 ?_
  refine wv (OV.assertYes (t' := 87) (v := Value.agg (wl xs).toArray) rfl aa4) ?_
  refine wv (OV.extract 1 rfl rfl) ?_
  refine wv (OV.extract 0 rfl rfl) ?_
  refine WL.nil ?_
  refine kg (hK_13' [(1, zI need), (6, zI 4), (15, Tr.val (.cls xs)), (20, zB true), (21, Value.agg (wl xs).toArray)] _ ?_)
  refine t4 rfl ?_
  refine a6 (fun _ hK_14' => ?_)
  refine a4 ?_
  refine WL.make (MV.alloc al3) rfl rfl rfl (fun b_1' => ?_)
  refine WL.storeW (vs := wl xs) 0 rfl rfl rfl rfl rfl al7 rfl rfl rfl ?_
  refine WL.nil ?_
  refine kg (hK_14' [(1, zI need), (6, zI 4), (8, zP b_1')] _ ?_)
  refine a4 ?_
  refine wv (OV.fieldAddr0 rfl ahz) ?_
  refine wv (OV.loadR rfl (At.own 0 rfl) o6) ?_
  refine WL.call (A := []) aod rfl (c9.ofPureE te fre (aoe xs)) rfl ⟨.inr (List.mem_of_getElem? (i := 0) rfl), trivial⟩ rfl rfl ?_
  refine wa ?_
  refine WL.nil ?_
  exact kh (hK_6' () h) []
def ahj (te : TypeId) (fre : Nat × Nat) (xa : Tr) (xb : Tr) (need : Int) (K : (List UInt8) → Prop) : Prop :=
 ∃ (J0 : Prop),
  (∀ (_ : Unit), J0 →
   (if (decide (2 < need)) = true then
    (([40] : List UInt8).length + ((b6 xa 2) ++ (b6 xb 3)).length ≤ 9223372036854775807) ∧
    ((([40] : List UInt8) ++ ((b6 xa 2) ++ (b6 xb 3))).length + ([41] : List UInt8).length ≤ 9223372036854775807) ∧
    K ((([40] : List UInt8) ++ ((b6 xa 2) ++ (b6 xb 3))) ++ ([41] : List UInt8))
   else
    K ((b6 xa 2) ++ (b6 xb 3)))) ∧
  (c9 Tryd.prog 51 [Tr.val xa, zI 2] (o8 te fre) [] (Ret (st (b6 xa 2)) [])) ∧
  (c9 Tryd.prog 51 [Tr.val xb, zI 3] (o8 te fre) [] (Ret (st (b6 xb 3)) [])) ∧
  ((b6 xa 2).length + (b6 xb 3).length ≤ 9223372036854775807) ∧
  J0
theorem ali (te : TypeId) (fre : Nat × Nat) (xa : Tr) (xb : Tr) (need : Int) (K : (List UInt8) → Prop) (h : ahj te fre xa xb need K) :
  c9 Tryd.prog 51 [Tr.val (.cat xa xb), zI need] [(1, .cells [zU 110, zU 10, zU 114, zU 13, zU 116, zU 9].toArray te fre)] [] (fun o => (∃ (v : List UInt8), K v ∧ o = .ret (st v) []) ∨ (False)) := by
 unfold ahj at h
 refine b5 (n := 82) (L0 := [(0, Tr.val (.cat xa xb)), (1, zI need)]) Tryd.func51 rfl rfl rfl rfl (fun w0 M Q hE => ?_)
 refine a6 (fun _ hK => ?_)
 refine a4 ?_
 refine wa ?_
 refine WL.nil ?_
 refine kg (hK [(0, Tr.val (.cat xa xb)), (1, zI need)] _ ?_)
 refine a6 (fun _ hK_1' => ?_)
 refine a4 ?_
 refine wa ?_
 refine wa ?_
 refine WL.nil ?_
 refine kg (hK_1' [(0, Tr.val (.cat xa xb)), (1, zI need), (6, zI 4)] _ ?_)
 obtain ⟨J0, hJ, h⟩ := h
 refine q9 (X := Unit) (fun _ => J0) (fun _ => [(1, zI need), (5, st ((b6 xa 2) ++ (b6 xb 3))), (6, zI 2)]) (fun _ => []) ?_ (fun K0_10' hK_10' => ?_)
 ·rintro _ hj
  replace h := hJ () hj
  show WC _ _ _ _ [(1, zI need), (5, st ((b6 xa 2) ++ (b6 xb 3))), (6, zI 2)] []
  refine a6 (fun _ hK_11' => ?_)
  refine a6 (fun _ hK_12' => ?_)
  refine a4 ?_
  refine wm ?_
  refine wm ?_
  refine wv (OV.lss rfl rfl) ?_
  refine WL.nil ?_
  refine kg (hK_12' [(5, st ((b6 xa 2) ++ (b6 xb 3))), (77, zB (decide (2 < need)))] _ ?_)
  refine c6 (b := decide (2 < need)) rfl (fun hb => ?_) (fun hb => ?_)
  ·replace h := k9 h hb
   refine a6 (fun _ hK_13' => ?_)
   refine a4 ?_
   refine wm ?_
   obtain ⟨o_3', h⟩ := h
   refine wv (OV.cat rfl rfl o_3') ?_
   obtain ⟨o_4', h⟩ := h
   refine wv (OV.cat rfl rfl o_4') ?_
   refine wa ?_
   refine WL.nil ?_
   refine kg (hK_13' [(4, st ((([40] : List UInt8) ++ ((b6 xa 2) ++ (b6 xb 3))) ++ ([41] : List UInt8)))] _ ?_)
   refine c7 ?_
   exact hE.ret [] rfl rfl (.inl ⟨_, h, rfl⟩) (e9.of1 rfl (RV.tmp rfl))
  ·replace h := l0 h hb
   refine d4 ?_
   refine kg (hK_11' [(5, st ((b6 xa 2) ++ (b6 xb 3)))] _ ?_)
   refine a6 (fun _ hK_14' => ?_)
   refine a4 ?_
   refine wm ?_
   refine wa ?_
   refine WL.nil ?_
   refine kg (hK_14' [(4, st ((b6 xa 2) ++ (b6 xb 3)))] _ ?_)
   refine c7 ?_
   exact hE.ret [] rfl rfl (.inl ⟨_, h, rfl⟩) (e9.of1 rfl (RV.tmp rfl))
 ·skip
  refine a6 (fun _ hK_15' => ?_)
  refine a4 ?_
  refine wm ?_
  refine WL.nil ?_
  refine kg (hK_15' [(1, zI need), (6, zI 4), (15, Tr.val (.cat xa xb))] _ ?_)
  refine f0 ?_
  refine a6 (fun _ hK_16' => ?_)
  refine a4 ?_
  refine wv (OV.assertNo (t2 := 51) (v := Value.agg [Tr.val xa, Tr.val xb].toArray) rfl z8 aam rfl) ?_
  refine wv (OV.extract 1 rfl rfl) ?_
  refine wv (OV.extract 0 rfl rfl) ?_
  refine WL.nil ?_
  refine kg (hK_16' [(1, zI need), (6, zI 4), (15, Tr.val (.cat xa xb)), (17, zB false), (18, Value.agg [].toArray)] _ ?_)
  refine g9 rfl ?_
  refine a6 (fun _ hK_17' => ?_)
  refine a4 ?_
  refine wv (OV.assertNo (t2 := 51) (v := Value.agg [Tr.val xa, Tr.val xb].toArray) rfl aa4 abh rfl) ?_
  refine wv (OV.extract 1 rfl rfl) ?_
  refine wv (OV.extract 0 rfl rfl) ?_
  refine WL.nil ?_
  refine kg (hK_17' [(1, zI need), (6, zI 4), (15, Tr.val (.cat xa xb)), (20, zB false), (21, Value.agg (wl cs0).toArray)] _ ?_)
  refine g9 rfl ?_
  refine a6 (fun _ hK_18' => ?_)
  refine a4 ?_
  refine wv (OV.assertNo (t2 := 51) (v := Value.agg [Tr.val xa, Tr.val xb].toArray) rfl aai abn rfl) ?_
  refine wv (OV.extract 1 rfl rfl) ?_
  refine wv (OV.extract 0 rfl rfl) ?_
  refine WL.nil ?_
  refine kg (hK_18' [(1, zI need), (6, zI 4), (15, Tr.val (.cat xa xb)), (26, zB false), (27, Value.agg [Tr.val Tr.none, Tr.val Tr.none].toArray)] _ ?_)
  refine g9 rfl ?_
  refine a6 (fun _ hK_19' => ?_)
  refine a4 ?_
  refine wv (OV.assertNo (t2 := 51) (v := Value.agg [Tr.val xa, Tr.val xb].toArray) rfl abg ac5 rfl) ?_
  refine wv (OV.extract 1 rfl rfl) ?_
  refine wv (OV.extract 0 rfl rfl) ?_
  refine WL.nil ?_
  refine kg (hK_19' [(1, zI need), (6, zI 4), (15, Tr.val (.cat xa xb)), (37, zB false), (38, Value.agg [Tr.val Tr.none, Tr.val Tr.none].toArray)] _ ?_)
  refine g9 rfl ?_
  refine a6 (fun _ hK_20' => ?_)
  refine a4 ?_
  refine wv (OV.assertNo (t2 := 51) (v := Value.agg [Tr.val xa, Tr.val xb].toArray) rfl acx aeu rfl) ?_
  refine wv (OV.extract 1 rfl rfl) ?_
  refine wv (OV.extract 0 rfl rfl) ?_
  refine WL.nil ?_
  refine kg (hK_20' [(1, zI need), (6, zI 4), (15, Tr.val (.cat xa xb)), (48, zB false), (49, Value.agg [Tr.val Tr.none, Tr.val Tr.none].toArray)] _ ?_)
  refine g9 rfl ?_
  refine a6 (fun _ hK_21' => ?_)
  refine a4 ?_
  refine wv (OV.assertYes (t' := 51) (v := Value.agg [Tr.val xa, Tr.val xb].toArray) rfl af7) ?_
  refine wv (OV.extract 1 rfl rfl) ?_
  refine wv (OV.extract 0 rfl rfl) ?_
  refine WL.nil ?_
  refine kg (hK_21' [(1, zI need), (6, zI 4), (15, Tr.val (.cat xa xb)), (59, zB true), (60, Value.agg [Tr.val xa, Tr.val xb].toArray)] _ ?_)
  refine t4 rfl ?_
  refine a6 (fun _ hK_22' => ?_)
  refine a4 ?_
  refine WL.make (MV.alloc alx) rfl rfl rfl (fun b_1' => ?_)
  refine WL.storeW (vs := [Tr.val xa, Tr.val xb]) 0 rfl rfl rfl rfl rfl ak8 rfl (b4 (Tr.val_one _) (b4 (Tr.val_one _) f9)) rfl ?_
  refine WL.nil ?_
  refine kg (hK_22' [(1, zI need), (12, zP b_1')] _ ?_)
  refine o5 5 [] g8 (by kernel_rfl) rfl (fun T_1' hT_1' => ?_)
  refine fv (fun _ => OV.fieldAddr0 rfl abb) ?_
  refine fv (fun _ => OV.load rfl (At.own 0 rfl) rfl d8) ?_
  obtain ⟨o_5', h⟩ := h
  refine FL.call t8 (fun _ => rfl) (o_5') ⟨.inr (List.mem_of_getElem? (i := 0) rfl), trivial⟩ rfl (fun _ => rfl) rfl ?_
  refine fv (fun _ => OV.fieldAddr0 rfl abe) ?_
  refine fv (fun _ => OV.load rfl (At.own 0 rfl) rfl d8) ?_
  refine FL.weak (L' := fun γ => [(1, zI need), (63, st (b6 xa 2)), (65, Tr.val xb)]) (fun γ => ⟨rfl, rfl, rfl, trivial⟩) (FL.nil (hT_1' (fun γ => [(1, zI need), (63, st (b6 xa 2)), (65, Tr.val xb)]) (fun γ => ?_)))
  obtain ⟨o_6', h⟩ := h
  refine WL.call (A := []) t8 rfl (o_6') rfl ⟨.inr (List.mem_of_getElem? (i := 0) rfl), trivial⟩ rfl rfl ?_
  obtain ⟨o_7', h⟩ := h
  refine wv (OV.cat rfl rfl o_7') ?_
  refine wa ?_
  refine wa ?_
  refine WL.nil ?_
  exact kh (hK_10' () h) []
def ag8 (te : TypeId) (fre : Nat × Nat) (xa : Tr) (xb : Tr) (need : Int) (K : (List UInt8) → Prop) : Prop :=
 ∃ (J0 : Prop),
  (∀ (_ : Unit), J0 →
   (if (decide (0 < need)) = true then
    (([40] : List UInt8).length + (((b6 xa 0) ++ ([124] : List UInt8)) ++ (b6 xb 1)).length ≤ 9223372036854775807) ∧
    ((([40] : List UInt8) ++ (((b6 xa 0) ++ ([124] : List UInt8)) ++ (b6 xb 1))).length + ([41] : List UInt8).length ≤ 9223372036854775807) ∧
    K ((([40] : List UInt8) ++ (((b6 xa 0) ++ ([124] : List UInt8)) ++ (b6 xb 1))) ++ ([41] : List UInt8))
   else
    K (((b6 xa 0) ++ ([124] : List UInt8)) ++ (b6 xb 1)))) ∧
  (c9 Tryd.prog 51 [Tr.val xa, zI 0] (o8 te fre) [] (Ret (st (b6 xa 0)) [])) ∧
  ((b6 xa 0).length + ([124] : List UInt8).length ≤ 9223372036854775807) ∧
  (c9 Tryd.prog 51 [Tr.val xb, zI 1] (o8 te fre) [] (Ret (st (b6 xb 1)) [])) ∧
  (((b6 xa 0) ++ ([124] : List UInt8)).length + (b6 xb 1).length ≤ 9223372036854775807) ∧
  J0
theorem ak4 (te : TypeId) (fre : Nat × Nat) (xa : Tr) (xb : Tr) (need : Int) (K : (List UInt8) → Prop) (h : ag8 te fre xa xb need K) :
  c9 Tryd.prog 51 [Tr.val (.alt xa xb), zI need] [(1, .cells [zU 110, zU 10, zU 114, zU 13, zU 116, zU 9].toArray te fre)] [] (fun o => (∃ (v : List UInt8), K v ∧ o = .ret (st v) []) ∨ (False)) := by
 unfold ag8 at h
 refine b5 (n := 82) (L0 := [(0, Tr.val (.alt xa xb)), (1, zI need)]) Tryd.func51 rfl rfl rfl rfl (fun w0 M Q hE => ?_)
 refine a6 (fun _ hK => ?_)
 refine a4 ?_
 refine wa ?_
 refine WL.nil ?_
 refine kg (hK [(0, Tr.val (.alt xa xb)), (1, zI need)] _ ?_)
 refine a6 (fun _ hK_1' => ?_)
 refine a4 ?_
 refine wa ?_
 refine wa ?_
 refine WL.nil ?_
 refine kg (hK_1' [(0, Tr.val (.alt xa xb)), (1, zI need), (6, zI 4)] _ ?_)
 obtain ⟨J0, hJ, h⟩ := h
 refine q9 (X := Unit) (fun _ => J0) (fun _ => [(1, zI need), (5, st (((b6 xa 0) ++ ([124] : List UInt8)) ++ (b6 xb 1))), (6, zI 0)]) (fun _ => []) ?_ (fun K0_7' hK_7' => ?_)
 ·rintro _ hj
  replace h := hJ () hj
  show WC _ _ _ _ [(1, zI need), (5, st (((b6 xa 0) ++ ([124] : List UInt8)) ++ (b6 xb 1))), (6, zI 0)] []
  refine a6 (fun _ hK_8' => ?_)
  refine a6 (fun _ hK_9' => ?_)
  refine a4 ?_
  refine wm ?_
  refine wm ?_
  refine wv (OV.lss rfl rfl) ?_
  refine WL.nil ?_
  refine kg (hK_9' [(5, st (((b6 xa 0) ++ ([124] : List UInt8)) ++ (b6 xb 1))), (77, zB (decide (0 < need)))] _ ?_)
  refine c6 (b := decide (0 < need)) rfl (fun hb => ?_) (fun hb => ?_)
  ·replace h := k9 h hb
   refine a6 (fun _ hK_10' => ?_)
   refine a4 ?_
   refine wm ?_
   obtain ⟨o_4', h⟩ := h
   refine wv (OV.cat rfl rfl o_4') ?_
   obtain ⟨o_5', h⟩ := h
   refine wv (OV.cat rfl rfl o_5') ?_
   refine wa ?_
   refine WL.nil ?_
   refine kg (hK_10' [(4, st ((([40] : List UInt8) ++ (((b6 xa 0) ++ ([124] : List UInt8)) ++ (b6 xb 1))) ++ ([41] : List UInt8)))] _ ?_)
   refine c7 ?_
   exact hE.ret [] rfl rfl (.inl ⟨_, h, rfl⟩) (e9.of1 rfl (RV.tmp rfl))
  ·replace h := l0 h hb
   refine d4 ?_
   refine kg (hK_8' [(5, st (((b6 xa 0) ++ ([124] : List UInt8)) ++ (b6 xb 1)))] _ ?_)
   refine a6 (fun _ hK_11' => ?_)
   refine a4 ?_
   refine wm ?_
   refine wa ?_
   refine WL.nil ?_
   refine kg (hK_11' [(4, st (((b6 xa 0) ++ ([124] : List UInt8)) ++ (b6 xb 1)))] _ ?_)
   refine c7 ?_
   exact hE.ret [] rfl rfl (.inl ⟨_, h, rfl⟩) (e9.of1 rfl (RV.tmp rfl))
 ·skip
  refine a6 (fun _ hK_12' => ?_)
  refine a4 ?_
  refine wm ?_
  refine WL.nil ?_
  refine kg (hK_12' [(1, zI need), (6, zI 4), (15, Tr.val (.alt xa xb))] _ ?_)
  refine f0 ?_
  refine a6 (fun _ hK_13' => ?_)
  refine a4 ?_
  refine wv (OV.assertNo (t2 := 165) (v := Value.agg [Tr.val xa, Tr.val xb].toArray) rfl z8 aam rfl) ?_
  refine wv (OV.extract 1 rfl rfl) ?_
  refine wv (OV.extract 0 rfl rfl) ?_
  refine WL.nil ?_
  refine kg (hK_13' [(1, zI need), (6, zI 4), (15, Tr.val (.alt xa xb)), (17, zB false), (18, Value.agg [].toArray)] _ ?_)
  refine g9 rfl ?_
  refine a6 (fun _ hK_14' => ?_)
  refine a4 ?_
  refine wv (OV.assertNo (t2 := 165) (v := Value.agg [Tr.val xa, Tr.val xb].toArray) rfl aa4 abh rfl) ?_
  refine wv (OV.extract 1 rfl rfl) ?_
  refine wv (OV.extract 0 rfl rfl) ?_
  refine WL.nil ?_
  refine kg (hK_14' [(1, zI need), (6, zI 4), (15, Tr.val (.alt xa xb)), (20, zB false), (21, Value.agg (wl cs0).toArray)] _ ?_)
  refine g9 rfl ?_
  refine a6 (fun _ hK_15' => ?_)
  refine a4 ?_
  refine wv (OV.assertYes (t' := 165) (v := Value.agg [Tr.val xa, Tr.val xb].toArray) rfl aai) ?_
  refine wv (OV.extract 1 rfl rfl) ?_
  refine wv (OV.extract 0 rfl rfl) ?_
  refine WL.nil ?_
  refine kg (hK_15' [(1, zI need), (6, zI 4), (15, Tr.val (.alt xa xb)), (26, zB true), (27, Value.agg [Tr.val xa, Tr.val xb].toArray)] _ ?_)
  refine t4 rfl ?_
  refine a6 (fun _ hK_16' => ?_)
  refine a4 ?_
  refine WL.make (MV.alloc aki) rfl rfl rfl (fun b_1' => ?_)
  refine WL.storeW (vs := [Tr.val xa, Tr.val xb]) 0 rfl rfl rfl rfl rfl aj8 rfl (b4 (Tr.val_one _) (b4 (Tr.val_one _) f9)) rfl ?_
  refine WL.nil ?_
  refine kg (hK_16' [(1, zI need), (9, zP b_1')] _ ?_)
  refine o5 7 [] g8 (by kernel_rfl) rfl (fun T_1' hT_1' => ?_)
  refine fv (fun _ => OV.fieldAddr0 rfl aaz) ?_
  refine fv (fun _ => OV.load rfl (At.own 0 rfl) rfl d8) ?_
  obtain ⟨o_6', h⟩ := h
  refine FL.call t8 (fun _ => rfl) (o_6') ⟨.inr (List.mem_of_getElem? (i := 0) rfl), trivial⟩ rfl (fun _ => rfl) rfl ?_
  obtain ⟨o_7', h⟩ := h
  refine fv (fun _ => OV.cat rfl rfl o_7') ?_
  refine fv (fun _ => OV.fieldAddr0 rfl aaw) ?_
  refine fv (fun _ => OV.load rfl (At.own 0 rfl) rfl d8) ?_
  obtain ⟨o_8', h⟩ := h
  refine FL.call t8 (fun _ => rfl) (o_8') ⟨.inr (List.mem_of_getElem? (i := 0) rfl), trivial⟩ rfl (fun _ => rfl) rfl ?_
  refine FL.weak (L' := fun γ => [(1, zI need), (31, st ((b6 xa 0) ++ ([124] : List UInt8))), (34, st (b6 xb 1))]) (fun γ => ⟨rfl, rfl, rfl, trivial⟩) (FL.nil (hT_1' (fun γ => [(1, zI need), (31, st ((b6 xa 0) ++ ([124] : List UInt8))), (34, st (b6 xb 1))]) (fun γ => ?_)))
  obtain ⟨o_9', h⟩ := h
  refine wv (OV.cat rfl rfl o_9') ?_
  refine wa ?_
  refine wa ?_
  refine WL.nil ?_
  exact kh (hK_7' () h) []
def afg (te : TypeId) (fre : Nat × Nat) (xa : Tr) (need : Int) (K : (List UInt8) → Prop) : Prop :=
 ∃ (J0 : Prop),
  (∀ (_ : Unit), J0 →
   (if (decide (3 < need)) = true then
    (([40] : List UInt8).length + ((b6 xa 3) ++ ([42] : List UInt8)).length ≤ 9223372036854775807) ∧
    ((([40] : List UInt8) ++ ((b6 xa 3) ++ ([42] : List UInt8))).length + ([41] : List UInt8).length ≤ 9223372036854775807) ∧
    K ((([40] : List UInt8) ++ ((b6 xa 3) ++ ([42] : List UInt8))) ++ ([41] : List UInt8))
   else
    K ((b6 xa 3) ++ ([42] : List UInt8)))) ∧
  (c9 Tryd.prog 51 [Tr.val xa, zI 3] (o8 te fre) [] (Ret (st (b6 xa 3)) [])) ∧
  ((b6 xa 3).length + ([42] : List UInt8).length ≤ 9223372036854775807) ∧
  J0
theorem ajk (te : TypeId) (fre : Nat × Nat) (xa : Tr) (need : Int) (K : (List UInt8) → Prop) (h : afg te fre xa need K) :
  c9 Tryd.prog 51 [Tr.val (.star xa), zI need] [(1, .cells [zU 110, zU 10, zU 114, zU 13, zU 116, zU 9].toArray te fre)] [] (fun o => (∃ (v : List UInt8), K v ∧ o = .ret (st v) []) ∨ (False)) := by
 unfold afg at h
 refine b5 (n := 82) (L0 := [(0, Tr.val (.star xa)), (1, zI need)]) Tryd.func51 rfl rfl rfl rfl (fun w0 M Q hE => ?_)
 refine a6 (fun _ hK => ?_)
 refine a4 ?_
 refine wa ?_
 refine WL.nil ?_
 refine kg (hK [(0, Tr.val (.star xa)), (1, zI need)] _ ?_)
 refine a6 (fun _ hK_1' => ?_)
 refine a4 ?_
 refine wa ?_
 refine wa ?_
 refine WL.nil ?_
 refine kg (hK_1' [(0, Tr.val (.star xa)), (1, zI need), (6, zI 4)] _ ?_)
 obtain ⟨J0, hJ, h⟩ := h
 refine q9 (X := Unit) (fun _ => J0) (fun _ => [(1, zI need), (5, st ((b6 xa 3) ++ ([42] : List UInt8))), (6, zI 3)]) (fun _ => []) ?_ (fun K0_11' hK_11' => ?_)
 ·rintro _ hj
  replace h := hJ () hj
  show WC _ _ _ _ [(1, zI need), (5, st ((b6 xa 3) ++ ([42] : List UInt8))), (6, zI 3)] []
  refine a6 (fun _ hK_12' => ?_)
  refine a6 (fun _ hK_13' => ?_)
  refine a4 ?_
  refine wm ?_
  refine wm ?_
  refine wv (OV.lss rfl rfl) ?_
  refine WL.nil ?_
  refine kg (hK_13' [(5, st ((b6 xa 3) ++ ([42] : List UInt8))), (77, zB (decide (3 < need)))] _ ?_)
  refine c6 (b := decide (3 < need)) rfl (fun hb => ?_) (fun hb => ?_)
  ·replace h := k9 h hb
   refine a6 (fun _ hK_14' => ?_)
   refine a4 ?_
   refine wm ?_
   obtain ⟨o_2', h⟩ := h
   refine wv (OV.cat rfl rfl o_2') ?_
   obtain ⟨o_3', h⟩ := h
   refine wv (OV.cat rfl rfl o_3') ?_
   refine wa ?_
   refine WL.nil ?_
   refine kg (hK_14' [(4, st ((([40] : List UInt8) ++ ((b6 xa 3) ++ ([42] : List UInt8))) ++ ([41] : List UInt8)))] _ ?_)
   refine c7 ?_
   exact hE.ret [] rfl rfl (.inl ⟨_, h, rfl⟩) (e9.of1 rfl (RV.tmp rfl))
  ·replace h := l0 h hb
   refine d4 ?_
   refine kg (hK_12' [(5, st ((b6 xa 3) ++ ([42] : List UInt8)))] _ ?_)
   refine a6 (fun _ hK_15' => ?_)
   refine a4 ?_
   refine wm ?_
   refine wa ?_
   refine WL.nil ?_
   refine kg (hK_15' [(4, st ((b6 xa 3) ++ ([42] : List UInt8)))] _ ?_)
   refine c7 ?_
   exact hE.ret [] rfl rfl (.inl ⟨_, h, rfl⟩) (e9.of1 rfl (RV.tmp rfl))
 ·skip
  refine a6 (fun _ hK_16' => ?_)
  refine a4 ?_
  refine wm ?_
  refine WL.nil ?_
  refine kg (hK_16' [(1, zI need), (6, zI 4), (15, Tr.val (.star xa))] _ ?_)
  refine f0 ?_
  refine a6 (fun _ hK_17' => ?_)
  refine a4 ?_
  refine wv (OV.assertNo (t2 := 167) (v := Value.agg [Tr.val xa].toArray) rfl z8 aam rfl) ?_
  refine wv (OV.extract 1 rfl rfl) ?_
  refine wv (OV.extract 0 rfl rfl) ?_
  refine WL.nil ?_
  refine kg (hK_17' [(1, zI need), (6, zI 4), (15, Tr.val (.star xa)), (17, zB false), (18, Value.agg [].toArray)] _ ?_)
  refine g9 rfl ?_
  refine a6 (fun _ hK_18' => ?_)
  refine a4 ?_
  refine wv (OV.assertNo (t2 := 167) (v := Value.agg [Tr.val xa].toArray) rfl aa4 abh rfl) ?_
  refine wv (OV.extract 1 rfl rfl) ?_
  refine wv (OV.extract 0 rfl rfl) ?_
  refine WL.nil ?_
  refine kg (hK_18' [(1, zI need), (6, zI 4), (15, Tr.val (.star xa)), (20, zB false), (21, Value.agg (wl cs0).toArray)] _ ?_)
  refine g9 rfl ?_
  refine a6 (fun _ hK_19' => ?_)
  refine a4 ?_
  refine wv (OV.assertNo (t2 := 167) (v := Value.agg [Tr.val xa].toArray) rfl aai abn rfl) ?_
  refine wv (OV.extract 1 rfl rfl) ?_
  refine wv (OV.extract 0 rfl rfl) ?_
  refine WL.nil ?_
  refine kg (hK_19' [(1, zI need), (6, zI 4), (15, Tr.val (.star xa)), (26, zB false), (27, Value.agg [Tr.val Tr.none, Tr.val Tr.none].toArray)] _ ?_)
  refine g9 rfl ?_
  refine a6 (fun _ hK_20' => ?_)
  refine a4 ?_
  refine wv (OV.assertNo (t2 := 167) (v := Value.agg [Tr.val xa].toArray) rfl abg ac5 rfl) ?_
  refine wv (OV.extract 1 rfl rfl) ?_
  refine wv (OV.extract 0 rfl rfl) ?_
  refine WL.nil ?_
  refine kg (hK_20' [(1, zI need), (6, zI 4), (15, Tr.val (.star xa)), (37, zB false), (38, Value.agg [Tr.val Tr.none, Tr.val Tr.none].toArray)] _ ?_)
  refine g9 rfl ?_
  refine a6 (fun _ hK_21' => ?_)
  refine a4 ?_
  refine wv (OV.assertNo (t2 := 167) (v := Value.agg [Tr.val xa].toArray) rfl acx aeu rfl) ?_
  refine wv (OV.extract 1 rfl rfl) ?_
  refine wv (OV.extract 0 rfl rfl) ?_
  refine WL.nil ?_
  refine kg (hK_21' [(1, zI need), (6, zI 4), (15, Tr.val (.star xa)), (48, zB false), (49, Value.agg [Tr.val Tr.none, Tr.val Tr.none].toArray)] _ ?_)
  refine g9 rfl ?_
  refine a6 (fun _ hK_22' => ?_)
  refine a4 ?_
  refine wv (OV.assertNo (t2 := 167) (v := Value.agg [Tr.val xa].toArray) rfl af7 ajh rfl) ?_
  refine wv (OV.extract 1 rfl rfl) ?_
  refine wv (OV.extract 0 rfl rfl) ?_
  refine WL.nil ?_
  refine kg (hK_22' [(1, zI need), (6, zI 4), (15, Tr.val (.star xa)), (59, zB false), (60, Value.agg [Tr.val Tr.none, Tr.val Tr.none].toArray)] _ ?_)
  refine g9 rfl ?_
  refine a6 (fun _ hK_23' => ?_)
  refine a4 ?_
  refine wv (OV.assertYes (t' := 167) (v := Value.agg [Tr.val xa].toArray) rfl ah6) ?_
  refine wv (OV.extract 1 rfl rfl) ?_
  refine wv (OV.extract 0 rfl rfl) ?_
  refine WL.nil ?_
  refine kg (hK_23' [(1, zI need), (6, zI 4), (15, Tr.val (.star xa)), (69, zB true), (70, Value.agg [Tr.val xa].toArray)] _ ?_)
  refine t4 rfl ?_
  refine a6 (fun _ hK_24' => ?_)
  refine a4 ?_
  refine WL.make (MV.alloc ajt) rfl rfl rfl (fun b_1' => ?_)
  refine WL.store (vs := [Tr.val xa]) (cs' := [Tr.val xa]) 0 rfl rfl rfl rfl aj6 (Nat.le_of_ble_eq_true rfl) (b4 (Tr.val_one _) f9) rfl rfl ?_
  refine WL.nil ?_
  refine kg (hK_24' [(1, zI need), (13, zP b_1')] _ ?_)
  refine a4 ?_
  refine wv (OV.fieldAddr0 rfl ach) ?_
  refine wv (OV.load rfl (At.own 0 rfl) rfl d8) ?_
  obtain ⟨o_4', h⟩ := h
  refine WL.call (A := []) t8 rfl (o_4') rfl ⟨.inr (List.mem_of_getElem? (i := 0) rfl), trivial⟩ rfl rfl ?_
  obtain ⟨o_5', h⟩ := h
  refine wv (OV.cat rfl rfl o_5') ?_
  refine wa ?_
  refine wa ?_
  refine WL.nil ?_
  exact kh (hK_11' () h) []
def agk (te : TypeId) (fre : Nat × Nat) (xa : Tr) (xb : Tr) (need : Int) (K : (List UInt8) → Prop) : Prop :=
 ∃ (J0 : Prop),
  (∀ (_ : Unit), J0 →
   (if (decide (1 < need)) = true then
    (([40] : List UInt8).length + (((b6 xa 1) ++ ([38] : List UInt8)) ++ (b6 xb 2)).length ≤ 9223372036854775807) ∧
    ((([40] : List UInt8) ++ (((b6 xa 1) ++ ([38] : List UInt8)) ++ (b6 xb 2))).length + ([41] : List UInt8).length ≤ 9223372036854775807) ∧
    K ((([40] : List UInt8) ++ (((b6 xa 1) ++ ([38] : List UInt8)) ++ (b6 xb 2))) ++ ([41] : List UInt8))
   else
    K (((b6 xa 1) ++ ([38] : List UInt8)) ++ (b6 xb 2)))) ∧
  (c9 Tryd.prog 51 [Tr.val xa, zI 1] (o8 te fre) [] (Ret (st (b6 xa 1)) [])) ∧
  ((b6 xa 1).length + ([38] : List UInt8).length ≤ 9223372036854775807) ∧
  (c9 Tryd.prog 51 [Tr.val xb, zI 2] (o8 te fre) [] (Ret (st (b6 xb 2)) [])) ∧
  (((b6 xa 1) ++ ([38] : List UInt8)).length + (b6 xb 2).length ≤ 9223372036854775807) ∧
  J0
theorem amc (te : TypeId) (fre : Nat × Nat) (xa : Tr) (xb : Tr) (need : Int) (K : (List UInt8) → Prop) (h : agk te fre xa xb need K) :
  c9 Tryd.prog 51 [Tr.val (.and xa xb), zI need] [(1, .cells [zU 110, zU 10, zU 114, zU 13, zU 116, zU 9].toArray te fre)] [] (fun o => (∃ (v : List UInt8), K v ∧ o = .ret (st v) []) ∨ (False)) := by
 unfold agk at h
 refine b5 (n := 82) (L0 := [(0, Tr.val (.and xa xb)), (1, zI need)]) Tryd.func51 rfl rfl rfl rfl (fun w0 M Q hE => ?_)
 refine a6 (fun _ hK => ?_)
 refine a4 ?_
 refine wa ?_
 refine WL.nil ?_
 refine kg (hK [(0, Tr.val (.and xa xb)), (1, zI need)] _ ?_)
 refine a6 (fun _ hK_1' => ?_)
 refine a4 ?_
 refine wa ?_
 refine wa ?_
 refine WL.nil ?_
 refine kg (hK_1' [(0, Tr.val (.and xa xb)), (1, zI need), (6, zI 4)] _ ?_)
 obtain ⟨J0, hJ, h⟩ := h
 refine q9 (X := Unit) (fun _ => J0) (fun _ => [(1, zI need), (5, st (((b6 xa 1) ++ ([38] : List UInt8)) ++ (b6 xb 2))), (6, zI 1)]) (fun _ => []) ?_ (fun K0_8' hK_8' => ?_)
 ·rintro _ hj
  replace h := hJ () hj
  show WC _ _ _ _ [(1, zI need), (5, st (((b6 xa 1) ++ ([38] : List UInt8)) ++ (b6 xb 2))), (6, zI 1)] []
  refine a6 (fun _ hK_9' => ?_)
  refine a6 (fun _ hK_10' => ?_)
  refine a4 ?_
  refine wm ?_
  refine wm ?_
  refine wv (OV.lss rfl rfl) ?_
  refine WL.nil ?_
  refine kg (hK_10' [(5, st (((b6 xa 1) ++ ([38] : List UInt8)) ++ (b6 xb 2))), (77, zB (decide (1 < need)))] _ ?_)
  refine c6 (b := decide (1 < need)) rfl (fun hb => ?_) (fun hb => ?_)
  ·replace h := k9 h hb
   refine a6 (fun _ hK_11' => ?_)
   refine a4 ?_
   refine wm ?_
   obtain ⟨o_4', h⟩ := h
   refine wv (OV.cat rfl rfl o_4') ?_
   obtain ⟨o_5', h⟩ := h
   refine wv (OV.cat rfl rfl o_5') ?_
   refine wa ?_
   refine WL.nil ?_
   refine kg (hK_11' [(4, st ((([40] : List UInt8) ++ (((b6 xa 1) ++ ([38] : List UInt8)) ++ (b6 xb 2))) ++ ([41] : List UInt8)))] _ ?_)
   refine c7 ?_
   exact hE.ret [] rfl rfl (.inl ⟨_, h, rfl⟩) (e9.of1 rfl (RV.tmp rfl))
  ·replace h := l0 h hb
   refine d4 ?_
   refine kg (hK_9' [(5, st (((b6 xa 1) ++ ([38] : List UInt8)) ++ (b6 xb 2)))] _ ?_)
   refine a6 (fun _ hK_12' => ?_)
   refine a4 ?_
   refine wm ?_
   refine wa ?_
   refine WL.nil ?_
   refine kg (hK_12' [(4, st (((b6 xa 1) ++ ([38] : List UInt8)) ++ (b6 xb 2)))] _ ?_)
   refine c7 ?_
   exact hE.ret [] rfl rfl (.inl ⟨_, h, rfl⟩) (e9.of1 rfl (RV.tmp rfl))
 ·skip
  refine a6 (fun _ hK_13' => ?_)
  refine a4 ?_
  refine wm ?_
  refine WL.nil ?_
  refine kg (hK_13' [(1, zI need), (6, zI 4), (15, Tr.val (.and xa xb))] _ ?_)
  refine f0 ?_
  refine a6 (fun _ hK_14' => ?_)
  refine a4 ?_
  refine wv (OV.assertNo (t2 := 163) (v := Value.agg [Tr.val xa, Tr.val xb].toArray) rfl z8 aam rfl) ?_
  refine wv (OV.extract 1 rfl rfl) ?_
  refine wv (OV.extract 0 rfl rfl) ?_
  refine WL.nil ?_
  refine kg (hK_14' [(1, zI need), (6, zI 4), (15, Tr.val (.and xa xb)), (17, zB false), (18, Value.agg [].toArray)] _ ?_)
  refine g9 rfl ?_
  refine a6 (fun _ hK_15' => ?_)
  refine a4 ?_
  refine wv (OV.assertNo (t2 := 163) (v := Value.agg [Tr.val xa, Tr.val xb].toArray) rfl aa4 abh rfl) ?_
  refine wv (OV.extract 1 rfl rfl) ?_
  refine wv (OV.extract 0 rfl rfl) ?_
  refine WL.nil ?_
  refine kg (hK_15' [(1, zI need), (6, zI 4), (15, Tr.val (.and xa xb)), (20, zB false), (21, Value.agg (wl cs0).toArray)] _ ?_)
  refine g9 rfl ?_
  refine a6 (fun _ hK_16' => ?_)
  refine a4 ?_
  refine wv (OV.assertNo (t2 := 163) (v := Value.agg [Tr.val xa, Tr.val xb].toArray) rfl aai abn rfl) ?_
  refine wv (OV.extract 1 rfl rfl) ?_
  refine wv (OV.extract 0 rfl rfl) ?_
  refine WL.nil ?_
  refine kg (hK_16' [(1, zI need), (6, zI 4), (15, Tr.val (.and xa xb)), (26, zB false), (27, Value.agg [Tr.val Tr.none, Tr.val Tr.none].toArray)] _ ?_)
  refine g9 rfl ?_
  refine a6 (fun _ hK_17' => ?_)
  refine a4 ?_
  refine wv (OV.assertYes (t' := 163) (v := Value.agg [Tr.val xa, Tr.val xb].toArray) rfl abg) ?_
  refine wv (OV.extract 1 rfl rfl) ?_
  refine wv (OV.extract 0 rfl rfl) ?_
  refine WL.nil ?_
  refine kg (hK_17' [(1, zI need), (6, zI 4), (15, Tr.val (.and xa xb)), (37, zB true), (38, Value.agg [Tr.val xa, Tr.val xb].toArray)] _ ?_)
  refine t4 rfl ?_
  refine a6 (fun _ hK_18' => ?_)
  refine a4 ?_
  refine WL.make (MV.alloc akv) rfl rfl rfl (fun b_1' => ?_)
  refine WL.storeW (vs := [Tr.val xa, Tr.val xb]) 0 rfl rfl rfl rfl rfl ajx rfl (b4 (Tr.val_one _) (b4 (Tr.val_one _) f9)) rfl ?_
  refine WL.nil ?_
  refine kg (hK_18' [(1, zI need), (10, zP b_1')] _ ?_)
  refine o5 7 [] g8 (by kernel_rfl) rfl (fun T_1' hT_1' => ?_)
  refine fv (fun _ => OV.fieldAddr0 rfl aan) ?_
  refine fv (fun _ => OV.load rfl (At.own 0 rfl) rfl d8) ?_
  obtain ⟨o_6', h⟩ := h
  refine FL.call t8 (fun _ => rfl) (o_6') ⟨.inr (List.mem_of_getElem? (i := 0) rfl), trivial⟩ rfl (fun _ => rfl) rfl ?_
  obtain ⟨o_7', h⟩ := h
  refine fv (fun _ => OV.cat rfl rfl o_7') ?_
  refine fv (fun _ => OV.fieldAddr0 rfl aar) ?_
  refine fv (fun _ => OV.load rfl (At.own 0 rfl) rfl d8) ?_
  obtain ⟨o_8', h⟩ := h
  refine FL.call t8 (fun _ => rfl) (o_8') ⟨.inr (List.mem_of_getElem? (i := 0) rfl), trivial⟩ rfl (fun _ => rfl) rfl ?_
  refine FL.weak (L' := fun γ => [(1, zI need), (42, st ((b6 xa 1) ++ ([38] : List UInt8))), (45, st (b6 xb 2))]) (fun γ => ⟨rfl, rfl, rfl, trivial⟩) (FL.nil (hT_1' (fun γ => [(1, zI need), (42, st ((b6 xa 1) ++ ([38] : List UInt8))), (45, st (b6 xb 2))]) (fun γ => ?_)))
  obtain ⟨o_9', h⟩ := h
  refine wv (OV.cat rfl rfl o_9') ?_
  refine wa ?_
  refine wa ?_
  refine WL.nil ?_
  exact kh (hK_8' () h) []
def aeh (te : TypeId) (fre : Nat × Nat) (xa : Tr) (xb : Tr) (need : Int) (K : (List UInt8) → Prop) : Prop :=
 ∃ (J0 : Prop),
  (∀ (_ : Unit), J0 →
   (if (decide (1 < need)) = true then
    (([40] : List UInt8).length + (((b6 xa 1) ++ ([45] : List UInt8)) ++ (b6 xb 2)).length ≤ 9223372036854775807) ∧
    ((([40] : List UInt8) ++ (((b6 xa 1) ++ ([45] : List UInt8)) ++ (b6 xb 2))).length + ([41] : List UInt8).length ≤ 9223372036854775807) ∧
    K ((([40] : List UInt8) ++ (((b6 xa 1) ++ ([45] : List UInt8)) ++ (b6 xb 2))) ++ ([41] : List UInt8))
   else
    K (((b6 xa 1) ++ ([45] : List UInt8)) ++ (b6 xb 2)))) ∧
  (c9 Tryd.prog 51 [Tr.val xa, zI 1] (o8 te fre) [] (Ret (st (b6 xa 1)) [])) ∧
  ((b6 xa 1).length + ([45] : List UInt8).length ≤ 9223372036854775807) ∧
  (c9 Tryd.prog 51 [Tr.val xb, zI 2] (o8 te fre) [] (Ret (st (b6 xb 2)) [])) ∧
  (((b6 xa 1) ++ ([45] : List UInt8)).length + (b6 xb 2).length ≤ 9223372036854775807) ∧
  J0
theorem ai8 (te : TypeId) (fre : Nat × Nat) (xa : Tr) (xb : Tr) (need : Int) (K : (List UInt8) → Prop) (h : aeh te fre xa xb need K) :
  c9 Tryd.prog 51 [Tr.val (.minus xa xb), zI need] [(1, .cells [zU 110, zU 10, zU 114, zU 13, zU 116, zU 9].toArray te fre)] [] (fun o => (∃ (v : List UInt8), K v ∧ o = .ret (st v) []) ∨ (False)) := by
 unfold aeh at h
 refine b5 (n := 82) (L0 := [(0, Tr.val (.minus xa xb)), (1, zI need)]) Tryd.func51 rfl rfl rfl rfl (fun w0 M Q hE => ?_)
 refine a6 (fun _ hK => ?_)
 refine a4 ?_
 refine wa ?_
 refine WL.nil ?_
 refine kg (hK [(0, Tr.val (.minus xa xb)), (1, zI need)] _ ?_)
 refine a6 (fun _ hK_1' => ?_)
 refine a4 ?_
 refine wa ?_
 refine wa ?_
 refine WL.nil ?_
 refine kg (hK_1' [(0, Tr.val (.minus xa xb)), (1, zI need), (6, zI 4)] _ ?_)
 obtain ⟨J0, hJ, h⟩ := h
 refine q9 (X := Unit) (fun _ => J0) (fun _ => [(1, zI need), (5, st (((b6 xa 1) ++ ([45] : List UInt8)) ++ (b6 xb 2))), (6, zI 1)]) (fun _ => []) ?_ (fun K0_9' hK_9' => ?_)
 ·rintro _ hj
  replace h := hJ () hj
  show WC _ _ _ _ [(1, zI need), (5, st (((b6 xa 1) ++ ([45] : List UInt8)) ++ (b6 xb 2))), (6, zI 1)] []
  refine a6 (fun _ hK_10' => ?_)
  refine a6 (fun _ hK_11' => ?_)
  refine a4 ?_
  refine wm ?_
  refine wm ?_
  refine wv (OV.lss rfl rfl) ?_
  refine WL.nil ?_
  refine kg (hK_11' [(5, st (((b6 xa 1) ++ ([45] : List UInt8)) ++ (b6 xb 2))), (77, zB (decide (1 < need)))] _ ?_)
  refine c6 (b := decide (1 < need)) rfl (fun hb => ?_) (fun hb => ?_)
  ·replace h := k9 h hb
   refine a6 (fun _ hK_12' => ?_)
   refine a4 ?_
   refine wm ?_
   obtain ⟨o_4', h⟩ := h
   refine wv (OV.cat rfl rfl o_4') ?_
   obtain ⟨o_5', h⟩ := h
   refine wv (OV.cat rfl rfl o_5') ?_
   refine wa ?_
   refine WL.nil ?_
   refine kg (hK_12' [(4, st ((([40] : List UInt8) ++ (((b6 xa 1) ++ ([45] : List UInt8)) ++ (b6 xb 2))) ++ ([41] : List UInt8)))] _ ?_)
   refine c7 ?_
   exact hE.ret [] rfl rfl (.inl ⟨_, h, rfl⟩) (e9.of1 rfl (RV.tmp rfl))
  ·replace h := l0 h hb
   refine d4 ?_
   refine kg (hK_10' [(5, st (((b6 xa 1) ++ ([45] : List UInt8)) ++ (b6 xb 2)))] _ ?_)
   refine a6 (fun _ hK_13' => ?_)
   refine a4 ?_
   refine wm ?_
   refine wa ?_
   refine WL.nil ?_
   refine kg (hK_13' [(4, st (((b6 xa 1) ++ ([45] : List UInt8)) ++ (b6 xb 2)))] _ ?_)
   refine c7 ?_
   exact hE.ret [] rfl rfl (.inl ⟨_, h, rfl⟩) (e9.of1 rfl (RV.tmp rfl))
 ·skip
  refine a6 (fun _ hK_14' => ?_)
  refine a4 ?_
  refine wm ?_
  refine WL.nil ?_
  refine kg (hK_14' [(1, zI need), (6, zI 4), (15, Tr.val (.minus xa xb))] _ ?_)
  refine f0 ?_
  refine a6 (fun _ hK_15' => ?_)
  refine a4 ?_
  refine wv (OV.assertNo (t2 := 164) (v := Value.agg [Tr.val xa, Tr.val xb].toArray) rfl z8 aam rfl) ?_
  refine wv (OV.extract 1 rfl rfl) ?_
  refine wv (OV.extract 0 rfl rfl) ?_
  refine WL.nil ?_
  refine kg (hK_15' [(1, zI need), (6, zI 4), (15, Tr.val (.minus xa xb)), (17, zB false), (18, Value.agg [].toArray)] _ ?_)
  refine g9 rfl ?_
  refine a6 (fun _ hK_16' => ?_)
  refine a4 ?_
  refine wv (OV.assertNo (t2 := 164) (v := Value.agg [Tr.val xa, Tr.val xb].toArray) rfl aa4 abh rfl) ?_
  refine wv (OV.extract 1 rfl rfl) ?_
  refine wv (OV.extract 0 rfl rfl) ?_
  refine WL.nil ?_
  refine kg (hK_16' [(1, zI need), (6, zI 4), (15, Tr.val (.minus xa xb)), (20, zB false), (21, Value.agg (wl cs0).toArray)] _ ?_)
  refine g9 rfl ?_
  refine a6 (fun _ hK_17' => ?_)
  refine a4 ?_
  refine wv (OV.assertNo (t2 := 164) (v := Value.agg [Tr.val xa, Tr.val xb].toArray) rfl aai abn rfl) ?_
  refine wv (OV.extract 1 rfl rfl) ?_
  refine wv (OV.extract 0 rfl rfl) ?_
  refine WL.nil ?_
  refine kg (hK_17' [(1, zI need), (6, zI 4), (15, Tr.val (.minus xa xb)), (26, zB false), (27, Value.agg [Tr.val Tr.none, Tr.val Tr.none].toArray)] _ ?_)
  refine g9 rfl ?_
  refine a6 (fun _ hK_18' => ?_)
  refine a4 ?_
  refine wv (OV.assertNo (t2 := 164) (v := Value.agg [Tr.val xa, Tr.val xb].toArray) rfl abg ac5 rfl) ?_
  refine wv (OV.extract 1 rfl rfl) ?_
  refine wv (OV.extract 0 rfl rfl) ?_
  refine WL.nil ?_
  refine kg (hK_18' [(1, zI need), (6, zI 4), (15, Tr.val (.minus xa xb)), (37, zB false), (38, Value.agg [Tr.val Tr.none, Tr.val Tr.none].toArray)] _ ?_)
  refine g9 rfl ?_
  refine a6 (fun _ hK_19' => ?_)
  refine a4 ?_
  refine wv (OV.assertYes (t' := 164) (v := Value.agg [Tr.val xa, Tr.val xb].toArray) rfl acx) ?_
  refine wv (OV.extract 1 rfl rfl) ?_
  refine wv (OV.extract 0 rfl rfl) ?_
  refine WL.nil ?_
  refine kg (hK_19' [(1, zI need), (6, zI 4), (15, Tr.val (.minus xa xb)), (48, zB true), (49, Value.agg [Tr.val xa, Tr.val xb].toArray)] _ ?_)
  refine t4 rfl ?_
  refine a6 (fun _ hK_20' => ?_)
  refine a4 ?_
  refine WL.make (MV.alloc ajl) rfl rfl rfl (fun b_1' => ?_)
  refine WL.storeW (vs := [Tr.val xa, Tr.val xb]) 0 rfl rfl rfl rfl rfl ajr rfl (b4 (Tr.val_one _) (b4 (Tr.val_one _) f9)) rfl ?_
  refine WL.nil ?_
  refine kg (hK_20' [(1, zI need), (11, zP b_1')] _ ?_)
  refine o5 7 [] g8 (by kernel_rfl) rfl (fun T_1' hT_1' => ?_)
  refine fv (fun _ => OV.fieldAddr0 rfl aat) ?_
  refine fv (fun _ => OV.load rfl (At.own 0 rfl) rfl d8) ?_
  obtain ⟨o_6', h⟩ := h
  refine FL.call t8 (fun _ => rfl) (o_6') ⟨.inr (List.mem_of_getElem? (i := 0) rfl), trivial⟩ rfl (fun _ => rfl) rfl ?_
  obtain ⟨o_7', h⟩ := h
  refine fv (fun _ => OV.cat rfl rfl o_7') ?_
  refine fv (fun _ => OV.fieldAddr0 rfl aap) ?_
  refine fv (fun _ => OV.load rfl (At.own 0 rfl) rfl d8) ?_
  obtain ⟨o_8', h⟩ := h
  refine FL.call t8 (fun _ => rfl) (o_8') ⟨.inr (List.mem_of_getElem? (i := 0) rfl), trivial⟩ rfl (fun _ => rfl) rfl ?_
  refine FL.weak (L' := fun γ => [(1, zI need), (53, st ((b6 xa 1) ++ ([45] : List UInt8))), (56, st (b6 xb 2))]) (fun γ => ⟨rfl, rfl, rfl, trivial⟩) (FL.nil (hT_1' (fun γ => [(1, zI need), (53, st ((b6 xa 1) ++ ([45] : List UInt8))), (56, st (b6 xb 2))]) (fun γ => ?_)))
  obtain ⟨o_9', h⟩ := h
  refine wv (OV.cat rfl rfl o_9') ?_
  refine wa ?_
  refine wa ?_
  refine WL.nil ?_
  exact kh (hK_9' () h) []
theorem abs : ∀ x : Tr, (u5 x).length ≤ 4102 * x.size
 | .none | .eps => by simp [u5, Tr.size]
 | .cls s => by have := an4 s; simp only [u5, Tr.size]; omega
 | .cat a b | .alt a b | .and a b | .minus a b => by
  have h1 := abs a; have h2 := abs b
  simp only [u5, Tr.size, List.length_append, List.length_cons, List.length_nil]
  have h3 := fun n => ad7 a n (u5 a); have h4 := fun n => ad7 b n (u5 b)
  have h5 := h3 0; have h6 := h3 1; have h7 := h3 2; have h8 := h4 1; have h9 := h4 2; have h10 := h4 3
  omega
 | .star a => by
  have h1 := abs a; have h3 := ad7 a 3 (u5 a)
  simp only [u5, Tr.size, List.length_append, List.length_cons, List.length_nil]
  omega
theorem v8 (x : Tr) (n : Int) : (b6 x n).length ≤ 4104 * x.size := by
 have h1 := abs x; have h2 := ad7 x n (u5 x); have h3 := x.size_pos
 unfold b6; omega
theorem ao0 {x : Tr} {n r : Int} (h : amz x = r) : b6 x n = if decide (r < n) = true then ([40] ++ u5 x) ++ [41] else u5 x := by
 unfold b6 ad9; rw [h]; simp
theorem aad {x : Tr} {n r : Int} {s : List UInt8} (hr : amz x = r) (hs : u5 x = s) (hb : x.size ≤ 1099511627776) : if decide (r < n) = true then ([40] : List UInt8).length + s.length ≤ 9223372036854775807 ∧ (([40] : List UInt8) ++ s).length + ([41] : List UInt8).length ≤ 9223372036854775807 ∧ (([40] : List UInt8) ++ s) ++ ([41] : List UInt8) = b6 x n else s = b6 x n := by
 have hl := abs x
 rw [ao0 hr, ← hs]
 split
 ·simp only [List.length_append, List.length_cons, List.length_nil]
  exact ⟨by omega, by omega, trivial⟩
 ·rfl
theorem t7 (te : TypeId) (fre : Nat × Nat) : ∀ (x : Tr) (n : Int), x.size ≤ 1099511627776 → c9 Tryd.prog 51 [x.val, .int .i64 n] (o8 te fre) [] (Ret (st (b6 x n)) [])
 | .none, n, hb => c9.one (aj7 te fre n (fun v => v = b6 .none n) ⟨True, fun _ _ => aad rfl rfl hb, trivial⟩)
 | .eps, n, hb => c9.one (amg te fre n (fun v => v = b6 .eps n) ⟨True, fun _ _ => aad rfl rfl hb, trivial⟩)
 | .cls s, n, hb => c9.one (amo te fre s n (fun v => v = b6 (.cls s) n) ⟨True, fun _ _ => aad rfl rfl hb, trivial⟩)
 | .cat a b, n, hb => c9.one (ali te fre a b n (fun v => v = b6 (.cat a b) n) (by
   have hb' := hb; simp only [Tr.size] at hb'
   have h1 := v8 a 2; have h2 := v8 b 3
   exact ⟨True, fun _ _ => aad rfl rfl hb, t7 te fre a 2 (by omega), t7 te fre b 3 (by omega), by omega, trivial⟩))
 | .alt a b, n, hb => c9.one (ak4 te fre a b n (fun v => v = b6 (.alt a b) n) (by
   have hb' := hb; simp only [Tr.size] at hb'
   have h1 := v8 a 0; have h2 := v8 b 1
   exact ⟨True, fun _ _ => aad rfl rfl hb, t7 te fre a 0 (by omega), by simp only [List.length_cons, List.length_nil]; omega, t7 te fre b 1 (by omega), by simp only [List.length_append, List.length_cons, List.length_nil]; omega, trivial⟩))
 | .and a b, n, hb => c9.one (amc te fre a b n (fun v => v = b6 (.and a b) n) (by
   have hb' := hb; simp only [Tr.size] at hb'
   have h1 := v8 a 1; have h2 := v8 b 2
   exact ⟨True, fun _ _ => aad rfl rfl hb, t7 te fre a 1 (by omega), by simp only [List.length_cons, List.length_nil]; omega, t7 te fre b 2 (by omega), by simp only [List.length_append, List.length_cons, List.length_nil]; omega, trivial⟩))
 | .minus a b, n, hb => c9.one (ai8 te fre a b n (fun v => v = b6 (.minus a b) n) (by
   have hb' := hb; simp only [Tr.size] at hb'
   have h1 := v8 a 1; have h2 := v8 b 2
   exact ⟨True, fun _ _ => aad rfl rfl hb, t7 te fre a 1 (by omega), by simp only [List.length_cons, List.length_nil]; omega, t7 te fre b 2 (by omega), by simp only [List.length_append, List.length_cons, List.length_nil]; omega, trivial⟩))
 | .star a, n, hb => c9.one (ajk te fre a n (fun v => v = b6 (.star a) n) (by
   have hb' := hb; simp only [Tr.size] at hb'
   have h1 := v8 a 3
   exact ⟨True, fun _ _ => aad rfl rfl hb, t7 te fre a 3 (by omega), by simp only [List.length_cons, List.length_nil]; omega, trivial⟩))
end Go.Proofs.YtohnchdnkbadaaaDoor
namespace Go.Proofs.YtohnchdnkbadaaaDoor
open Go Go.ChangeShapes Go.WideShapes Go.ChangeAt Go.RowKit
set_option maxRecDepth 100000 in
theorem ahq (os : Os) (args : Array Value) : laidMetH Tryd.prog aa9 ((aet os).forCall (fun _ _ => 0) ⟨#[], args, []⟩).memory := by
 rw [age]
 exact ⟨_, ⟨1, 214, u1, 8, [], [], by kernel_rfl, by kernel_rfl, by kernel_rfl, by kernel_rfl, rfl, rfl⟩, by decide, fun b off h => by
    have h' : MemPlace.cell b off ∈ [MemPlace.cell 1 0, .cell 1 1, .cell 1 2, .cell 1 3, .cell 1 4, .cell 1 5] := h
    have hb : b = 1 := by
     simp at h'
     omega
    subst hb
    refine ⟨⟨_, _, adi os _⟩, fun u v hc => ?_⟩
    simp only [World.cell?, adi os] at hc
    simp at h'
    rcases h' with rfl | rfl | rfl | rfl | rfl | rfl <;> simp [u1] at hc⟩
theorem c9.pureE {f : FuncId} {vs : List Value} {v : Value} (h : ∀ te fre, c9 Tryd.prog f vs (o8 te fre) [] (Ret v [])) : ad8 f vs.toArray v := fun w ⟨te, fre, he⟩ => by
 refine (h te fre w [] rfl List.nodup_nil (fun k hk => by cases hk) (fun p hp => by obtain rfl := List.mem_singleton.1 hp; exact ⟨he, fun hx => by cases hx⟩)).mono ?_
 rintro en w' ⟨H', hS, hh⟩
 rcases hS with ⟨r, rfl, hS⟩ | ⟨c, rfl, hS⟩
 ·cases hS; exact ⟨rfl, hh.toBelow⟩
 ·cases hS
end Go.Proofs.YtohnchdnkbadaaaDoor
namespace Go.Proofs.YtohnchdnkbadaaaDoor
open Go Go.RowKit
def o9 (n : Int) : List Value := [.int .i64 n]
theorem ag3 (n : Int) : (o9 n).length = 1 := rfl
theorem ary (t : List UInt8) (j : Int) : 0 ≤ nx t j ∧ nx t j < 256 := by
 unfold nx
 have := (t.getD j.toNat 0).toNat_lt
 omega
theorem ark {t : List UInt8} {j : Int} (h : (t.length : Int) ≤ j) : nx t j = 0 := by
 unfold nx
 rw [List.getD_eq_getElem?_getD, List.getElem?_eq_none (by omega)]; rfl
theorem RP.total (t : List UInt8) : ∀ (n : Nat) (x : Tr) (j : Int), 0 ≤ j → (t.length : Int) - j < n → ∃ r, RP t x j r
 | 0, x, j, h0, h => ⟨_, .zero (by omega)⟩
 | n + 1, x, j, h0, h => by
  by_cases hl : j < t.length
  ·by_cases h1 : nx t j = 42 ∨ nx t j = 43 ∨ nx t j = 63
   ·obtain ⟨r, hr⟩ := RP.total t n (ail (nx t j) x) (j + 1) (by omega) (by omega)
    exact ⟨r, .one hl h1 hr⟩
   ·by_cases h2 : nx t j = 123
    ·cases hb : p8 t x j with
     | error e => exact ⟨_, .braceE hl h2 hb⟩
     | ok p =>
      obtain ⟨y, k⟩ := p
      have := ads hb h0 hl
      obtain ⟨r, hr⟩ := RP.total t n y k (by omega) (by omega)
      exact ⟨r, .brace hl h2 hb hr⟩
    ·exact ⟨_, .zero (by omega)⟩
  ·exact ⟨_, .zero (by omega)⟩
theorem RP.tot (t : List UInt8) (x : Tr) {j : Int} (h0 : 0 ≤ j) : ∃ r, RP t x j r := RP.total t ((t.length : Int) - j + 1).toNat x j h0 (by omega)
abbrev Tot (t : List UInt8) (m : Md) (i : Int) : Prop := ∀ d, ∃ r, PR t m d i r
theorem aer {t : List UInt8} {i : Int} (hA : ∀ j, i < j → Tot t .alt j) : ∀ (n : Nat) (acc : Option Tr) (j : Int), i ≤ j → 0 ≤ j → (t.length : Int) - j < n → Tot t (.row acc) j
 | 0, acc, j, _, h0, h, d => ⟨_, .rowZ (by omega)⟩
 | n + 1, acc, j, hi, h0, h, d => by
  by_cases hl : j < t.length
  ·by_cases h1 : nx t j = 124 ∨ nx t j = 38 ∨ nx t j = 45 ∨ nx t j = 41
   ·exact ⟨_, .rowZ (by omega)⟩
   by_cases h2 : nx t j = 42 ∨ nx t j = 43 ∨ nx t j = 63 ∨ nx t j = 123
   ·exact ⟨_, .rowB hl h2⟩
   by_cases h3 : nx t j = 40
   ·by_cases hd : d < 1000
    ·obtain ⟨q, hq⟩ := hA (j + 1) (by omega) (d + 1)
     cases q with
     | error e => exact ⟨_, .rowPE hl h3 hd hq⟩
     | ok p =>
      obtain ⟨x, k⟩ := p
      have hk := hq.ends (by omega) (by omega) _ _ rfl
      by_cases hkl : k < t.length
      ·obtain ⟨q2, hq2⟩ := RP.tot t x (j := k + 1) (by omega)
       cases q2 with
       | error e => exact ⟨_, .rowPR hl h3 hd hq hkl hq2⟩
       | ok p2 =>
        obtain ⟨y, l⟩ := p2
        have hl2 := hq2.ends (by omega) (by omega) _ _ rfl
        obtain ⟨r, hr⟩ := aer hA n (aes acc y) l (by omega) (by omega) (by omega) d
        exact ⟨r, .rowP hl h3 hd hq hkl hq2 hr⟩
      ·exact ⟨_, .rowO hl h3 hd hq hkl⟩
    ·exact ⟨_, .rowN hl h3 (by omega)⟩
   ·have hc : nx t j ∉ [124, 38, 45, 41, 42, 43, 63, 123, 40] := by simp; omega
    rcases hm : k5 t j with ⟨s, k, e, p⟩
    by_cases hz : e = 0 ∧ p = 0
    ·obtain ⟨rfl, rfl⟩ := hz
     have hk := aci hm h0
     obtain ⟨q2, hq2⟩ := RP.tot t (.cls s) (j := k) (by omega)
     cases q2 with
     | error e => exact ⟨_, .rowCR hl hc hm hq2⟩
     | ok p2 =>
      obtain ⟨y, l⟩ := p2
      have hl2 := hq2.ends (by omega) (by omega) _ _ rfl
      obtain ⟨r, hr⟩ := aer hA n (aes acc y) l (by omega) (by omega) (by omega) d
      exact ⟨r, .rowC hl hc hm hq2 hr⟩
    ·exact ⟨_, .rowCE hl hc hm hz⟩
  ·exact ⟨_, .rowZ (by omega)⟩
theorem ae5 {t : List UInt8} {i : Int} (hR : ∀ j, i ≤ j → 0 ≤ j → Tot t (.row none) j) : ∀ (n : Nat) (x : Tr) (j : Int), i ≤ j → 0 ≤ j → (t.length : Int) - j < n → Tot t (.meetL x) j
 | 0, x, j, _, h0, h, d => ⟨_, .meetZ (by omega)⟩
 | n + 1, x, j, hi, h0, h, d => by
  by_cases hc : j < t.length ∧ (nx t j = 38 ∨ nx t j = 45)
  ·obtain ⟨q, hq⟩ := hR (j + 1) (by omega) (by omega) d
   cases q with
   | error e => exact ⟨_, .meetLE hc.1 hc.2 hq⟩
   | ok p =>
    obtain ⟨y, k⟩ := p
    have hk := hq.ends (by omega) (by omega) _ _ rfl
    obtain ⟨r, hr⟩ := ae5 hR n (aoo (nx t j) x y) k (by omega) (by omega) (by omega) d
    exact ⟨r, .meetL hc.1 hc.2 hq hr⟩
  ·exact ⟨_, .meetZ hc⟩
theorem ahl {t : List UInt8} {i : Int} (hM : ∀ j, i ≤ j → 0 ≤ j → Tot t .meet j) : ∀ (n : Nat) (x : Tr) (j : Int), i ≤ j → 0 ≤ j → (t.length : Int) - j < n → Tot t (.altL x) j
 | 0, x, j, _, h0, h, d => ⟨_, .altZ (by omega)⟩
 | n + 1, x, j, hi, h0, h, d => by
  by_cases hc : j < t.length ∧ nx t j = 124
  ·obtain ⟨q, hq⟩ := hM (j + 1) (by omega) (by omega) d
   cases q with
   | error e => exact ⟨_, .altLE hc.1 hc.2 hq⟩
   | ok p =>
    obtain ⟨y, k⟩ := p
    have hk := hq.ends (by omega) (by omega) _ _ rfl
    obtain ⟨r, hr⟩ := ahl hM n (.alt x y) k (by omega) (by omega) (by omega) d
    exact ⟨r, .altL hc.1 hc.2 hq hr⟩
  ·exact ⟨_, .altZ hc⟩
theorem aib (t : List UInt8) : ∀ (n : Nat) (i : Int), 0 ≤ i → (t.length : Int) - i < n → Tot t .alt i
 | 0, i, h0, h, d => ⟨_, .alt (.meet (.rowZ (by omega)) (.meetZ (by omega))) (.altZ (by omega))⟩
 | n + 1, i, h0, h, d => by
  have hA : ∀ j, i < j → Tot t .alt j := fun j hj => aib t n j (by omega) (by omega)
  have hR : ∀ j, i ≤ j → 0 ≤ j → Tot t (.row none) j := fun j hj h0 => aer hA ((t.length : Int) - j + 1).toNat none j hj h0 (by omega)
  have hM : ∀ j, i ≤ j → 0 ≤ j → Tot t .meet j := fun j hj h0 d => by
   obtain ⟨q, hq⟩ := hR j hj h0 d
   cases q with
   | error e => exact ⟨_, .meetE hq⟩
   | ok p =>
    obtain ⟨x, k⟩ := p
    by_cases hjl : j ≤ t.length
    ·have hk := hq.ends (by omega) (by omega) _ _ rfl
     obtain ⟨r, hr⟩ := ae5 hR ((t.length : Int) - k + 1).toNat x k (by omega) (by omega) (by omega) d
     exact ⟨r, .meet hq hr⟩
    ·have : k = j := by cases hq with
      | rowZ => rfl
      | _ => omega
     exact ⟨_, .meet hq (.meetZ (by omega))⟩
  obtain ⟨q, hq⟩ := hM i (by omega) h0 d
  cases q with
  | error e => exact ⟨_, .altE hq⟩
  | ok p =>
   obtain ⟨x, k⟩ := p
   by_cases hil : i ≤ t.length
   ·have hk := hq.ends (by omega) (by omega) _ _ rfl
    obtain ⟨r, hr⟩ := ahl hM ((t.length : Int) - k + 1).toNat x k (by omega) (by omega) (by omega) d
    exact ⟨r, .alt hq hr⟩
   ·exact ⟨_, .alt (.meet (.rowZ (by omega)) (.meetZ (by omega))) (.altZ (by omega))⟩
def Tr.solid : Tr → Prop
 | .none => False
 | .eps | .cls _ => True
 | .cat a b => a.solid ∧ b.solid
 | .alt a b => a.solid ∧ b.solid
 | .star a => a.solid
 | .and a b => a.solid ∧ b.solid
 | .minus a b => a.solid ∧ b.solid
theorem adw {y : Tr} (hy : y.solid) : ∀ (k : Nat) {x : Tr}, x.solid → (ada x y k).solid
 | 0, _, hx => hx
 | k + 1, _, hx => adw hy k ⟨hx, hy⟩
theorem aiy {x : Tr} (h : x.solid) (m n : Int) : (aa3 x m n).solid := by
 unfold aa3
 split
 ·exact h
 ·split
  ·exact trivial
  ·have h1 : (if m = 0 then Tr.alt x .eps else x).solid := by split <;> first | exact ⟨h, trivial⟩ | exact h
   have h2 := adw h (m - 1).toNat h1
   simp only
   split
   ·exact ⟨h2, h⟩
   ·exact adw (y := .alt x .eps) ⟨h, trivial⟩ _ h2
theorem ahr {t : List UInt8} {x y : Tr} {j k : Int} (h : p8 t x j = .ok (y, k)) (hx : x.solid) : y.solid := by
 unfold p8 at h
 split at h
 ·cases h
 ·split at h
  ·cases h
  ·split at h
   ·split at h
    ·cases h
    ·simp only [Except.ok.injEq, Prod.mk.injEq] at h
     rw [← h.1]; exact aiy hx _ _
   ·cases h
theorem RP.solid {t : List UInt8} {x : Tr} {j : Int} {r : aab} (h : RP t x j r) : x.solid → ∀ y k, r = .ok (y, k) → y.solid := by
 induction h with
 | zero => intro hx y k e; cases e; exact hx
 | one h1 h2 _ ih =>
  intro hx y k e
  refine ih ?_ y k e
  unfold ail
  split
  ·exact hx
  ·split
   ·exact ⟨hx, hx⟩
   ·exact ⟨hx, trivial⟩
 | brace h1 h2 h3 _ ih => intro hx y k e; exact ih (ahr h3 hx) y k e
 | braceE => intro hx y k e; cases e
def Md.solid : Md → Prop
 | .altL x => x.solid
 | .meetL x => x.solid
 | .row (some x) => x.solid
 | _ => True
theorem agz {acc : Option Tr} {y : Tr} (h : (Md.row acc).solid) (hy : y.solid) : (Md.row (aes acc y)).solid := by
 cases acc with
 | none => exact hy
 | some x => exact ⟨h, hy⟩
theorem PR.solid {t : List UInt8} {m : Md} {d : Nat} {i : Int} {r : aab} (h : PR t m d i r) : m.solid → ∀ y k, r = .ok (y, k) → y.solid := by
 induction h with
 | alt _ _ ih1 ih2 => intro _ y k e; exact ih2 (ih1 trivial _ _ rfl) y k e
 | altL _ _ _ _ ih1 ih2 => intro h y k e; exact ih2 ⟨h, ih1 trivial _ _ rfl⟩ y k e
 | «meet» _ _ ih1 ih2 => intro _ y k e; exact ih2 (ih1 trivial _ _ rfl) y k e
 | meetL h1 h2 _ _ ih1 ih2 =>
  intro h y k e
  refine ih2 ?_ y k e
  have := ih1 trivial _ _ rfl
  unfold aoo
  show Tr.solid _
  split <;> exact ⟨h, this⟩
 | altZ _ => intro h y k e; cases e; exact h
 | meetZ _ => intro h y k e; cases e; exact h
 | @rowZ d acc j _ => intro h y k e; cases e; cases acc <;> first | exact trivial | exact h
 | rowC h1 h2 h3 h4 _ ih => intro h y k e; exact ih (agz h (h4.solid trivial _ _ rfl)) y k e
 | rowP h1 h2 h3 _ h5 h6 _ ih1 ih2 => intro h y k e; exact ih2 (agz h (h6.solid (ih1 trivial _ _ rfl) _ _ rfl)) y k e
 | _ => intro _ y k e; cases e
theorem Tr.solid_some {x : Tr} (h : x.solid) : x.isNone = false := by cases x <;> first | rfl | exact h.elim
theorem aom {t : List UInt8} {j : Int} {s : CS} {k e p : Int} (h : k5 t j = (s, k, e, p)) (hz : ¬ (e = 0 ∧ p = 0)) : 0 < e := by
 unfold k5 at h
 split at h
 ·simp only [Prod.mk.injEq] at h; omega
 ·split at h
  ·simp only [Prod.mk.injEq] at h; omega
  ·simp only [Prod.mk.injEq] at h; omega
theorem akt {t : List UInt8} {j : Int} {e : Int × Int} (h : numM t j = .error e) : 0 < e.1 := by
 unfold numM at h
 split at h
 ·cases h; (simp only []; omega)
 ·cases h
theorem aj3 {t : List UInt8} {x : Tr} {j : Int} {e : Int × Int} (h : p8 t x j = .error e) : 0 < e.1 := by
 unfold p8 at h
 split at h
 ·rename_i hm; cases h; exact akt hm
 ·split at h
  ·rename_i hc
   cases h
   unfold ace at hc
   split at hc
   ·split at hc
    ·cases hc
    ·exact akt hc
   ·cases hc
  ·split at h
   ·split at h
    ·cases h; (simp only []; omega)
    ·cases h
   ·cases h; (simp only []; omega)
theorem RP.err {t : List UInt8} {x : Tr} {j : Int} {r : aab} (h : RP t x j r) : ∀ e, r = .error e → 0 < e.1 := by
 induction h with
 | zero => intro e he; cases he
 | one _ _ _ ih => exact ih
 | brace _ _ _ _ ih => exact ih
 | braceE _ _ h3 => intro e he; cases he; exact aj3 h3
theorem PR.err {t : List UInt8} {m : Md} {d : Nat} {i : Int} {r : aab} (h : PR t m d i r) : ∀ e, r = .error e → 0 < e.1 := by
 induction h with
 | alt _ _ _ ih => exact ih
 | altE _ ih => intro e he; cases he; exact ih _ rfl
 | altL _ _ _ _ _ ih => exact ih
 | altLE _ _ _ ih => intro e he; cases he; exact ih _ rfl
 | altZ => intro e he; cases he
 | «meet» _ _ _ ih => exact ih
 | meetE _ ih => intro e he; cases he; exact ih _ rfl
 | meetL _ _ _ _ _ ih => exact ih
 | meetLE _ _ _ ih => intro e he; cases he; exact ih _ rfl
 | meetZ => intro e he; cases he
 | rowZ => intro e he; cases he
 | rowB => intro e he; cases he; show (0 : Int) < 20; decide
 | rowC _ _ _ _ _ ih => exact ih
 | rowCR _ _ _ h4 => intro e he; cases he; exact h4.err _ rfl
 | rowCE _ _ h3 hz => intro e he; cases he; exact aom h3 hz
 | rowN => intro e he; cases he; show (0 : Int) < 23; decide
 | rowP _ _ _ _ _ _ _ _ ih => exact ih
 | rowPR _ _ _ _ _ h6 => intro e he; cases he; exact h6.err _ rfl
 | rowPE _ _ _ _ ih => intro e he; cases he; exact ih _ rfl
 | rowO => intro e he; cases he; show (0 : Int) < 21; decide
def aiz (t : List UInt8) (R : Except (Int × Int) Tr) : Prop := ∃ q, PR t .alt 0 0 q ∧ match q with
 | .error e => R = .error e
 | .ok (x, k) => if k < t.length then R = .error (20, k) else R = .ok x
theorem aiz.total (t : List UInt8) : ∃ R, aiz t R := by
 obtain ⟨q, hq⟩ := aib t (t.length + 1) 0 (by omega) (by omega) 0
 cases q with
 | error e => exact ⟨_, _, hq, rfl⟩
 | ok p =>
  obtain ⟨x, k⟩ := p
  by_cases hk : k < t.length
  ·exact ⟨.error (20, k), _, hq, by simp only [if_pos hk]⟩
  ·exact ⟨.ok x, _, hq, by simp only [if_neg hk]⟩
theorem aiz.det {t : List UInt8} {R R' : Except (Int × Int) Tr} (h : aiz t R) (h' : aiz t R') : R = R' := by
 obtain ⟨q, h1, h2⟩ := h
 obtain ⟨q', g1, g2⟩ := h'
 obtain rfl := h1.det g1
 cases q with
 | error e => rw [h2, g2]
 | ok p =>
  obtain ⟨x, k⟩ := p
  simp only at h2 g2
  split at h2
  ·rename_i hk; rw [if_pos hk] at g2; rw [h2, g2]
  ·rename_i hk; rw [if_neg hk] at g2; rw [h2, g2]
noncomputable def apn (t : List UInt8) : Except (Int × Int) Tr := Classical.choose (aiz.total t)
theorem ae2 (t : List UInt8) : aiz t (apn t) := Classical.choose_spec (aiz.total t)
theorem acz {t : List UInt8} {R : Except (Int × Int) Tr} (h : aiz t R) : apn t = R := (ae2 t).det h
noncomputable def o4 (t : List UInt8) : Except (Int × Int) Tr :=
 if 1048576 < t.length then .error (1, 0) else match apn t with
  | .error e => .error e
  | .ok x => if 2000 < x.size then .error (24, 0) else .ok x
noncomputable def a8 (t : List UInt8) : Tr := match o4 t with
 | .ok x => x
 | .error _ => .none
noncomputable def d9 (t : List UInt8) : Int × Int := match o4 t with
 | .ok _ => (0, 0)
 | .error e => e
theorem abo {t : List UInt8} {x : Tr} (h : o4 t = .ok x) : t.length ≤ 1048576 ∧ x.size ≤ 2000 ∧ x.solid ∧ PR t .alt 0 0 (.ok (x, t.length)) := by
 unfold o4 at h
 split at h
 ·cases h
 ·rename_i hl
  split at h
  ·cases h
  ·rename_i y hy
   split at h
   ·cases h
   ·rename_i hz
    obtain rfl : y = x := by injection h
    obtain ⟨q, q1, q2⟩ := hy ▸ ae2 t
    cases q with
    | error e => cases q2
    | ok p =>
     obtain ⟨z, k⟩ := p
     simp only at q2
     have hk := q1.ends (by omega) (by omega) _ _ rfl
     split at q2
     ·cases q2
     ·obtain rfl : y = z := by injection q2
      refine ⟨by omega, by omega, q1.solid trivial _ _ rfl, ?_⟩
      rw [show (t.length : Int) = k by omega]; exact q1
theorem al5 {t : List UInt8} {e : Int × Int} (h : o4 t = .error e) : 0 < e.1 := by
 unfold o4 at h
 split at h
 ·cases h; (simp only []; omega)
 ·split at h
  ·rename_i e' hy
   cases h
   obtain ⟨q, q1, q2⟩ := hy ▸ ae2 t
   cases q with
   | error e2 => cases q2; exact q1.err _ rfl
   | ok p =>
    obtain ⟨z, k⟩ := p
    simp only at q2
    split at q2
    ·cases q2; (simp only []; omega)
    ·cases q2
  ·split at h
   ·cases h; (simp only []; omega)
   ·cases h
theorem aem {t : List UInt8} (h : (d9 t).1 = 0) : ∃ x, o4 t = .ok x ∧ a8 t = x := by
 unfold d9 at h
 unfold a8
 cases hp : o4 t with
 | ok x => exact ⟨x, rfl, rfl⟩
 | error e => rw [hp] at h; have := al5 hp; simp only at h; omega
theorem afw {t : List UInt8} {x : Tr} (h : o4 t = .ok x) : d9 t = (0, 0) ∧ a8 t = x := by
 unfold d9 a8; rw [h]; exact ⟨rfl, rfl⟩
end Go.Proofs.YtohnchdnkbadaaaDoor
namespace Go.Proofs.YtohnchdnkbadaaaDoor
open Go Go.RowKit
abbrev ND := Int × (Nat → Bool) × Int × Int × Int × Int
abbrev FR := Int × Int × Int × Int × Int × Int
def nd (n : List ND) (i : Int) : ND := n.getD i.toNat default
def ash (op : Int) (x y : Tr) : Tr := if op = 2 then .cat x y else if op = 3 then .alt x y else if op = 5 then .and x y else .minus x y
def ask (x : Tr) (m k : Int) : Tr := if m = -2 then aa3 x 1 (-1) else aa3 x m k
def asl (m k : Int) : Prop := (m = -2 ∧ k = -1) ∨ (0 ≤ m ∧ m ≤ 255 ∧ -1 ≤ k ∧ k ≤ 255 ∧ (k < 0 ∨ m ≤ k))
inductive Den (n : List ND) : Int → Tr → Prop
 | eps {i : Int} : 0 ≤ i → i < n.length → (nd n i).1 = 0 → (∀ j, j < 256 → (nd n i).2.1 j = false) → Den n i .eps
 | cls {i : Int} {s : CS} : 0 ≤ i → i < n.length → (nd n i).1 = 1 → (∀ j, j < 256 → (nd n i).2.1 j = s.getLsbD j) → Den n i (.cls s)
 | bin {i op : Int} {x y : Tr} : 0 ≤ i → i < n.length → (nd n i).1 = op → op = 2 ∨ op = 3 ∨ op = 5 ∨ op = 6 → (nd n i).2.2.1 < i → (nd n i).2.2.2.1 < i → Den n (nd n i).2.2.1 x → Den n (nd n i).2.2.2.1 y → Den n i (ash op x y)
 | star {i : Int} {x : Tr} : 0 ≤ i → i < n.length → (nd n i).1 = 4 → (nd n i).2.2.1 < i → Den n (nd n i).2.2.1 x → Den n i (.star x)
 | rep {i : Int} {x : Tr} : 0 ≤ i → i < n.length → (nd n i).1 = 7 → (nd n i).2.2.1 < i → asl (nd n i).2.2.2.2.1 (nd n i).2.2.2.2.2 → Den n (nd n i).2.2.1 x → Den n i (ask x (nd n i).2.2.2.2.1 (nd n i).2.2.2.2.2)
def NOK (n : List ND) : Prop := ∀ i : Int, 0 ≤ i → i < n.length → (nd n i).1 ≠ 4 ∧ ∃ x, Den n i x
def IxR (n : List ND) (i : Int) : Option Tr → Prop
 | none => i = -1
 | some x => Den n i x
def FrR (n : List ND) (f : FR) (a : AF) : Prop := f.1 = a.place ∧ IxR n f.2.1 a.alt ∧ IxR n f.2.2.1 a.meet ∧ f.2.2.2.1 = a.sign ∧ IxR n f.2.2.2.2.1 a.row ∧ IxR n f.2.2.2.2.2 a.fac
def ar2 (n : List ND) : List FR → List AF → Prop
 | [], [] => True
 | f :: fs, a :: cs => FrR n f a ∧ ar2 n fs cs
 | _, _ => False
def asj (n : List ND) (s : List FR) (cs : List AF) : Prop := ar2 n s.reverse cs
end Go.Proofs.YtohnchdnkbadaaaDoor
set_option maxRecDepth 100000
namespace Go.Proofs.YtohnchdnkbadaaaDoor
open Go Go.RowKit
theorem aoj : ajn Tryd.prog 3 = some ([zI 0], 1, 8) := by kernel_rfl
theorem aa2 : slB Tryd.prog 74 3 1 = true := by kernel_rfl
theorem adh {α : Type} [Inhabited α] {l : List α} {i : Nat} (h : i < l.length) (v : α) : (l.set i v).getD i default = v := by simp [List.getD_eq_getElem?_getD, h]
def arb (x : Tr) (m : Int) (k : Nat) : Tr := if (k : Int) < m then x else .alt x .eps
def rowN (x : Tr) (m : Int) : Nat → Tr
 | 0 => arb x m 0
 | k + 1 => .cat (rowN x m k) (arb x m (k + 1))
end Go.Proofs.YtohnchdnkbadaaaDoor
set_option maxRecDepth 100000
namespace Go.Proofs.YtohnchdnkbadaaaDoor
open Go Go.RowKit
structure InvP (t : List UInt8) (i : Int) (st : List FR) (n : List ND) : Prop where
 i0 : 0 ≤ i
 i1 : i ≤ t.length
 s0 : 0 < st.length
 s1 : st.length ≤ 1001
 n1 : (n.length : Int) ≤ 5 * i
 ok : NOK n
 ow : ∃ cs, asj n st cs ∧ asm t cs i (apn t)
end Go.Proofs.YtohnchdnkbadaaaDoor
