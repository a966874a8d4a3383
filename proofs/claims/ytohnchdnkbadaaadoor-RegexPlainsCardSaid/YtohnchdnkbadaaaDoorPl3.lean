/-
  Merged: RdR, RxD, RefShow, Rback, Shows, RxV, TiedR, RxT, RfD.
-/
import Derived.Test.YtohnchdnkbadaaaDoorRows
import Derived.Test.YtohnchdnkbadaaaDoorCards
import Derived.Test.YtohnchdnkbadaaaDoorTie
import Derived.Test.YtohnchdnkbadaaaDoorPl2
namespace Go.Proofs.YtohnchdnkbadaaaDoor
open Go Go.RowKit

theorem tf_size_26 : sizeB Tryd.prog 26 3 = true := by kernel_rfl
theorem tf_zero_3 : zeroB Tryd.prog 3 = some [zI 0] := by kernel_rfl
theorem tf_zero_26 : zeroB Tryd.prog 26 = some [zI 0, zI 0, st []] := by kernel_rfl
theorem tf_row_26 : RowT Tryd.prog 26 3 := ⟨by kernel_rfl, by kernel_rfl⟩
theorem tf_ent_170 : entB Tryd.prog 170 = true := by kernel_rfl
theorem tf_ent_169 : entB Tryd.prog 169 = true := by kernel_rfl

def readcr_vc (c : CS) (c_1' : Int) (c_2'_0 : Int) (c_2'_1 : Int) (c_2'_2 : List UInt8) (K : CS → Int → Int → Int → (List UInt8) → Prop) : Prop :=
 K c c_1' c_2'_0 c_2'_1 c_2'_2
set_option maxRecDepth 100000 in
theorem readcr_wp (b : Nat) (b_1' : Nat) (b_2' : Nat) (c : CS) (c_1' : Int) (c_2'_0 : Int) (c_2'_1 : Int) (c_2'_2 : List UInt8) (K : CS → Int → Int → Int → (List UInt8) → Prop) (h : readcr_vc c c_1' c_2'_0 c_2'_1 c_2'_2 K) :
  DoesD Tryd.prog 169 [zP b, zP b_1', zP b_2'] (.returning) (.returning) [] [HA.blk b (.cells (wl c).toArray 84 (0, 0)), HA.blk b_1' (.cells [zI c_1'].toArray 3 (0, 0)), HA.blk b_2' (.cells [zI c_2'_0, zI c_2'_1, st c_2'_2].toArray 26 (0, 0))] (fun o => (∃ (d : CS) (d_1' : Int) (d_2'_0 : Int) (d_2'_1 : Int) (d_2'_2 : List UInt8), K d d_1' d_2'_0 d_2'_1 d_2'_2 ∧ o = .ret (Value.tuple #[]) [HA.blk b (.cells (wl d).toArray 84 (0, 0)), HA.blk b_1' (.cells [zI d_1'].toArray 3 (0, 0)), HA.blk b_2' (.cells [zI d_2'_0, zI d_2'_1, st d_2'_2].toArray 26 (0, 0))]) ∨ (False)) := by
 unfold readcr_vc at h
 refine doesD_rec (n := 10) (L0 := [(0, zP b), (1, zP b_1'), (2, zP b_2')]) (v := Value.nilIface) Tryd.func169 rfl rfl rfl rfl rfl rfl (.inl ⟨rfl, rfl, rfl⟩) (fun w0 M Q hE => ?_)
 refine wc_seq (fun K0 hK => ?_)
 refine wc_region ?_
 refine wv (OV.move rfl) ?_
 refine wv (OV.neqNil0 rfl Tryd.underlying20) ?_
 refine WL.nil ?_
 refine KX.go (hK [(0, zP b), (1, zP b_1'), (2, zP b_2'), (3, Value.nilIface), (6, zB false)] _ ?_) ⟨rfl, rfl, rfl, rfl, rfl, trivial⟩
 refine wc_condF rfl ?_
 refine wc_skip ?_
 exact hE.norm [0, 1, 2] rfl rfl (.inl ⟨_, _, _, _, _, h, rfl⟩) (ResV.none rfl)

def readcp_vc (_ : CS) (_ : Int) (_ : Int) (_ : Int) (_ : List UInt8) (fc : Int) (fa : Int) (ft : List UInt8) (K : CS → Int → Int → Int → (List UInt8) → Prop) : Prop :=
 K cs0 0 fc fa ft
set_option maxRecDepth 100000 in
theorem readcp_wp (b : Nat) (b_1' : Nat) (b_2' : Nat) (c : CS) (c_1' : Int) (c_2'_0 : Int) (c_2'_1 : Int) (c_2'_2 : List UInt8) (fc : Int) (fa : Int) (ft : List UInt8) (K : CS → Int → Int → Int → (List UInt8) → Prop) (h : readcp_vc c c_1' c_2'_0 c_2'_1 c_2'_2 fc fa ft K) :
  DoesD Tryd.prog 169 [zP b, zP b_1', zP b_2'] (.panicking [{ v := Value.iface 26 (Value.agg [zI fc, zI fa, st ft].toArray), recovered := false }]) (.panicking [{ v := Value.iface 26 (Value.agg [zI fc, zI fa, st ft].toArray), recovered := true }]) [] [HA.blk b (.cells (wl c).toArray 84 (0, 0)), HA.blk b_1' (.cells [zI c_1'].toArray 3 (0, 0)), HA.blk b_2' (.cells [zI c_2'_0, zI c_2'_1, st c_2'_2].toArray 26 (0, 0))] (fun o => (∃ (d : CS) (d_1' : Int) (d_2'_0 : Int) (d_2'_1 : Int) (d_2'_2 : List UInt8), K d d_1' d_2'_0 d_2'_1 d_2'_2 ∧ o = .ret (Value.tuple #[]) [HA.blk b (.cells (wl d).toArray 84 (0, 0)), HA.blk b_1' (.cells [zI d_1'].toArray 3 (0, 0)), HA.blk b_2' (.cells [zI d_2'_0, zI d_2'_1, st d_2'_2].toArray 26 (0, 0))]) ∨ (False)) := by
 unfold readcp_vc at h
 refine doesD_rec (n := 10) (L0 := [(0, zP b), (1, zP b_1'), (2, zP b_2')]) (v := Value.iface 26 (Value.agg [zI fc, zI fa, st ft].toArray)) Tryd.func169 rfl rfl rfl rfl rfl rfl (.inr ⟨_, rfl, rfl, rfl⟩) (fun w0 M Q hE => ?_)
 refine wc_seq (fun K0 hK => ?_)
 refine wc_region ?_
 refine wv (OV.move rfl) ?_
 refine wv (OV.neqNil rfl rfl Tryd.underlying20) ?_
 refine WL.nil ?_
 refine KX.go (hK [(0, zP b), (1, zP b_1'), (2, zP b_2'), (3, Value.iface 26 (Value.agg [zI fc, zI fa, st ft].toArray)), (6, zB true)] _ ?_) ⟨rfl, rfl, rfl, rfl, rfl, trivial⟩
 refine wc_condT rfl ?_
 refine wc_drawT 3 [] [] rfl rfl tf_mixed (by kernel_rfl) (fun T hT => ?_)
 refine TW.val (OV.build rfl (cs := [Value.int .u64 0, Value.int .u64 0, Value.int .u64 0, Value.int .u64 0]) rfl) rfl rfl rfl ?_
 refine TW.val (OV.move rfl) rfl rfl rfl ?_
 refine TW.val (OV.assertIs rfl Tryd.underlying26 rfl) rfl rfl rfl ?_
 refine TW.nil (hT _ ?_)
 refine WLK.op [] rfl rfl (OpK.storeW (vs := [Value.int .u64 0, Value.int .u64 0, Value.int .u64 0, Value.int .u64 0]) 0 rfl rfl rfl rfl rfl tf_size_84 rfl rfl) rfl ?_
 refine WLK.op [] rfl rfl (OpK.store (vs := [zI 0]) (cs' := [zI 0]) 1 rfl rfl rfl rfl tf_size_3 (Nat.le_of_ble_eq_true rfl) rfl rfl) rfl ?_
 refine WLK.op [] rfl rfl (OpK.storeW (vs := [zI fc, zI fa, st ft]) 2 rfl rfl rfl rfl rfl tf_size_26 rfl rfl) rfl ?_
 refine WLK.nil ?_
 exact hE.norm [0, 1, 2] rfl rfl (.inl ⟨_, _, _, _, _, h, rfl⟩) (ResV.none rfl)

abbrev resBlks (b b1 b2 : Nat) (c : CS) (n x y : Int) (z : List UInt8) : List HA :=
 [.blk b (.cells (wl c).toArray 84 (0, 0)), .blk b1 (.cells [zI n].toArray 3 (0, 0)), .blk b2 (.cells [zI x, zI y, st z].toArray 26 (0, 0))]
theorem readc_ret (b b1 b2 : Nat) (c : CS) (n x y : Int) (z : List UInt8) : DoesD Tryd.prog 169 [.pointer (some ⟨b, 0, none⟩), .pointer (some ⟨b1, 0, none⟩), .pointer (some ⟨b2, 0, none⟩)] .returning .returning [] (resBlks b b1 b2 c n x y z) (Ret (.tuple #[]) (resBlks b b1 b2 c n x y z)) := by
 refine (readcr_wp b b1 b2 c n x y z (fun c' n' x' y' z' => c' = c ∧ n' = n ∧ x' = x ∧ y' = y ∧ z' = z) ?_).weak ?_
 ·unfold readcr_vc; exact ⟨rfl, rfl, rfl, rfl, rfl⟩
 ·rintro o (⟨c', n', x', y', z', ⟨rfl, rfl, rfl, rfl, rfl⟩, rfl⟩ | h)
  ·rfl
  ·exact h.elim
theorem readc_pan (b b1 b2 : Nat) (c : CS) (n x y : Int) (z : List UInt8) (fc fa : Int) (ft : List UInt8) : DoesD Tryd.prog 169 [.pointer (some ⟨b, 0, none⟩), .pointer (some ⟨b1, 0, none⟩), .pointer (some ⟨b2, 0, none⟩)]
  (.panicking [{ v := .iface 26 (.agg [.int .i64 fc, .int .i64 fa, st ft].toArray), recovered := false }]) (.panicking [{ v := .iface 26 (.agg [.int .i64 fc, .int .i64 fa, st ft].toArray), recovered := true }]) [] (resBlks b b1 b2 c n x y z) (Ret (.tuple #[]) (resBlks b b1 b2 cs0 0 fc fa ft)) := by
 refine (readcp_wp b b1 b2 c n x y z fc fa ft (fun c' n' x' y' z' => c' = cs0 ∧ n' = 0 ∧ x' = fc ∧ y' = fa ∧ z' = ft) ?_).weak ?_
 ·unfold readcp_vc; exact ⟨rfl, rfl, rfl, rfl, rfl⟩
 ·rintro o (⟨c', n', x', y', z', ⟨rfl, rfl, rfl, rfl, rfl⟩, rfl⟩ | h)
  ·rfl
  ·exact h.elim

def read_vc (text : List UInt8) (at0 : Int) (K : CS → Int → Int → Int → (List UInt8) → Prop) : Prop :=
 (if ((decide (at0 < 0)) || (decide ((text.length : Int) ≤ at0))) = true then
  K cs0 0 2 0 []
 else
  (0 ≤ at0 ∧ at0 < text.length ∧ text.length ≤ 9223372036854775807) ∧
  (∀ (r : CS) (at0_1' : Int), itemM text at0 = .ok (r, at0_1') →
   K r at0_1' 0 0 []) ∧
  (∀ (e : Int) (_at0_2' : Int), itemM text at0 = .error e →
   K cs0 0 10 e []))
set_option maxRecDepth 100000 in
theorem read_wp (te : TypeId) (fre : Nat × Nat) (text : List UInt8) (at0 : Int) (K : CS → Int → Int → Int → (List UInt8) → Prop) (h : read_vc text at0 K) :
  Does Tryd.prog 160 [st text, zI at0] [(1, .cells [zU 110, zU 10, zU 114, zU 13, zU 116, zU 9].toArray te fre)] [] (fun o => (∃ (v : CS) (v_1' : Int) (v_2'_0 : Int) (v_2'_1 : Int) (v_2'_2 : List UInt8), K v v_1' v_2'_0 v_2'_1 v_2'_2 ∧ o = .ret (Value.tuple #[Value.agg (wl v).toArray, zI v_1', Value.agg [zI v_2'_0, zI v_2'_1, st v_2'_2].toArray]) []) ∨ (False)) := by
 unfold read_vc at h
 refine does_of_wcD (n := 31) (L0 := [(0, st text), (1, zI at0)]) Tryd.func160 rfl rfl rfl rfl (fun w0 M Q hE => ?_)
 refine wc_seq (fun K0 hK => ?_)
 refine wc_region ?_
 refine WL.make (MV.alloc tf_zero_84) rfl rfl rfl (fun b => ?_)
 refine WL.make (MV.alloc tf_zero_3) rfl rfl rfl (fun b_1' => ?_)
 refine WL.make (MV.alloc tf_zero_26) rfl rfl rfl (fun b_2' => ?_)
 refine WL.nil ?_
 refine KX.go (hK [(0, st text), (1, zI at0), (4, zP b), (5, zP b_1'), (6, zP b_2')] _ ?_) ⟨rfl, rfl, rfl, rfl, rfl, trivial⟩
 refine wc_seq (fun K0_1' hK_1' => ?_)
 refine wc_seq (fun K0_2' hK_2' => ?_)
 refine wc_region ?_
 refine wv (OV.move rfl) ?_
 refine wv (OV.lss rfl rfl) ?_
 refine wv (OV.move rfl) ?_
 refine WL.cut 5 [(0, st text), (1, zI at0), (4, zP b), (5, zP b_1'), (6, zP b_2'), (15, zB ((decide (at0 < 0)) || (decide ((text.length : Int) ≤ at0))))] ?_ (fun K0_3' hK_3' => ?_)
 rotate_left
 ·refine WL.split (decide (at0 < 0)) (fun hb => ?_) (fun hb => ?_)
  ·refine WL.set 10 rfl (congrArg zB hb) ?_
   refine WL.skip rfl rfl rfl ?_
   refine WL.skip rfl rfl rfl ?_
   refine WL.skip rfl rfl rfl ?_
   refine WL.skip rfl rfl rfl ?_
   refine wv (OV.pickT rfl rfl) ?_
   refine WL.set 15 rfl (oT (v := decide ((text.length : Int) ≤ at0)) hb) ?_
   exact WL.end_ (KX.go hK_3' ⟨rfl, rfl, rfl, rfl, rfl, rfl, trivial⟩)
  ·refine WL.set 10 rfl (congrArg zB hb) ?_
   refine wv (OV.move rfl) ?_
   refine wv (OV.move rfl) ?_
   refine wv (OV.len rfl tf_str_9) ?_
   refine wv (OV.geq rfl rfl) ?_
   refine wv (OV.pickF rfl rfl) ?_
   refine WL.set 15 rfl (oF (v := decide ((text.length : Int) ≤ at0)) hb) ?_
   exact WL.end_ (KX.go hK_3' ⟨rfl, rfl, rfl, rfl, rfl, rfl, trivial⟩)
 refine WL.nil ?_
 refine KX.go (hK_2' [(0, st text), (1, zI at0), (4, zP b), (5, zP b_1'), (6, zP b_2'), (15, zB ((decide (at0 < 0)) || (decide ((text.length : Int) ≤ at0))))] _ ?_) ⟨rfl, rfl, rfl, rfl, rfl, rfl, trivial⟩
 refine wc_cond (b := (decide (at0 < 0)) || (decide ((text.length : Int) ≤ at0))) rfl (fun hb => ?_) (fun hb => ?_)
 ·replace h := if_T h hb
  refine wc_seq (fun K0_4' hK_4' => ?_)
  refine wc_region ?_
  refine wv (OV.build rfl (cs := [Value.int .u64 0, Value.int .u64 0, Value.int .u64 0, Value.int .u64 0]) rfl) ?_
  refine wv (OV.build rfl (cs := [zI 2, zI 0, st []]) rfl) ?_
  refine WL.storeW (vs := [Value.int .u64 0, Value.int .u64 0, Value.int .u64 0, Value.int .u64 0]) 2 rfl rfl rfl rfl rfl tf_size_84 rfl rfl rfl ?_
  refine WL.store (vs := [zI 0]) (cs' := [zI 0]) 1 rfl rfl rfl rfl tf_size_3 (Nat.le_of_ble_eq_true rfl) rfl rfl rfl ?_
  refine WL.storeW (vs := [zI 2, zI 0, st []]) 0 rfl rfl rfl rfl rfl tf_size_26 rfl rfl rfl ?_
  refine WL.nil ?_
  refine KX.go (hK_4' [(4, zP b), (5, zP b_1'), (6, zP b_2')] _ ?_) ⟨rfl, rfl, rfl, trivial⟩
  refine wc_ret ?_
  exact hE.ret (leaves0 [] rfl rfl (.inl ⟨_, _, _, _, _, h, rfl⟩) (ResV.of3 rfl (RV.row rfl (At.own 2 rfl) tf_row_84) (RV.cell rfl (At.own 1 rfl) rfl tf_scal_3) (RV.row rfl (At.own 0 rfl) tf_row_26)))
 ·replace h := if_F h hb
  refine wc_skip ?_
  refine KX.go (hK_1' [(0, st text), (1, zI at0), (4, zP b), (5, zP b_1'), (6, zP b_2')] _ ?_) ⟨rfl, rfl, rfl, rfl, rfl, trivial⟩
  refine wc_seqC (fun K0_5' hK_5' => ?_)
  refine wc_region ?_
  refine wv (OV.makeFunc rfl) ?_
  refine WL.defer rfl rfl ?_
  refine WL.nil ?_
  refine KX.go (hK_5' _ [(0, st text), (1, zI at0), (4, zP b), (5, zP b_1'), (6, zP b_2')] _ ?_) ⟨rfl, rfl, rfl, rfl, rfl, trivial⟩
  refine wc_seq (fun K0_6' hK_6' => ?_)
  refine wc_region ?_
  refine wv (OV.move rfl) ?_
  refine wv (OV.move rfl) ?_
  refine wv (OV.build rfl (cs := [st text, zI at0]) rfl) ?_
  refine WL.make (MV.box (cs := [st text, zI at0]) rfl rfl) rfl rfl rfl (fun b_3' => ?_)
  refine wv (OV.assign rfl) ?_
  refine WL.nil ?_
  refine KX.go (hK_6' [(4, zP b), (5, zP b_1'), (6, zP b_2'), (7, zP b_3')] _ ?_) ⟨rfl, rfl, rfl, rfl, trivial⟩
  refine wc_seq (fun K0_7' hK_7' => ?_)
  refine wc_region ?_
  refine wv (OV.move rfl) ?_
  obtain ⟨o_1', h⟩ := h
  refine WL.callS tf_ent_170 rfl (item_does b_3' te fre text at0 o_1') rfl ⟨.inr (List.mem_of_getElem? (i := 0) rfl), trivial⟩ rfl rfl (fun r H' hS => ?_) (fun c H' hS => ?_)
  ·rcases hS with ⟨r, at0_1', hc, ho⟩ | ⟨e, at0_2', hc, ho⟩ <;> cases ho
   replace h := h.1 r at0_1' hc
   refine WL.storeW (vs := wl r) 3 rfl rfl rfl rfl rfl tf_size_84 rfl rfl rfl ?_
   refine WL.nil ?_
   refine KX.go (hK_7' [(4, zP b), (5, zP b_1'), (6, zP b_2'), (7, zP b_3')] _ ?_) ⟨rfl, rfl, rfl, rfl, trivial⟩
   refine wc_seq (fun K0_8' hK_8' => ?_)
   refine wc_drawT 6 [0, 1, 3] [HA.blk b_3' (.cells [st text, zI at0_1'].toArray 222 (0, 0)), HA.blk b_2' (.cells [zI 0, zI 0, st []].toArray 26 (0, 0)), HA.blk b (.cells (wl r).toArray 84 (0, 0))] rfl rfl tf_mixed (by kernel_rfl) (fun T hT => ?_)
   refine TW.val (OV.loadR rfl (At.own 2 rfl) tf_row_84) rfl rfl rfl ?_
   refine TW.val (OV.move rfl) rfl rfl rfl ?_
   refine TW.val (OV.nilCheck rfl) rfl rfl rfl ?_
   refine TW.val (OV.fieldAddr0 rfl tf_field_222_1) rfl rfl rfl ?_
   refine TW.val (OV.load rfl (At.own 0 rfl) rfl tf_scal_3) rfl rfl rfl ?_
   refine TW.val (OV.build rfl (cs := [zI 0, zI 0, st []]) rfl) rfl rfl rfl ?_
   refine TW.nil (hT _ ?_)
   refine WLK.op [0, 1, 3] rfl rfl (OpK.storeW (vs := wl r) 3 rfl rfl rfl rfl rfl tf_size_84 rfl rfl) rfl ?_
   refine WLK.op [0, 1, 3] rfl rfl (OpK.store (vs := [zI at0_1']) (cs' := [zI at0_1']) 2 rfl rfl rfl rfl tf_size_3 (Nat.le_of_ble_eq_true rfl) rfl rfl) rfl ?_
   refine WLK.op [0, 1, 3] rfl rfl (OpK.storeW (vs := [zI 0, zI 0, st []]) 1 rfl rfl rfl rfl rfl tf_size_26 rfl rfl) rfl ?_
   refine WLK.nil ?_
   refine KX.go (hK_8' [(4, zP b), (5, zP b_1'), (6, zP b_2')] _ ?_) ⟨rfl, rfl, rfl, trivial⟩
   refine wc_ret ?_
   exact hE.ret (leaves1 (A := [HA.blk b (.cells (wl r).toArray 84 (0, 0)), HA.blk b_1' (.cells [zI at0_1'].toArray 3 (0, 0)), HA.blk b_2' (.cells [zI 0, zI 0, st []].toArray 26 (0, 0))]) (A' := [HA.blk b (.cells (wl r).toArray 84 (0, 0)), HA.blk b_1' (.cells [zI at0_1'].toArray 3 (0, 0)), HA.blk b_2' (.cells [zI 0, zI 0, st []].toArray 26 (0, 0))]) (Rest := [HA.blk b_3' (.cells [st text, zI at0_1'].toArray 222 (0, 0))]) [3, 2, 1, 0] rfl rfl tf_ent_169 (readc_ret b b_1' b_2' r at0_1' 0 0 []) (by intro hx; cases hx) rfl trivial [] rfl rfl (.inl ⟨_, _, _, _, _, h, rfl⟩) (ResV.of3 rfl (RV.row rfl (At.own 0 rfl) tf_row_84) (RV.cell rfl (At.own 1 rfl) rfl tf_scal_3) (RV.row rfl (At.own 2 rfl) tf_row_26)))
  ·rcases hS with ⟨r, at0_1', hc, ho⟩ | ⟨e, at0_2', hc, ho⟩ <;> cases ho
   replace h := h.2 e at0_2' hc
   exact hE.pan (leaves1 (A := [HA.blk b (.cells (wl cs0).toArray 84 (0, 0)), HA.blk b_1' (.cells [zI 0].toArray 3 (0, 0)), HA.blk b_2' (.cells [zI 0, zI 0, st []].toArray 26 (0, 0))]) (A' := [HA.blk b (.cells (wl cs0).toArray 84 (0, 0)), HA.blk b_1' (.cells [zI 0].toArray 3 (0, 0)), HA.blk b_2' (.cells [zI 10, zI e, st []].toArray 26 (0, 0))]) (Rest := [HA.blk b_3' (.cells [st text, zI at0_2'].toArray 222 (0, 0))]) [3, 2, 1, 0] rfl rfl tf_ent_169 (readc_pan b b_1' b_2' cs0 0 0 0 [] 10 e []) (by intro hx; cases hx) rfl trivial [] rfl rfl (.inl ⟨_, _, _, _, _, h, rfl⟩) (ResV.of3 rfl (RV.row rfl (At.own 0 rfl) tf_row_84) (RV.cell rfl (At.own 1 rfl) rfl tf_scal_3) (RV.row rfl (At.own 2 rfl) tf_row_26)))

/-- What Read answers: set, place behind, the fault's number and place. -/
def readM (t : List UInt8) (a : Int) : CS × Int × Int × Int :=
 if a < 0 ∨ (t.length : Int) ≤ a then (cs0, 0, 2, 0)
 else match itemM t a with
  | .ok (s, q) => (s, q, 0, 0)
  | .error e => (cs0, 0, 10, e)
def readV (r : CS × Int × Int × Int) : Value := .tuple #[.agg (wl r.1).toArray, .int .i64 r.2.1, .agg [zI r.2.2.1, zI r.2.2.2, st []].toArray]
theorem read_does (te : TypeId) (fre : Nat × Nat) (t : List UInt8) (a : Int) (h : t.length ≤ 9223372036854775807) : Does Tryd.prog 160 [st t, .int .i64 a] (escTab te fre) [] (Ret (readV (readM t a)) []) := by
 refine (read_wp te fre t a (fun s q c p x => readM t a = (s, q, c, p) ∧ x = []) ?_).weak ?_
 ·unfold read_vc readM
  by_cases h1 : a < 0 ∨ (t.length : Int) ≤ a
  ·rw [if_pos (by simpa using h1), if_pos h1]; exact ⟨rfl, rfl⟩
  ·rw [if_neg (by simpa using h1), if_neg h1]
   exact ⟨⟨by omega, by omega, h⟩, fun r q hr => by simp [hr], fun e _ he => by simp [he]⟩
 ·rintro o (⟨s, q, c, p, x, ⟨hm, rfl⟩, rfl⟩ | h)
  ·rw [hm]; rfl
  ·exact h.elim

end Go.Proofs.YtohnchdnkbadaaaDoor
namespace Go.Proofs.YtohnchdnkbadaaaDoor
open Go Go.RowKit

/-- An expression as it is handed about: nil may stand for a node. -/
inductive Tr where
 | none
 | eps
 | cls (s : CS)
 | cat (a b : Tr)
 | alt (a b : Tr)
 | star (a : Tr)
 | and (a b : Tr)
 | minus (a b : Tr)
 deriving DecidableEq
def Tr.val : Tr → Value
 | .none => .nilIface
 | .eps => .iface 49 (.agg ([] : List Value).toArray)
 | .cls s => .iface 87 (.agg (wl s).toArray)
 | .cat a b => .iface 51 (.agg [a.val, b.val].toArray)
 | .alt a b => .iface 165 (.agg [a.val, b.val].toArray)
 | .star a => .iface 167 (.agg [a.val].toArray)
 | .and a b => .iface 163 (.agg [a.val, b.val].toArray)
 | .minus a b => .iface 164 (.agg [a.val, b.val].toArray)
def Tr.isNone : Tr → Bool
 | .none => true
 | _ => false
def Tr.size : Tr → Nat
 | .none => 1
 | .eps => 1
 | .cls _ => 1
 | .cat a b => 1 + a.size + b.size
 | .alt a b => 1 + a.size + b.size
 | .star a => 1 + a.size
 | .and a b => 1 + a.size + b.size
 | .minus a b => 1 + a.size + b.size
def Tr.plain : Tr → Bool
 | .none | .eps | .cls _ => true
 | .cat a b => a.plain && b.plain
 | .alt a b => a.plain && b.plain
 | .star a => a.plain
 | .and _ _ | .minus _ _ => false
theorem Tr.size_pos : ∀ x : Tr, 0 < x.size
 | .none | .eps | .cls _ => by simp [Tr.size]
 | .cat _ _ | .alt _ _ | .star _ | .and _ _ | .minus _ _ => by simp only [Tr.size]; omega
section ov
variable {C : Cx} {L : Sl} {H : List HA} {x : Operand} {t t' ty : TypeId} {d : Option Tmp} {p : String} {e : Array Edge} {g : Option (Nat × Bool)} {ms : Array (String × TypeId)} {P : Program}
theorem OV.eqlNil {v : Value} {tv : TypeId} {y : Operand} (hx : ev L x = some (.iface tv v)) (hy : ev L y = some .nilIface) (hu : P.underlying t = some (.interface ms)) : OV P C L H ⟨d, .binOp .eql t x y t', ty, p, e, g⟩ (.bool false) := fun a w hf _ => by
 have h : binOp .eql t (.iface tv v) .nilIface = (do pure (.bool (← Op.equal t (.iface tv v) .nilIface))) := rfl
 have h2 : (Op.equal t (.iface tv v) .nilIface).run P w = .ok false w := by
  unfold Op.equal Op.maxDepth Op.equalIn
  rw [Sem.run_bind, run_under hu]; rfl
 simp only [execOp, hf.ev hx, hf.ev hy, eqGuard_at_iface, h, Sem.run_bind, Sem.run_pure, Result.andThen_ok, h2]
theorem OV.eqlNil0 (hx : ev L x = some .nilIface) (hu : P.underlying t = some (.interface ms)) : OV P C L H ⟨d, .binOp .eql t x (.const .nilIface) t', ty, p, e, g⟩ (.bool true) := fun a w hf _ => by
 have h : binOp .eql t .nilIface .nilIface = (do pure (.bool (← Op.equal t .nilIface .nilIface))) := rfl
 have h2 : (Op.equal t .nilIface .nilIface).run P w = .ok true w := by
  unfold Op.equal Op.maxDepth Op.equalIn
  rw [Sem.run_bind, run_under hu]; rfl
 have hc : a.eval (.const .nilIface) = .nilIface := rfl
 simp only [execOp, hf.ev hx, hc, eqGuard_nil_constR, h, Sem.run_bind, Sem.run_pure, Result.andThen_ok, h2]
theorem Tr.val_some {z : Tr} (h : z.isNone = false) : ∃ T r, z.val = .iface T r := by
 cases z <;> first | (cases h; done) | exact ⟨_, _, rfl⟩
theorem OV.eqlTr {z : Tr} (hx : ev L x = some z.val) (hu : P.underlying t = some (.interface ms)) : OV P C L H ⟨d, .binOp .eql t x (.const .nilIface) t', ty, p, e, g⟩ (.bool z.isNone) := by
 cases hz : z.isNone with
 | true => cases z <;> first | (cases hz; done) | exact OV.eqlNil0 hx hu
 | false => obtain ⟨T, r, hr⟩ := Tr.val_some hz; exact OV.eqlNil (hx.trans (congrArg some hr)) rfl hu
end ov
/-! ### the grammar -/
/-- The byte at a place, 0 behind the end. -/
def nx (t : List UInt8) (j : Int) : Int := ((t.getD j.toNat 0).toNat : Int)
/-- The tree with more of a kind behind it. -/
def catN (x y : Tr) : Nat → Tr
 | 0 => x
 | k + 1 => catN (.cat x y) y k
theorem catN_succ (y : Tr) : ∀ (k : Nat) (x : Tr), catN x y (k + 1) = .cat (catN x y k) y
 | 0, _ => rfl
 | k + 1, x => by rw [catN, catN_succ y k, catN]
def timesT (x : Tr) (m n : Int) : Tr :=
 if m = 0 ∧ n < 0 then .star x else if m = 0 ∧ n = 0 then .eps else
  let out := catN (if m = 0 then .alt x .eps else x) x (m - 1).toNat
  if n < 0 then .cat out (.star x) else catN out (.alt x .eps) (n - max m 1).toNat
def digB (c : Int) : Bool := decide (48 ≤ c) && decide (c ≤ 57)
/-- One to three digits: the number and the place behind it. -/
def numF (t : List UInt8) : Nat → Int → Int → Int × Int
 | 0, n, j => (n, j)
 | k + 1, n, j => if j < t.length ∧ digB (nx t j) = true then numF t k (10 * n + (nx t j - 48)) (j + 1) else (n, j)
def numM (t : List UInt8) (j : Int) : Except (Int × Int) (Int × Int) := if (numF t 3 0 j).2 = j then .error (20, j) else .ok (numF t 3 0 j)
/-- What stands behind the first number: the second. -/
def comB (t : List UInt8) (m j : Int) : Except (Int × Int) (Int × Int) :=
 if j < t.length ∧ nx t j = 44 then (if (j + 1 < t.length ∧ nx t (j + 1) = 125) then .ok (-1, j + 1) else numM t (j + 1)) else .ok (m, j)
def bracesM (t : List UInt8) (x : Tr) (from_ : Int) : Except (Int × Int) (Tr × Int) :=
 match numM t (from_ + 1) with
 | .error e => .error e
 | .ok (m, j) =>
  match comB t m j with
  | .error e => .error e
  | .ok (n, k) =>
   if k < t.length ∧ nx t k = 125 then (if m > 255 ∨ n > 255 ∨ (0 ≤ n ∧ n < m) then .error (22, from_) else .ok (timesT x m n, k + 1)) else .error (20, k)
/-- The tree with a sign of one byte behind it. -/
def postT (c : Int) (x : Tr) : Tr := if c = 42 then .star x else if c = 43 then .cat x (.star x) else .alt x .eps
/-- What the signs behind a tree come to. -/
inductive RP (t : List UInt8) : Tr → Int → Except (Int × Int) (Tr × Int) → Prop
 | zero {x} {j : Int} : ¬ (j < t.length ∧ (nx t j = 42 ∨ nx t j = 43 ∨ nx t j = 63 ∨ nx t j = 123)) → RP t x j (.ok (x, j))
 | one {x} {j : Int} {r} : j < t.length → nx t j = 42 ∨ nx t j = 43 ∨ nx t j = 63 → RP t (postT (nx t j) x) (j + 1) r → RP t x j r
 | brace {x} {j : Int} {y} {k : Int} {r} : j < t.length → nx t j = 123 → bracesM t x j = .ok (y, k) → RP t y k r → RP t x j r
 | braceE {x} {j : Int} {e} : j < t.length → nx t j = 123 → bracesM t x j = .error e → RP t x j (.error e)
theorem RP.det {t : List UInt8} {x : Tr} {j : Int} {r : Except (Int × Int) (Tr × Int)} (h : RP t x j r) : ∀ {r' : Except (Int × Int) (Tr × Int)}, RP t x j r' → r = r' := by
 induction h with
 | zero n =>
  intro r' h'
  cases h' with
  | zero _ => rfl
  | one a b => exfalso; omega
  | brace a b => exfalso; omega
  | braceE a b => exfalso; omega
 | one h1 h2 _ ih =>
  intro r' h'
  cases h' with
  | zero n => exfalso; omega
  | one _ _ c => exact ih c
  | brace a b => exfalso; omega
  | braceE a b => exfalso; omega
 | brace h1 h2 h3 _ ih =>
  intro r' h'
  cases h' with
  | zero n => exfalso; omega
  | one a b => exfalso; omega
  | brace _ _ a b => rw [h3] at a; cases a; exact ih b
  | braceE _ _ a => rw [h3] at a; cases a
 | braceE h1 h2 h3 =>
  intro r' h'
  cases h' with
  | zero n => exfalso; omega
  | one a b => exfalso; omega
  | brace _ _ a b => rw [h3] at a; cases a
  | braceE _ _ a => rw [h3] at a; cases a; rfl
inductive Md where
 | alt
 | altL (x : Tr)
 | meet
 | meetL (x : Tr)
 | row (acc : Option Tr)
def accT (acc : Option Tr) (y : Tr) : Option Tr := match acc with
 | none => some y
 | some x => some (.cat x y)
def andT (c : Int) (x y : Tr) : Tr := if c = 38 then .and x y else .minus x y
/-- What the text t comes to, read from a place on, with d parentheses open. -/
inductive PR (t : List UInt8) : Md → Nat → Int → Except (Int × Int) (Tr × Int) → Prop
 | alt {d} {i : Int} {x} {j : Int} {r} : PR t .meet d i (.ok (x, j)) → PR t (.altL x) d j r → PR t .alt d i r
 | altE {d} {i : Int} {e} : PR t .meet d i (.error e) → PR t .alt d i (.error e)
 | altL {d x} {j : Int} {y} {k : Int} {r} : j < t.length → nx t j = 124 → PR t .meet d (j + 1) (.ok (y, k)) → PR t (.altL (.alt x y)) d k r → PR t (.altL x) d j r
 | altLE {d x} {j : Int} {e} : j < t.length → nx t j = 124 → PR t .meet d (j + 1) (.error e) → PR t (.altL x) d j (.error e)
 | altZ {d x} {j : Int} : ¬ (j < t.length ∧ nx t j = 124) → PR t (.altL x) d j (.ok (x, j))
 | meet {d} {i : Int} {x} {j : Int} {r} : PR t (.row none) d i (.ok (x, j)) → PR t (.meetL x) d j r → PR t .meet d i r
 | meetE {d} {i : Int} {e} : PR t (.row none) d i (.error e) → PR t .meet d i (.error e)
 | meetL {d x} {j : Int} {y} {k : Int} {r} : j < t.length → nx t j = 38 ∨ nx t j = 45 → PR t (.row none) d (j + 1) (.ok (y, k)) → PR t (.meetL (andT (nx t j) x y)) d k r → PR t (.meetL x) d j r
 | meetLE {d x} {j : Int} {e} : j < t.length → nx t j = 38 ∨ nx t j = 45 → PR t (.row none) d (j + 1) (.error e) → PR t (.meetL x) d j (.error e)
 | meetZ {d x} {j : Int} : ¬ (j < t.length ∧ (nx t j = 38 ∨ nx t j = 45)) → PR t (.meetL x) d j (.ok (x, j))
 | rowZ {d acc} {j : Int} : ¬ (j < t.length ∧ nx t j ≠ 124 ∧ nx t j ≠ 38 ∧ nx t j ≠ 45 ∧ nx t j ≠ 41) → PR t (.row acc) d j (.ok (acc.getD .eps, j))
 | rowB {d acc} {j : Int} : j < t.length → nx t j = 42 ∨ nx t j = 43 ∨ nx t j = 63 ∨ nx t j = 123 → PR t (.row acc) d j (.error (20, j))
 | rowC {d acc} {j : Int} {s} {k : Int} {y} {l : Int} {r} : j < t.length → nx t j ∉ [124, 38, 45, 41, 42, 43, 63, 123, 40] → readM t j = (s, k, 0, 0) → RP t (.cls s) k (.ok (y, l)) → PR t (.row (accT acc y)) d l r → PR t (.row acc) d j r
 | rowCR {d acc} {j : Int} {s} {k : Int} {e} : j < t.length → nx t j ∉ [124, 38, 45, 41, 42, 43, 63, 123, 40] → readM t j = (s, k, 0, 0) → RP t (.cls s) k (.error e) → PR t (.row acc) d j (.error e)
 | rowCE {d acc} {j : Int} {s} {k e p : Int} : j < t.length → nx t j ∉ [124, 38, 45, 41, 42, 43, 63, 123, 40] → readM t j = (s, k, e, p) → ¬ (e = 0 ∧ p = 0) → PR t (.row acc) d j (.error (e, p))
 | rowN {d acc} {j : Int} : j < t.length → nx t j = 40 → 1000 ≤ d → PR t (.row acc) d j (.error (23, j))
 | rowP {d acc} {j : Int} {x} {k : Int} {y} {l : Int} {r} : j < t.length → nx t j = 40 → d < 1000 → PR t .alt (d + 1) (j + 1) (.ok (x, k)) → k < t.length → RP t x (k + 1) (.ok (y, l)) → PR t (.row (accT acc y)) d l r → PR t (.row acc) d j r
 | rowPR {d acc} {j : Int} {x} {k : Int} {e} : j < t.length → nx t j = 40 → d < 1000 → PR t .alt (d + 1) (j + 1) (.ok (x, k)) → k < t.length → RP t x (k + 1) (.error e) → PR t (.row acc) d j (.error e)
 | rowPE {d acc} {j : Int} {e} : j < t.length → nx t j = 40 → d < 1000 → PR t .alt (d + 1) (j + 1) (.error e) → PR t (.row acc) d j (.error e)
 | rowO {d acc} {j : Int} {x} {k : Int} : j < t.length → nx t j = 40 → d < 1000 → PR t .alt (d + 1) (j + 1) (.ok (x, k)) → ¬ (k < t.length) → PR t (.row acc) d j (.error (21, j))


theorem PR.det {t : List UInt8} {m : Md} {d : Nat} {i : Int} {r : Except (Int × Int) (Tr × Int)} (h : PR t m d i r) : ∀ {r' : Except (Int × Int) (Tr × Int)}, PR t m d i r' → r = r' := by
 induction h with
 | alt _ _ ih1 ih2 =>
  intro r' h'
  cases h' with
  | alt a b => cases ih1 a; exact ih2 b
  | altE a => cases ih1 a
 | altE _ ih1 =>
  intro r' h'
  cases h' with
  | alt a b => cases ih1 a
  | altE a => cases ih1 a; rfl
 | altL h1 h2 _ _ ih1 ih2 =>
  intro r' h'
  cases h' with
  | altL _ _ a b => cases ih1 a; exact ih2 b
  | altLE _ _ a => cases ih1 a
  | altZ n => exact absurd ⟨h1, h2⟩ n
 | altLE h1 h2 _ ih1 =>
  intro r' h'
  cases h' with
  | altL _ _ a b => cases ih1 a
  | altLE _ _ a => cases ih1 a; rfl
  | altZ n => exact absurd ⟨h1, h2⟩ n
 | altZ n =>
  intro r' h'
  cases h' with
  | altL h1 h2 a b => exact absurd ⟨h1, h2⟩ n
  | altLE h1 h2 a => exact absurd ⟨h1, h2⟩ n
  | altZ _ => rfl
 | «meet» _ _ ih1 ih2 =>
  intro r' h'
  cases h' with
  | «meet» a b => cases ih1 a; exact ih2 b
  | meetE a => cases ih1 a
 | meetE _ ih1 =>
  intro r' h'
  cases h' with
  | «meet» a b => cases ih1 a
  | meetE a => cases ih1 a; rfl
 | meetL h1 h2 _ _ ih1 ih2 =>
  intro r' h'
  cases h' with
  | meetL _ _ a b => cases ih1 a; exact ih2 b
  | meetLE _ _ a => cases ih1 a
  | meetZ n => exact absurd ⟨h1, h2⟩ n
 | meetLE h1 h2 _ ih1 =>
  intro r' h'
  cases h' with
  | meetL _ _ a b => cases ih1 a
  | meetLE _ _ a => cases ih1 a; rfl
  | meetZ n => exact absurd ⟨h1, h2⟩ n
 | meetZ n =>
  intro r' h'
  cases h' with
  | meetL h1 h2 a b => exact absurd ⟨h1, h2⟩ n
  | meetLE h1 h2 a => exact absurd ⟨h1, h2⟩ n
  | meetZ _ => rfl
 | rowZ n =>
  intro r' h'
  cases h' <;> first | rfl | (exfalso; simp_all; done) | (exfalso; simp_all; omega)
 | rowB h1 h2 =>
  intro r' h'
  cases h' <;> first | rfl | (exfalso; simp_all; done) | (exfalso; simp_all; omega)
 | rowC h1 h2 h3 h4 _ ih =>
  intro r' h'
  cases h' with
  | rowC _ _ a b c => rw [h3] at a; cases a; cases h4.det b; exact ih c
  | rowCR _ _ a b => rw [h3] at a; cases a; cases h4.det b
  | rowCE _ _ a n => rw [h3] at a; cases a; exact absurd ⟨rfl, rfl⟩ n
  | _ => exfalso; first | (simp_all; done) | (simp_all; omega)
 | rowCR h1 h2 h3 h4 =>
  intro r' h'
  cases h' with
  | rowC _ _ a b c => rw [h3] at a; cases a; cases h4.det b
  | rowCR _ _ a b => rw [h3] at a; cases a; cases h4.det b; rfl
  | rowCE _ _ a n => rw [h3] at a; cases a; exact absurd ⟨rfl, rfl⟩ n
  | _ => exfalso; first | (simp_all; done) | (simp_all; omega)
 | rowCE h1 h2 h3 h4 =>
  intro r' h'
  cases h' with
  | rowC _ _ a b c => rw [h3] at a; cases a; exact absurd ⟨rfl, rfl⟩ h4
  | rowCR _ _ a b => rw [h3] at a; cases a; exact absurd ⟨rfl, rfl⟩ h4
  | rowCE _ _ a n => rw [h3] at a; cases a; rfl
  | _ => exfalso; first | (simp_all; done) | (simp_all; omega)
 | rowN h1 h2 h3 =>
  intro r' h'
  cases h' <;> first | rfl | omega | (exfalso; simp_all; done) | (exfalso; simp_all; omega)
 | rowP h1 h2 h3 _ h5 h6 _ ih1 ih2 =>
  intro r' h'
  cases h' with
  | rowP _ _ _ a _ b c => cases ih1 a; cases h6.det b; exact ih2 c
  | rowPR _ _ _ a _ b => cases ih1 a; cases h6.det b
  | rowPE _ _ _ a => cases ih1 a
  | rowO _ _ _ a n => cases ih1 a; exact absurd h5 n
  | _ => exfalso; first | omega | (simp_all; done) | (simp_all; omega)
 | rowPR h1 h2 h3 _ h5 h6 ih1 =>
  intro r' h'
  cases h' with
  | rowP _ _ _ a _ b c => cases ih1 a; cases h6.det b
  | rowPR _ _ _ a _ b => cases ih1 a; cases h6.det b; rfl
  | rowPE _ _ _ a => cases ih1 a
  | rowO _ _ _ a n => cases ih1 a; exact absurd h5 n
  | _ => exfalso; first | omega | (simp_all; done) | (simp_all; omega)
 | rowPE h1 h2 h3 _ ih1 =>
  intro r' h'
  cases h' with
  | rowP _ _ _ a _ b c => cases ih1 a
  | rowPR _ _ _ a _ b => cases ih1 a
  | rowPE _ _ _ a => cases ih1 a; rfl
  | rowO _ _ _ a n => cases ih1 a
  | _ => exfalso; first | omega | (simp_all; done) | (simp_all; omega)
 | rowO h1 h2 h3 _ h5 ih1 =>
  intro r' h'
  cases h' with
  | rowP _ _ _ a k b c => cases ih1 a; exact absurd k h5
  | rowPR _ _ _ a k b => cases ih1 a; exact absurd k h5
  | rowPE _ _ _ a => cases ih1 a
  | rowO _ _ _ a n => cases ih1 a; rfl
  | _ => exfalso; first | omega | (simp_all; done) | (simp_all; omega)

/-! ### where the readings end -/
theorem memF_ok {t : List UInt8} : ∀ (n : Nat) {s s' : CS} {a q : Int}, memF t n s a = .ok (s', q) → a < q ∧ q ≤ t.length
 | 0, _, _, _, _, h => by cases h
 | n + 1, s, s', a, q, h => by
  unfold memF at h
  split at h
  ·cases h; omega
  ·split at h
   ·cases h
   ·rename_i lo p hp
    have h1 := oneM_ok hp
    split at h
    ·split at h
     ·cases h
     ·rename_i hi q' hq
      have h2 := oneM_ok hq
      split at h
      ·cases h
      ·have := memF_ok n h; omega
    ·have := memF_ok n h; omega
theorem readM_ok {t : List UInt8} {j k : Int} {s : CS} (h : readM t j = (s, k, 0, 0)) (_h0 : 0 ≤ j) : j < k ∧ k ≤ t.length := by
 unfold readM at h
 split at h
 ·simp at h
 ·split at h
  ·rename_i s' q hi
   simp only [Prod.mk.injEq, and_true] at h
   obtain ⟨rfl, rfl⟩ := h
   unfold itemM at hi
   split at hi
   ·cases hi; omega
   ·split at hi
    ·unfold memM at hi
     split at hi
     ·split at hi
      ·rename_i hm; have := memF_ok _ hm; cases hi; omega
      ·cases hi
     ·have := memF_ok _ hi; omega
    ·split at hi
     ·rename_i ho; have := oneM_ok ho; cases hi; omega
     ·cases hi
  ·simp at h
theorem numF_ok {t : List UInt8} : ∀ (f : Nat) {n j m k : Int}, numF t f n j = (m, k) → 0 ≤ n → 0 ≤ j → j ≤ t.length → 0 ≤ m ∧ j ≤ k ∧ k ≤ t.length
 | 0, n, j, m, k, h, hn, h0, hl => by simp only [numF, Prod.mk.injEq] at h; omega
 | f + 1, n, j, m, k, h, hn, h0, hl => by
  unfold numF at h
  split at h
  ·rename_i hc
   have hd := hc.2
   simp only [digB, Bool.and_eq_true, decide_eq_true_eq] at hd
   have := numF_ok f h (by omega) (by omega) (by omega)
   omega
  ·simp only [Prod.mk.injEq] at h; omega
theorem numM_ok {t : List UInt8} {j m k : Int} (h : numM t j = .ok (m, k)) (h0 : 0 ≤ j) (hl : j ≤ t.length) : 0 ≤ m ∧ j < k ∧ k ≤ t.length := by
 unfold numM at h
 split at h
 ·cases h
 ·rename_i hne
  have h2 : numF t 3 0 j = (m, k) := by injection h
  have := numF_ok 3 h2 (by omega) h0 hl
  have h3 : ¬ k = j := fun e => hne (by rw [h2]; exact e)
  omega
theorem bracesM_ok {t : List UInt8} {x y : Tr} {j k : Int} (h : bracesM t x j = .ok (y, k)) (h0 : 0 ≤ j) (hl : j < t.length) : j < k ∧ k ≤ t.length := by
 unfold bracesM at h
 split at h
 ·cases h
 ·rename_i m p hm
  have h1 := numM_ok hm (by omega) (by omega)
  split at h
  ·cases h
  ·rename_i n q hq
   have h2 : p ≤ q ∧ q ≤ t.length := by
    unfold comB at hq
    split at hq
    ·split at hq
     ·simp only [Except.ok.injEq, Prod.mk.injEq] at hq; omega
     ·have := numM_ok hq (by omega) (by omega); omega
    ·simp only [Except.ok.injEq, Prod.mk.injEq] at hq; omega
   split at h
   ·split at h
    ·cases h
    ·simp only [Except.ok.injEq, Prod.mk.injEq] at h; omega
   ·cases h
theorem RP.ends {t : List UInt8} {x : Tr} {j : Int} {r : Except (Int × Int) (Tr × Int)} (h : RP t x j r) : 0 ≤ j → j ≤ t.length → ∀ y k, r = .ok (y, k) → j ≤ k ∧ k ≤ t.length := by
 induction h with
 | zero n => intro h0 hl y k e; cases e; omega
 | one h1 h2 _ ih => intro h0 hl y k e; have := ih (by omega) (by omega) y k e; omega
 | brace h1 h2 h3 _ ih => intro h0 hl y k e; have h4 := bracesM_ok h3 h0 h1; have := ih (by omega) (by omega) y k e; omega
 | braceE => intro h0 hl y k e; cases e
theorem PR.ends {t : List UInt8} {m : Md} {d : Nat} {i : Int} {r : Except (Int × Int) (Tr × Int)} (h : PR t m d i r) : 0 ≤ i → i ≤ t.length → ∀ y k, r = .ok (y, k) → i ≤ k ∧ k ≤ t.length := by
 induction h with
 | alt _ _ ih1 ih2 => intro h0 hl y k e; have h1 := ih1 h0 hl _ _ rfl; have := ih2 (by omega) (by omega) y k e; omega
 | altL _ _ _ _ ih1 ih2 => intro h0 hl y k e; have h1 := ih1 (by omega) (by omega) _ _ rfl; have := ih2 (by omega) (by omega) y k e; omega
 | «meet» _ _ ih1 ih2 => intro h0 hl y k e; have h1 := ih1 h0 hl _ _ rfl; have := ih2 (by omega) (by omega) y k e; omega
 | meetL _ _ _ _ ih1 ih2 => intro h0 hl y k e; have h1 := ih1 (by omega) (by omega) _ _ rfl; have := ih2 (by omega) (by omega) y k e; omega
 | altZ _ => intro h0 hl y k e; cases e; omega
 | meetZ _ => intro h0 hl y k e; cases e; omega
 | rowZ _ => intro h0 hl y k e; cases e; omega
 | rowC h1 h2 h3 h4 _ ih => intro h0 hl y k e; have h5 := readM_ok h3 h0; have h6 := h4.ends (by omega) (by omega) _ _ rfl; have := ih (by omega) (by omega) y k e; omega
 | rowP h1 h2 h3 _ h5 h6 _ ih1 ih2 => intro h0 hl y k e; have h7 := ih1 (by omega) (by omega) _ _ rfl; have h8 := h6.ends (by omega) (by omega) _ _ rfl; have := ih2 (by omega) (by omega) y k e; omega
 | _ => intro h0 hl y k e; cases e
/-! ### the same reading, letter by letter, with what is open kept in frames -/
abbrev PRes := Except (Int × Int) (Tr × Int)
structure AF where
 place : Int
 alt : Option Tr
 «meet» : Option Tr
 sign : Int
 row : Option Tr
 fac : Option Tr
def AF.rowS (f : AF) : Option Tr := match f.fac with
 | none => f.row
 | some y => accT f.row y
def AF.settle (f : AF) : AF := { f with row := f.rowS, fac := none }
def AF.rowT (f : AF) : Tr := f.rowS.getD .eps
def meetT (f : AF) (x : Tr) : Tr := match f.meet with
 | none => x
 | some z => andT f.sign z x
def altT (f : AF) (x : Tr) : Tr := match f.alt with
 | none => x
 | some z => .alt z x
def AF.fold (f : AF) : AF := { f with «meet» := some (meetT f f.rowT), row := none, fac := none }
def AF.whole (f : AF) : Tr := altT f (meetT f f.rowT)
def AF.close (f : AF) : AF := { f with alt := some f.whole, «meet» := none, row := none, fac := none }
def OwA (t : List UInt8) (d : Nat) (f : AF) (rm r : PRes) : Prop := match rm with
 | .error e => r = .error e
 | .ok (x, k) => PR t (.altL (altT f x)) d k r
def OwM (t : List UInt8) (d : Nat) (f : AF) (rr r : PRes) : Prop := match rr with
 | .error e => r = .error e
 | .ok (x, k) => ∃ rm, PR t (.meetL (meetT f x)) d k rm ∧ OwA t d f rm r
def OwN (t : List UInt8) (d : Nat) (f : AF) (acc : Option Tr) (i : Int) (r : PRes) : Prop := ∃ rr, PR t (.row acc) d i rr ∧ OwM t d f rr r
def OwR (t : List UInt8) (d : Nat) (f : AF) (i : Int) (r : PRes) : Prop := match f.fac with
 | none => OwN t d f f.row i r
 | some y => ∃ ry, RP t y i ry ∧ match ry with
  | .error e => r = .error e
  | .ok (z, k) => OwN t d f (accT f.row z) k r
variable {t : List UInt8} {d : Nat} {f : AF} {i : Int} {r : PRes}
theorem OwR.start (h : PR t .alt d i r) {p s : Int} : OwR t d ⟨p, none, none, s, none, none⟩ i r := by
 cases h with
 | alt a b => cases a with
  | «meet» a1 a2 => exact ⟨_, a1, _, a2, b⟩
 | altE a => cases a with
  | «meet» a1 a2 => exact ⟨_, a1, _, a2, rfl⟩
  | meetE a1 => exact ⟨_, a1, rfl⟩
def postC (t : List UInt8) (i : Int) : Prop := nx t i = 42 ∨ nx t i = 43 ∨ nx t i = 63 ∨ nx t i = 123
theorem OwR.bad (h : OwR t d f i r) (hl : i < t.length) (hc : postC t i) (hf : f.fac = none) : r = .error (20, i) := by
 unfold postC at hc
 unfold OwR at h
 rw [hf] at h
 obtain ⟨rr, h1, h2⟩ := h
 cases h1 with
 | rowB => exact h2
 | _ => exfalso; first | omega | (simp_all; done) | (simp_all; omega)
theorem OwR.post (h : OwR t d f i r) {y : Tr} (hl : i < t.length) (hc : nx t i = 42 ∨ nx t i = 43 ∨ nx t i = 63) (hf : f.fac = some y) : OwR t d { f with fac := some (postT (nx t i) y) } (i + 1) r := by
 unfold OwR at h ⊢
 rw [hf] at h
 obtain ⟨ry, h1, h2⟩ := h
 cases h1 with
 | one _ _ c => exact ⟨_, c, h2⟩
 | _ => exfalso; omega
theorem OwR.brace (h : OwR t d f i r) {y : Tr} (hl : i < t.length) (hc : nx t i = 123) (hf : f.fac = some y) : match bracesM t y i with
  | .error e => r = .error e
  | .ok (z, k) => OwR t d { f with fac := some z } k r := by
 unfold OwR at h
 rw [hf] at h
 obtain ⟨ry, h1, h2⟩ := h
 cases h1 with
 | brace _ _ a c => rw [a]; exact ⟨_, c, h2⟩
 | braceE _ _ a => rw [a]; exact h2
 | _ => exfalso; omega
/-- The factor joins its row. -/
theorem OwR.settle (h : OwR t d f i r) (hc : ¬ (i < t.length ∧ postC t i)) : OwN t d f f.rowS i r := by
 unfold OwR at h
 unfold postC at hc
 unfold AF.rowS
 split at h
 ·exact h
 ·rename_i y hf
  obtain ⟨ry, h1, h2⟩ := h
  cases h1 with
  | zero => exact h2
  | _ => exfalso; omega
theorem OwN.same {g : AF} {acc : Option Tr} (h : OwN t d f acc i r) (h1 : g.alt = f.alt) (h2 : g.meet = f.meet) (h3 : g.sign = f.sign) : OwN t d g acc i r := by
 have e1 : ∀ x, altT g x = altT f x := fun x => by unfold altT; rw [h1]
 have e2 : ∀ x, meetT g x = meetT f x := fun x => by unfold meetT; rw [h2, h3]
 obtain ⟨rr, a, b⟩ := h
 refine ⟨rr, a, ?_⟩
 unfold OwM OwA at *
 cases rr with
 | error e => exact b
 | ok p =>
  obtain ⟨rm, c, e⟩ := b
  refine ⟨rm, by rw [e2]; exact c, ?_⟩
  cases rm with
  | error e' => exact e
  | ok q => simp only at e ⊢; rw [e1]; exact e
theorem OwN.stop {acc : Option Tr} (h : OwN t d f acc i r) (hc : ¬ (i < t.length ∧ nx t i ≠ 124 ∧ nx t i ≠ 38 ∧ nx t i ≠ 45 ∧ nx t i ≠ 41)) : OwM t d f (.ok (acc.getD .eps, i)) r := by
 obtain ⟨rr, a, b⟩ := h
 cases a with
 | rowZ => exact b
 | _ => exfalso; first | omega | (simp_all; done) | (simp_all; omega)
/-- A sign of the meets. -/
theorem OwR.sign (h : OwR t d f i r) (hl : i < t.length) (hc : nx t i = 38 ∨ nx t i = 45) : OwR t d { f.fold with sign := nx t i } (i + 1) r := by
 have h1 := (h.settle (by unfold postC; omega)).stop (by omega)
 obtain ⟨rm, a, b⟩ := h1
 show OwN t d { f.fold with sign := nx t i } none (i + 1) r
 cases a with
 | meetL _ _ a1 a2 => exact ⟨_, a1, rm, a2, b⟩
 | meetLE _ _ a1 => exact ⟨_, a1, b⟩
 | meetZ n => exfalso; omega
theorem OwR.shut (h : OwR t d f i r) (hc : ¬ (i < t.length ∧ nx t i ≠ 124 ∧ nx t i ≠ 41)) : PR t (.altL f.whole) d i r := by
 have h1 := (h.settle (by unfold postC; omega)).stop (by omega)
 obtain ⟨rm, a, b⟩ := h1
 cases a with
 | meetL _ hn => exfalso; omega
 | meetLE _ hn => exfalso; omega
 | meetZ n => exact b
/-- A sign of the alternatives. -/
theorem OwR.bar (h : OwR t d f i r) (hl : i < t.length) (hc : nx t i = 124) : OwR t d f.close (i + 1) r := by
 have h1 := h.shut (by omega)
 show OwN t d f.close none (i + 1) r
 cases h1 with
 | altL _ _ a b => cases a with
  | «meet» a1 a2 => exact ⟨_, a1, _, a2, b⟩
 | altLE _ _ a => cases a with
  | «meet» a1 a2 => exact ⟨_, a1, _, a2, rfl⟩
  | meetE a1 => exact ⟨_, a1, rfl⟩
 | altZ n => exfalso; omega
theorem OwR.end_ (h : OwR t d f i r) (hc : ¬ (i < t.length ∧ nx t i ≠ 41)) : r = .ok (f.whole, i) := by
 have h1 := h.shut (by omega)
 cases h1 with
 | altL _ hn => exfalso; omega
 | altLE _ hn => exfalso; omega
 | altZ n => rfl
def atomC (t : List UInt8) (i : Int) : Prop := nx t i ≠ 124 ∧ nx t i ≠ 38 ∧ nx t i ≠ 45 ∧ nx t i ≠ 41 ∧ ¬ postC t i
/-- A parenthesis opens. -/
theorem OwR.open_ (h : OwR t d f i r) (hl : i < t.length) (hc : nx t i = 40) : if 1000 ≤ d then r = .error (23, i) else ∃ r1, PR t .alt (d + 1) (i + 1) r1 ∧ match r1 with
  | .error e => r = .error e
  | .ok (x, k) => if k < t.length then OwR t d { f.settle with fac := some x } (k + 1) r else r = .error (21, i) := by
 have h1 := (h.settle (by unfold postC; omega))
 obtain ⟨rr, a, b⟩ := h1
 cases a with
 | rowN _ _ hd => rw [if_pos hd]; exact b
 | rowP _ _ hd a1 hk a2 a3 =>
  rw [if_neg (by omega)]
  refine ⟨_, a1, ?_⟩
  simp only [if_pos hk]
  exact ⟨_, a2, OwN.same (f := f) ⟨_, a3, b⟩ rfl rfl rfl⟩
 | rowPR _ _ hd a1 hk a2 =>
  rw [if_neg (by omega)]
  refine ⟨_, a1, ?_⟩
  simp only [if_pos hk]
  exact ⟨_, a2, b⟩
 | rowPE _ _ hd a1 => rw [if_neg (by omega)]; exact ⟨_, a1, b⟩
 | rowO _ _ hd a1 hk => rw [if_neg (by omega)]; exact ⟨_, a1, by simp only [if_neg hk]; exact b⟩
 | _ => exfalso; first | omega | (simp_all; done) | (simp_all; omega)
/-- A set. -/
theorem OwR.set (h : OwR t d f i r) (hl : i < t.length) (hc : atomC t i) (hp : nx t i ≠ 40) : match readM t i with
  | (s, k, e, p) => if e = 0 ∧ p = 0 then OwR t d { f.settle with fac := some (.cls s) } k r else r = .error (e, p) := by
 have h1 := (h.settle (fun hn => hc.2.2.2.2 hn.2))
 unfold atomC postC at hc
 obtain ⟨rr, a, b⟩ := h1
 cases a with
 | rowC _ _ a1 a2 a3 =>
  rw [a1]; simp only [and_self, if_true]
  exact ⟨_, a2, OwN.same (f := f) ⟨_, a3, b⟩ rfl rfl rfl⟩
 | rowCR _ _ a1 a2 =>
  rw [a1]; simp only [and_self, if_true]
  exact ⟨_, a2, b⟩
 | rowCE _ _ a1 hn => rw [a1]; simp only [if_neg hn]; exact b
 | _ => exfalso; first | omega | (simp_all; done) | (simp_all; omega)
/-- What the frames at hand still come to. -/
def OwS (t : List UInt8) : List AF → Int → PRes → Except (Int × Int) Tr → Prop
 | [], _, r, R => match r with
  | .error e => R = .error e
  | .ok (x, k) => if k < t.length then R = .error (20, k) else R = .ok x
 | g :: rest, p, r, R => match r with
  | .error e => R = .error e
  | .ok (x, k) => if k < t.length then ∃ r', OwR t rest.length { g with fac := some x } (k + 1) r' ∧ OwS t rest g.place r' R else R = .error (21, p)
def Owes (t : List UInt8) : List AF → Int → Except (Int × Int) Tr → Prop
 | [], _, _ => False
 | f :: rest, i, R => ∃ r, OwR t rest.length f i r ∧ OwS t rest f.place r R
end Go.Proofs.YtohnchdnkbadaaaDoor
namespace Go.Proofs.YtohnchdnkbadaaaDoor
open Go Go.RowKit

theorem tf_conc_87 : Program.concrete Tryd.prog 87 = true := by kernel_rfl
theorem tf_field_51_0 : fieldOff Tryd.prog 51 0 = some 0 := by kernel_rfl
theorem tf_scal_23 : scalB Tryd.prog 23 = true := by kernel_rfl
theorem tf_field_51_1 : fieldOff Tryd.prog 51 1 = some 1 := by kernel_rfl
theorem tf_field_165_0 : fieldOff Tryd.prog 165 0 = some 0 := by kernel_rfl
theorem tf_field_165_1 : fieldOff Tryd.prog 165 1 = some 1 := by kernel_rfl
theorem tf_field_167_0 : fieldOff Tryd.prog 167 0 = some 0 := by kernel_rfl
theorem tf_cc_163 : concB Tryd.prog 163 = true := by kernel_rfl
theorem tf_zv_163 : zeroV Tryd.prog 163 = some (Value.agg [Tr.val Tr.none, Tr.val Tr.none].toArray) := by kernel_rfl
theorem tf_cc_164 : concB Tryd.prog 164 = true := by kernel_rfl
theorem tf_zv_164 : zeroV Tryd.prog 164 = some (Value.agg [Tr.val Tr.none, Tr.val Tr.none].toArray) := by kernel_rfl
theorem tf_cc_51 : concB Tryd.prog 51 = true := by kernel_rfl
theorem tf_zv_51 : zeroV Tryd.prog 51 = some (Value.agg [Tr.val Tr.none, Tr.val Tr.none].toArray) := by kernel_rfl
theorem tf_cc_165 : concB Tryd.prog 165 = true := by kernel_rfl
theorem tf_zv_165 : zeroV Tryd.prog 165 = some (Value.agg [Tr.val Tr.none, Tr.val Tr.none].toArray) := by kernel_rfl
theorem tf_cc_167 : concB Tryd.prog 167 = true := by kernel_rfl
theorem tf_zv_167 : zeroV Tryd.prog 167 = some (Value.agg [Tr.val Tr.none].toArray) := by kernel_rfl
theorem tf_zero_51 : zeroB Tryd.prog 51 = some [Tr.val Tr.none, Tr.val Tr.none] := by kernel_rfl
theorem tf_size_51 : sizeB Tryd.prog 51 2 = true := by kernel_rfl
theorem tf_ent_40 : entB Tryd.prog 40 = true := by kernel_rfl
theorem tf_zero_165 : zeroB Tryd.prog 165 = some [Tr.val Tr.none, Tr.val Tr.none] := by kernel_rfl
theorem tf_size_165 : sizeB Tryd.prog 165 2 = true := by kernel_rfl
theorem tf_zero_167 : zeroB Tryd.prog 167 = some [Tr.val Tr.none] := by kernel_rfl
theorem tf_size_167 : sizeB Tryd.prog 167 1 = true := by kernel_rfl
theorem tf_conc_51 : Program.concrete Tryd.prog 51 = true := by kernel_rfl
theorem tf_conc_165 : Program.concrete Tryd.prog 165 = true := by kernel_rfl
theorem tf_conc_167 : Program.concrete Tryd.prog 167 = true := by kernel_rfl
theorem tf_conc_163 : Program.concrete Tryd.prog 163 = true := by kernel_rfl
theorem tf_conc_164 : Program.concrete Tryd.prog 164 = true := by kernel_rfl
theorem tf_zero_87 : zeroB Tryd.prog 87 = some (wl cs0) := by kernel_rfl
theorem tf_size_87 : sizeB Tryd.prog 87 4 = true := by kernel_rfl
theorem Tr.val_one (x : Tr) : x.val.oneCell' = true := by cases x <;> rfl
theorem Tr.val_cells (x : Tr) : x.val.cells = [x.val].toArray := cells_one x.val_one
def plainNone_vc  (K : Bool → Prop) : Prop :=
 K true
set_option maxRecDepth 100000 in
theorem plainNone_wp   (K : Bool → Prop) (h : plainNone_vc  K) :
  Does Tryd.prog 40 [Tr.val Tr.none] [] [] (fun o => (∃ (v : Bool), K v ∧ o = .ret (zB v) []) ∨ (False)) := by
 unfold plainNone_vc at h
 refine does_of_wc (n := 43) (L0 := [(0, Tr.val Tr.none)]) Tryd.func40 rfl rfl rfl rfl (fun w0 M Q hE => ?_)
 refine wc_seq (fun K0 hK => ?_)
 refine wc_region ?_
 refine wv (OV.assign rfl) ?_
 refine WL.nil ?_
 refine KX.go (hK [(0, Tr.val Tr.none)] _ ?_) ⟨rfl, trivial⟩
 refine wc_seq (fun K0_1' hK_1' => ?_)
 refine wc_seq (fun K0_2' hK_2' => ?_)
 refine wc_region ?_
 refine wv (OV.move rfl) ?_
 refine WL.nil ?_
 refine KX.go (hK_2' [(7, Tr.val Tr.none)] _ ?_) ⟨rfl, trivial⟩
 refine wc_block ?_
 refine wc_seq (fun K0_3' hK_3' => ?_)
 refine wc_region ?_
 refine wv (OV.assertNil rfl tf_cc_163 tf_zv_163) ?_
 refine wv (OV.extract 1 rfl rfl) ?_
 refine wv (OV.extract 0 rfl rfl) ?_
 refine wv (OV.assertNil rfl tf_cc_164 tf_zv_164) ?_
 refine wv (OV.extract 1 rfl rfl) ?_
 refine wv (OV.extract 0 rfl rfl) ?_
 refine wv (OV.pickF rfl rfl) ?_
 refine WL.nil ?_
 refine KX.go (hK_3' [(7, Tr.val Tr.none), (14, zB false)] _ ?_) ⟨rfl, rfl, trivial⟩
 refine wc_condF rfl ?_
 refine wc_seq (fun K0_4' hK_4' => ?_)
 refine wc_region ?_
 refine wv (OV.assertNil rfl tf_cc_51 tf_zv_51) ?_
 refine wv (OV.extract 1 rfl rfl) ?_
 refine wv (OV.extract 0 rfl rfl) ?_
 refine WL.nil ?_
 refine KX.go (hK_4' [(7, Tr.val Tr.none), (16, zB false), (17, Value.agg [Tr.val Tr.none, Tr.val Tr.none].toArray)] _ ?_) ⟨rfl, rfl, rfl, trivial⟩
 refine wc_condF rfl ?_
 refine wc_seq (fun K0_5' hK_5' => ?_)
 refine wc_region ?_
 refine wv (OV.assertNil rfl tf_cc_165 tf_zv_165) ?_
 refine wv (OV.extract 1 rfl rfl) ?_
 refine wv (OV.extract 0 rfl rfl) ?_
 refine WL.nil ?_
 refine KX.go (hK_5' [(7, Tr.val Tr.none), (27, zB false), (28, Value.agg [Tr.val Tr.none, Tr.val Tr.none].toArray)] _ ?_) ⟨rfl, rfl, rfl, trivial⟩
 refine wc_condF rfl ?_
 refine wc_seq (fun K0_6' hK_6' => ?_)
 refine wc_region ?_
 refine wv (OV.assertNil rfl tf_cc_167 tf_zv_167) ?_
 refine wv (OV.extract 1 rfl rfl) ?_
 refine wv (OV.extract 0 rfl rfl) ?_
 refine WL.nil ?_
 refine KX.go (hK_6' [(38, zB false), (39, Value.agg [Tr.val Tr.none].toArray)] _ ?_) ⟨rfl, rfl, trivial⟩
 refine wc_condF rfl ?_
 refine wc_skip ?_
 refine KX.go (hK_1' [] _ ?_) trivial
 refine wc_seq (fun K0_7' hK_7' => ?_)
 refine wc_region ?_
 refine wv (OV.assign rfl) ?_
 refine WL.nil ?_
 refine KX.go (hK_7' [(2, zB true)] _ ?_) ⟨rfl, trivial⟩
 refine wc_ret ?_
 exact hE.ret [] rfl rfl (.inl ⟨_, h, rfl⟩) (ResV.of1 rfl (RV.tmp rfl))

def plainEps_vc  (K : Bool → Prop) : Prop :=
 K true
set_option maxRecDepth 100000 in
theorem plainEps_wp   (K : Bool → Prop) (h : plainEps_vc  K) :
  Does Tryd.prog 40 [Tr.val .eps] [] [] (fun o => (∃ (v : Bool), K v ∧ o = .ret (zB v) []) ∨ (False)) := by
 unfold plainEps_vc at h
 refine does_of_wc (n := 43) (L0 := [(0, Tr.val .eps)]) Tryd.func40 rfl rfl rfl rfl (fun w0 M Q hE => ?_)
 refine wc_seq (fun K0 hK => ?_)
 refine wc_region ?_
 refine wv (OV.assign rfl) ?_
 refine WL.nil ?_
 refine KX.go (hK [(0, Tr.val .eps)] _ ?_) ⟨rfl, trivial⟩
 refine wc_seq (fun K0_1' hK_1' => ?_)
 refine wc_seq (fun K0_2' hK_2' => ?_)
 refine wc_region ?_
 refine wv (OV.move rfl) ?_
 refine WL.nil ?_
 refine KX.go (hK_2' [(7, Tr.val .eps)] _ ?_) ⟨rfl, trivial⟩
 refine wc_block ?_
 refine wc_seq (fun K0_3' hK_3' => ?_)
 refine wc_region ?_
 refine wv (OV.assertNo (t2 := 49) (v := Value.agg [].toArray) rfl tf_cc_163 tf_zv_163 rfl) ?_
 refine wv (OV.extract 1 rfl rfl) ?_
 refine wv (OV.extract 0 rfl rfl) ?_
 refine wv (OV.assertNo (t2 := 49) (v := Value.agg [].toArray) rfl tf_cc_164 tf_zv_164 rfl) ?_
 refine wv (OV.extract 1 rfl rfl) ?_
 refine wv (OV.extract 0 rfl rfl) ?_
 refine wv (OV.pickF rfl rfl) ?_
 refine WL.nil ?_
 refine KX.go (hK_3' [(7, Tr.val .eps), (14, zB false)] _ ?_) ⟨rfl, rfl, trivial⟩
 refine wc_condF rfl ?_
 refine wc_seq (fun K0_4' hK_4' => ?_)
 refine wc_region ?_
 refine wv (OV.assertNo (t2 := 49) (v := Value.agg [].toArray) rfl tf_cc_51 tf_zv_51 rfl) ?_
 refine wv (OV.extract 1 rfl rfl) ?_
 refine wv (OV.extract 0 rfl rfl) ?_
 refine WL.nil ?_
 refine KX.go (hK_4' [(7, Tr.val .eps), (16, zB false), (17, Value.agg [Tr.val Tr.none, Tr.val Tr.none].toArray)] _ ?_) ⟨rfl, rfl, rfl, trivial⟩
 refine wc_condF rfl ?_
 refine wc_seq (fun K0_5' hK_5' => ?_)
 refine wc_region ?_
 refine wv (OV.assertNo (t2 := 49) (v := Value.agg [].toArray) rfl tf_cc_165 tf_zv_165 rfl) ?_
 refine wv (OV.extract 1 rfl rfl) ?_
 refine wv (OV.extract 0 rfl rfl) ?_
 refine WL.nil ?_
 refine KX.go (hK_5' [(7, Tr.val .eps), (27, zB false), (28, Value.agg [Tr.val Tr.none, Tr.val Tr.none].toArray)] _ ?_) ⟨rfl, rfl, rfl, trivial⟩
 refine wc_condF rfl ?_
 refine wc_seq (fun K0_6' hK_6' => ?_)
 refine wc_region ?_
 refine wv (OV.assertNo (t2 := 49) (v := Value.agg [].toArray) rfl tf_cc_167 tf_zv_167 rfl) ?_
 refine wv (OV.extract 1 rfl rfl) ?_
 refine wv (OV.extract 0 rfl rfl) ?_
 refine WL.nil ?_
 refine KX.go (hK_6' [(38, zB false), (39, Value.agg [Tr.val Tr.none].toArray)] _ ?_) ⟨rfl, rfl, trivial⟩
 refine wc_condF rfl ?_
 refine wc_skip ?_
 refine KX.go (hK_1' [] _ ?_) trivial
 refine wc_seq (fun K0_7' hK_7' => ?_)
 refine wc_region ?_
 refine wv (OV.assign rfl) ?_
 refine WL.nil ?_
 refine KX.go (hK_7' [(2, zB true)] _ ?_) ⟨rfl, trivial⟩
 refine wc_ret ?_
 exact hE.ret [] rfl rfl (.inl ⟨_, h, rfl⟩) (ResV.of1 rfl (RV.tmp rfl))

def plainCls_vc (_ : CS) (K : Bool → Prop) : Prop :=
 K true
set_option maxRecDepth 100000 in
theorem plainCls_wp  (xs : CS) (K : Bool → Prop) (h : plainCls_vc xs K) :
  Does Tryd.prog 40 [Tr.val (.cls xs)] [] [] (fun o => (∃ (v : Bool), K v ∧ o = .ret (zB v) []) ∨ (False)) := by
 unfold plainCls_vc at h
 refine does_of_wc (n := 43) (L0 := [(0, Tr.val (.cls xs))]) Tryd.func40 rfl rfl rfl rfl (fun w0 M Q hE => ?_)
 refine wc_seq (fun K0 hK => ?_)
 refine wc_region ?_
 refine wv (OV.assign rfl) ?_
 refine WL.nil ?_
 refine KX.go (hK [(0, Tr.val (.cls xs))] _ ?_) ⟨rfl, trivial⟩
 refine wc_seq (fun K0_1' hK_1' => ?_)
 refine wc_seq (fun K0_2' hK_2' => ?_)
 refine wc_region ?_
 refine wv (OV.move rfl) ?_
 refine WL.nil ?_
 refine KX.go (hK_2' [(7, Tr.val (.cls xs))] _ ?_) ⟨rfl, trivial⟩
 refine wc_block ?_
 refine wc_seq (fun K0_3' hK_3' => ?_)
 refine wc_region ?_
 refine wv (OV.assertNo (t2 := 87) (v := Value.agg (wl xs).toArray) rfl tf_cc_163 tf_zv_163 rfl) ?_
 refine wv (OV.extract 1 rfl rfl) ?_
 refine wv (OV.extract 0 rfl rfl) ?_
 refine wv (OV.assertNo (t2 := 87) (v := Value.agg (wl xs).toArray) rfl tf_cc_164 tf_zv_164 rfl) ?_
 refine wv (OV.extract 1 rfl rfl) ?_
 refine wv (OV.extract 0 rfl rfl) ?_
 refine wv (OV.pickF rfl rfl) ?_
 refine WL.nil ?_
 refine KX.go (hK_3' [(7, Tr.val (.cls xs)), (14, zB false)] _ ?_) ⟨rfl, rfl, trivial⟩
 refine wc_condF rfl ?_
 refine wc_seq (fun K0_4' hK_4' => ?_)
 refine wc_region ?_
 refine wv (OV.assertNo (t2 := 87) (v := Value.agg (wl xs).toArray) rfl tf_cc_51 tf_zv_51 rfl) ?_
 refine wv (OV.extract 1 rfl rfl) ?_
 refine wv (OV.extract 0 rfl rfl) ?_
 refine WL.nil ?_
 refine KX.go (hK_4' [(7, Tr.val (.cls xs)), (16, zB false), (17, Value.agg [Tr.val Tr.none, Tr.val Tr.none].toArray)] _ ?_) ⟨rfl, rfl, rfl, trivial⟩
 refine wc_condF rfl ?_
 refine wc_seq (fun K0_5' hK_5' => ?_)
 refine wc_region ?_
 refine wv (OV.assertNo (t2 := 87) (v := Value.agg (wl xs).toArray) rfl tf_cc_165 tf_zv_165 rfl) ?_
 refine wv (OV.extract 1 rfl rfl) ?_
 refine wv (OV.extract 0 rfl rfl) ?_
 refine WL.nil ?_
 refine KX.go (hK_5' [(7, Tr.val (.cls xs)), (27, zB false), (28, Value.agg [Tr.val Tr.none, Tr.val Tr.none].toArray)] _ ?_) ⟨rfl, rfl, rfl, trivial⟩
 refine wc_condF rfl ?_
 refine wc_seq (fun K0_6' hK_6' => ?_)
 refine wc_region ?_
 refine wv (OV.assertNo (t2 := 87) (v := Value.agg (wl xs).toArray) rfl tf_cc_167 tf_zv_167 rfl) ?_
 refine wv (OV.extract 1 rfl rfl) ?_
 refine wv (OV.extract 0 rfl rfl) ?_
 refine WL.nil ?_
 refine KX.go (hK_6' [(38, zB false), (39, Value.agg [Tr.val Tr.none].toArray)] _ ?_) ⟨rfl, rfl, trivial⟩
 refine wc_condF rfl ?_
 refine wc_skip ?_
 refine KX.go (hK_1' [] _ ?_) trivial
 refine wc_seq (fun K0_7' hK_7' => ?_)
 refine wc_region ?_
 refine wv (OV.assign rfl) ?_
 refine WL.nil ?_
 refine KX.go (hK_7' [(2, zB true)] _ ?_) ⟨rfl, trivial⟩
 refine wc_ret ?_
 exact hE.ret [] rfl rfl (.inl ⟨_, h, rfl⟩) (ResV.of1 rfl (RV.tmp rfl))

def plainCat_vc (xa : Tr) (xb : Tr) (K : Bool → Prop) : Prop :=
 (Does Tryd.prog 40 [Tr.val xa] [] [] (Ret (zB xa.plain) [])) ∧
 (xa.plain = true → (Does Tryd.prog 40 [Tr.val xb] [] [] (Ret (zB xb.plain) []))) ∧
 K (xa.plain && xb.plain)
set_option maxRecDepth 100000 in
theorem plainCat_wp  (xa : Tr) (xb : Tr) (K : Bool → Prop) (h : plainCat_vc xa xb K) :
  Does Tryd.prog 40 [Tr.val (.cat xa xb)] [] [] (fun o => (∃ (v : Bool), K v ∧ o = .ret (zB v) []) ∨ (False)) := by
 unfold plainCat_vc at h
 refine does_of_wc (n := 43) (L0 := [(0, Tr.val (.cat xa xb))]) Tryd.func40 rfl rfl rfl rfl (fun w0 M Q hE => ?_)
 refine wc_seq (fun K0 hK => ?_)
 refine wc_region ?_
 refine wv (OV.assign rfl) ?_
 refine WL.nil ?_
 refine KX.go (hK [(0, Tr.val (.cat xa xb))] _ ?_) ⟨rfl, trivial⟩
 refine wc_seq (fun K0_1' hK_1' => ?_)
 refine wc_seq (fun K0_2' hK_2' => ?_)
 refine wc_region ?_
 refine wv (OV.move rfl) ?_
 refine WL.nil ?_
 refine KX.go (hK_2' [(7, Tr.val (.cat xa xb))] _ ?_) ⟨rfl, trivial⟩
 refine wc_block ?_
 refine wc_seq (fun K0_3' hK_3' => ?_)
 refine wc_region ?_
 refine wv (OV.assertNo (t2 := 51) (v := Value.agg [Tr.val xa, Tr.val xb].toArray) rfl tf_cc_163 tf_zv_163 rfl) ?_
 refine wv (OV.extract 1 rfl rfl) ?_
 refine wv (OV.extract 0 rfl rfl) ?_
 refine wv (OV.assertNo (t2 := 51) (v := Value.agg [Tr.val xa, Tr.val xb].toArray) rfl tf_cc_164 tf_zv_164 rfl) ?_
 refine wv (OV.extract 1 rfl rfl) ?_
 refine wv (OV.extract 0 rfl rfl) ?_
 refine wv (OV.pickF rfl rfl) ?_
 refine WL.nil ?_
 refine KX.go (hK_3' [(7, Tr.val (.cat xa xb)), (14, zB false)] _ ?_) ⟨rfl, rfl, trivial⟩
 refine wc_condF rfl ?_
 refine wc_seq (fun K0_4' hK_4' => ?_)
 refine wc_region ?_
 refine wv (OV.assertYes (t' := 51) (v := Value.agg [Tr.val xa, Tr.val xb].toArray) rfl tf_cc_51) ?_
 refine wv (OV.extract 1 rfl rfl) ?_
 refine wv (OV.extract 0 rfl rfl) ?_
 refine WL.nil ?_
 refine KX.go (hK_4' [(7, Tr.val (.cat xa xb)), (16, zB true), (17, Value.agg [Tr.val xa, Tr.val xb].toArray)] _ ?_) ⟨rfl, rfl, rfl, trivial⟩
 refine wc_condT rfl ?_
 refine wc_seq (fun K0_5' hK_5' => ?_)
 refine wc_region ?_
 refine WL.make (MV.alloc tf_zero_51) rfl rfl rfl (fun b => ?_)
 refine WL.storeW (vs := [Tr.val xa, Tr.val xb]) 0 rfl rfl rfl rfl rfl tf_size_51 rfl (one_cons (Tr.val_one _) (one_cons (Tr.val_one _) one_nil)) rfl ?_
 refine WL.nil ?_
 refine KX.go (hK_5' [(4, zP b)] _ ?_) ⟨rfl, trivial⟩
 refine wc_seq (fun K0_6' hK_6' => ?_)
 refine wc_region ?_
 refine wv (OV.fieldAddr0 rfl tf_field_51_0) ?_
 refine wv (OV.load rfl (At.own 0 rfl) rfl tf_scal_23) ?_
 obtain ⟨o, h⟩ := h
 refine WL.call (A := []) tf_ent_40 rfl (o) rfl trivial rfl rfl ?_
 refine wv (OV.move rfl) ?_
 obtain ⟨o_2', h⟩ := h
 refine WL.cut 4 [(25, zB (xa.plain && xb.plain))] ?_ (fun K0_7' hK_7' => ?_)
 rotate_left
 ·refine WL.split (xa.plain) (fun hb => ?_) (fun hb => ?_)
  ·have o_1' := o_2' hb
   refine WL.set 21 rfl (congrArg zB hb) ?_
   refine wv (OV.fieldAddr0 rfl tf_field_51_1) ?_
   refine wv (OV.load rfl (At.own 0 rfl) rfl tf_scal_23) ?_
   refine WL.call (A := []) tf_ent_40 rfl (o_1') rfl trivial rfl rfl ?_
   refine wv (OV.pickT rfl rfl) ?_
   refine WL.set 25 rfl (bT (v := xb.plain) hb) ?_
   exact WL.end_ (KX.go hK_7' ⟨rfl, trivial⟩)
  ·refine WL.set 21 rfl (congrArg zB hb) ?_
   refine WL.skip rfl rfl rfl ?_
   refine WL.skip rfl rfl rfl ?_
   refine WL.skip rfl rfl rfl ?_
   refine wv (OV.pickF rfl rfl) ?_
   refine WL.set 25 rfl (bF (v := xb.plain) hb) ?_
   exact WL.end_ (KX.go hK_7' ⟨rfl, trivial⟩)
 refine wv (OV.assign rfl) ?_
 refine WL.nil ?_
 refine KX.go (hK_6' [(2, zB (xa.plain && xb.plain))] _ ?_) ⟨rfl, trivial⟩
 refine wc_ret ?_
 exact hE.ret [] rfl rfl (.inl ⟨_, h, rfl⟩) (ResV.of1 rfl (RV.tmp rfl))

def plainAlt_vc (xa : Tr) (xb : Tr) (K : Bool → Prop) : Prop :=
 (Does Tryd.prog 40 [Tr.val xa] [] [] (Ret (zB xa.plain) [])) ∧
 (xa.plain = true → (Does Tryd.prog 40 [Tr.val xb] [] [] (Ret (zB xb.plain) []))) ∧
 K (xa.plain && xb.plain)
set_option maxRecDepth 100000 in
theorem plainAlt_wp  (xa : Tr) (xb : Tr) (K : Bool → Prop) (h : plainAlt_vc xa xb K) :
  Does Tryd.prog 40 [Tr.val (.alt xa xb)] [] [] (fun o => (∃ (v : Bool), K v ∧ o = .ret (zB v) []) ∨ (False)) := by
 unfold plainAlt_vc at h
 refine does_of_wc (n := 43) (L0 := [(0, Tr.val (.alt xa xb))]) Tryd.func40 rfl rfl rfl rfl (fun w0 M Q hE => ?_)
 refine wc_seq (fun K0 hK => ?_)
 refine wc_region ?_
 refine wv (OV.assign rfl) ?_
 refine WL.nil ?_
 refine KX.go (hK [(0, Tr.val (.alt xa xb))] _ ?_) ⟨rfl, trivial⟩
 refine wc_seq (fun K0_1' hK_1' => ?_)
 refine wc_seq (fun K0_2' hK_2' => ?_)
 refine wc_region ?_
 refine wv (OV.move rfl) ?_
 refine WL.nil ?_
 refine KX.go (hK_2' [(7, Tr.val (.alt xa xb))] _ ?_) ⟨rfl, trivial⟩
 refine wc_block ?_
 refine wc_seq (fun K0_3' hK_3' => ?_)
 refine wc_region ?_
 refine wv (OV.assertNo (t2 := 165) (v := Value.agg [Tr.val xa, Tr.val xb].toArray) rfl tf_cc_163 tf_zv_163 rfl) ?_
 refine wv (OV.extract 1 rfl rfl) ?_
 refine wv (OV.extract 0 rfl rfl) ?_
 refine wv (OV.assertNo (t2 := 165) (v := Value.agg [Tr.val xa, Tr.val xb].toArray) rfl tf_cc_164 tf_zv_164 rfl) ?_
 refine wv (OV.extract 1 rfl rfl) ?_
 refine wv (OV.extract 0 rfl rfl) ?_
 refine wv (OV.pickF rfl rfl) ?_
 refine WL.nil ?_
 refine KX.go (hK_3' [(7, Tr.val (.alt xa xb)), (14, zB false)] _ ?_) ⟨rfl, rfl, trivial⟩
 refine wc_condF rfl ?_
 refine wc_seq (fun K0_4' hK_4' => ?_)
 refine wc_region ?_
 refine wv (OV.assertNo (t2 := 165) (v := Value.agg [Tr.val xa, Tr.val xb].toArray) rfl tf_cc_51 tf_zv_51 rfl) ?_
 refine wv (OV.extract 1 rfl rfl) ?_
 refine wv (OV.extract 0 rfl rfl) ?_
 refine WL.nil ?_
 refine KX.go (hK_4' [(7, Tr.val (.alt xa xb)), (16, zB false), (17, Value.agg [Tr.val Tr.none, Tr.val Tr.none].toArray)] _ ?_) ⟨rfl, rfl, rfl, trivial⟩
 refine wc_condF rfl ?_
 refine wc_seq (fun K0_5' hK_5' => ?_)
 refine wc_region ?_
 refine wv (OV.assertYes (t' := 165) (v := Value.agg [Tr.val xa, Tr.val xb].toArray) rfl tf_cc_165) ?_
 refine wv (OV.extract 1 rfl rfl) ?_
 refine wv (OV.extract 0 rfl rfl) ?_
 refine WL.nil ?_
 refine KX.go (hK_5' [(7, Tr.val (.alt xa xb)), (27, zB true), (28, Value.agg [Tr.val xa, Tr.val xb].toArray)] _ ?_) ⟨rfl, rfl, rfl, trivial⟩
 refine wc_condT rfl ?_
 refine wc_seq (fun K0_6' hK_6' => ?_)
 refine wc_region ?_
 refine WL.make (MV.alloc tf_zero_165) rfl rfl rfl (fun b => ?_)
 refine WL.storeW (vs := [Tr.val xa, Tr.val xb]) 0 rfl rfl rfl rfl rfl tf_size_165 rfl (one_cons (Tr.val_one _) (one_cons (Tr.val_one _) one_nil)) rfl ?_
 refine WL.nil ?_
 refine KX.go (hK_6' [(5, zP b)] _ ?_) ⟨rfl, trivial⟩
 refine wc_seq (fun K0_7' hK_7' => ?_)
 refine wc_region ?_
 refine wv (OV.fieldAddr0 rfl tf_field_165_0) ?_
 refine wv (OV.load rfl (At.own 0 rfl) rfl tf_scal_23) ?_
 obtain ⟨o, h⟩ := h
 refine WL.call (A := []) tf_ent_40 rfl (o) rfl trivial rfl rfl ?_
 refine wv (OV.move rfl) ?_
 obtain ⟨o_2', h⟩ := h
 refine WL.cut 4 [(36, zB (xa.plain && xb.plain))] ?_ (fun K0_8' hK_8' => ?_)
 rotate_left
 ·refine WL.split (xa.plain) (fun hb => ?_) (fun hb => ?_)
  ·have o_1' := o_2' hb
   refine WL.set 32 rfl (congrArg zB hb) ?_
   refine wv (OV.fieldAddr0 rfl tf_field_165_1) ?_
   refine wv (OV.load rfl (At.own 0 rfl) rfl tf_scal_23) ?_
   refine WL.call (A := []) tf_ent_40 rfl (o_1') rfl trivial rfl rfl ?_
   refine wv (OV.pickT rfl rfl) ?_
   refine WL.set 36 rfl (bT (v := xb.plain) hb) ?_
   exact WL.end_ (KX.go hK_8' ⟨rfl, trivial⟩)
  ·refine WL.set 32 rfl (congrArg zB hb) ?_
   refine WL.skip rfl rfl rfl ?_
   refine WL.skip rfl rfl rfl ?_
   refine WL.skip rfl rfl rfl ?_
   refine wv (OV.pickF rfl rfl) ?_
   refine WL.set 36 rfl (bF (v := xb.plain) hb) ?_
   exact WL.end_ (KX.go hK_8' ⟨rfl, trivial⟩)
 refine wv (OV.assign rfl) ?_
 refine WL.nil ?_
 refine KX.go (hK_7' [(2, zB (xa.plain && xb.plain))] _ ?_) ⟨rfl, trivial⟩
 refine wc_ret ?_
 exact hE.ret [] rfl rfl (.inl ⟨_, h, rfl⟩) (ResV.of1 rfl (RV.tmp rfl))

def plainStar_vc (xa : Tr) (K : Bool → Prop) : Prop :=
 (Does Tryd.prog 40 [Tr.val xa] [] [] (Ret (zB xa.plain) [])) ∧
 K xa.plain
set_option maxRecDepth 100000 in
theorem plainStar_wp  (xa : Tr) (K : Bool → Prop) (h : plainStar_vc xa K) :
  Does Tryd.prog 40 [Tr.val (.star xa)] [] [] (fun o => (∃ (v : Bool), K v ∧ o = .ret (zB v) []) ∨ (False)) := by
 unfold plainStar_vc at h
 refine does_of_wc (n := 43) (L0 := [(0, Tr.val (.star xa))]) Tryd.func40 rfl rfl rfl rfl (fun w0 M Q hE => ?_)
 refine wc_seq (fun K0 hK => ?_)
 refine wc_region ?_
 refine wv (OV.assign rfl) ?_
 refine WL.nil ?_
 refine KX.go (hK [(0, Tr.val (.star xa))] _ ?_) ⟨rfl, trivial⟩
 refine wc_seq (fun K0_1' hK_1' => ?_)
 refine wc_seq (fun K0_2' hK_2' => ?_)
 refine wc_region ?_
 refine wv (OV.move rfl) ?_
 refine WL.nil ?_
 refine KX.go (hK_2' [(7, Tr.val (.star xa))] _ ?_) ⟨rfl, trivial⟩
 refine wc_block ?_
 refine wc_seq (fun K0_3' hK_3' => ?_)
 refine wc_region ?_
 refine wv (OV.assertNo (t2 := 167) (v := Value.agg [Tr.val xa].toArray) rfl tf_cc_163 tf_zv_163 rfl) ?_
 refine wv (OV.extract 1 rfl rfl) ?_
 refine wv (OV.extract 0 rfl rfl) ?_
 refine wv (OV.assertNo (t2 := 167) (v := Value.agg [Tr.val xa].toArray) rfl tf_cc_164 tf_zv_164 rfl) ?_
 refine wv (OV.extract 1 rfl rfl) ?_
 refine wv (OV.extract 0 rfl rfl) ?_
 refine wv (OV.pickF rfl rfl) ?_
 refine WL.nil ?_
 refine KX.go (hK_3' [(7, Tr.val (.star xa)), (14, zB false)] _ ?_) ⟨rfl, rfl, trivial⟩
 refine wc_condF rfl ?_
 refine wc_seq (fun K0_4' hK_4' => ?_)
 refine wc_region ?_
 refine wv (OV.assertNo (t2 := 167) (v := Value.agg [Tr.val xa].toArray) rfl tf_cc_51 tf_zv_51 rfl) ?_
 refine wv (OV.extract 1 rfl rfl) ?_
 refine wv (OV.extract 0 rfl rfl) ?_
 refine WL.nil ?_
 refine KX.go (hK_4' [(7, Tr.val (.star xa)), (16, zB false), (17, Value.agg [Tr.val Tr.none, Tr.val Tr.none].toArray)] _ ?_) ⟨rfl, rfl, rfl, trivial⟩
 refine wc_condF rfl ?_
 refine wc_seq (fun K0_5' hK_5' => ?_)
 refine wc_region ?_
 refine wv (OV.assertNo (t2 := 167) (v := Value.agg [Tr.val xa].toArray) rfl tf_cc_165 tf_zv_165 rfl) ?_
 refine wv (OV.extract 1 rfl rfl) ?_
 refine wv (OV.extract 0 rfl rfl) ?_
 refine WL.nil ?_
 refine KX.go (hK_5' [(7, Tr.val (.star xa)), (27, zB false), (28, Value.agg [Tr.val Tr.none, Tr.val Tr.none].toArray)] _ ?_) ⟨rfl, rfl, rfl, trivial⟩
 refine wc_condF rfl ?_
 refine wc_seq (fun K0_6' hK_6' => ?_)
 refine wc_region ?_
 refine wv (OV.assertYes (t' := 167) (v := Value.agg [Tr.val xa].toArray) rfl tf_cc_167) ?_
 refine wv (OV.extract 1 rfl rfl) ?_
 refine wv (OV.extract 0 rfl rfl) ?_
 refine WL.nil ?_
 refine KX.go (hK_6' [(38, zB true), (39, Value.agg [Tr.val xa].toArray)] _ ?_) ⟨rfl, rfl, trivial⟩
 refine wc_condT rfl ?_
 refine wc_seq (fun K0_7' hK_7' => ?_)
 refine wc_region ?_
 refine WL.make (MV.alloc tf_zero_167) rfl rfl rfl (fun b => ?_)
 refine WL.store (vs := [Tr.val xa]) (cs' := [Tr.val xa]) 0 rfl rfl rfl rfl tf_size_167 (Nat.le_of_ble_eq_true rfl) (one_cons (Tr.val_one _) one_nil) rfl rfl ?_
 refine WL.nil ?_
 refine KX.go (hK_7' [(6, zP b)] _ ?_) ⟨rfl, trivial⟩
 refine wc_seq (fun K0_8' hK_8' => ?_)
 refine wc_region ?_
 refine wv (OV.fieldAddr0 rfl tf_field_167_0) ?_
 refine wv (OV.load rfl (At.own 0 rfl) rfl tf_scal_23) ?_
 obtain ⟨o, h⟩ := h
 refine WL.call (A := []) tf_ent_40 rfl (o) rfl trivial rfl rfl ?_
 refine wv (OV.assign rfl) ?_
 refine WL.nil ?_
 refine KX.go (hK_8' [(2, zB xa.plain)] _ ?_) ⟨rfl, trivial⟩
 refine wc_ret ?_
 exact hE.ret [] rfl rfl (.inl ⟨_, h, rfl⟩) (ResV.of1 rfl (RV.tmp rfl))

def plainAnd_vc (_ : Tr) (_ : Tr) (K : Bool → Prop) : Prop :=
 K false
set_option maxRecDepth 100000 in
theorem plainAnd_wp  (xa : Tr) (xb : Tr) (K : Bool → Prop) (h : plainAnd_vc xa xb K) :
  Does Tryd.prog 40 [Tr.val (.and xa xb)] [] [] (fun o => (∃ (v : Bool), K v ∧ o = .ret (zB v) []) ∨ (False)) := by
 unfold plainAnd_vc at h
 refine does_of_wc (n := 43) (L0 := [(0, Tr.val (.and xa xb))]) Tryd.func40 rfl rfl rfl rfl (fun w0 M Q hE => ?_)
 refine wc_seq (fun K0 hK => ?_)
 refine wc_region ?_
 refine wv (OV.assign rfl) ?_
 refine WL.nil ?_
 refine KX.go (hK [(0, Tr.val (.and xa xb))] _ ?_) ⟨rfl, trivial⟩
 refine wc_seq (fun K0_1' hK_1' => ?_)
 refine wc_seq (fun K0_2' hK_2' => ?_)
 refine wc_region ?_
 refine wv (OV.move rfl) ?_
 refine WL.nil ?_
 refine KX.go (hK_2' [(7, Tr.val (.and xa xb))] _ ?_) ⟨rfl, trivial⟩
 refine wc_block ?_
 refine wc_seq (fun K0_3' hK_3' => ?_)
 refine wc_region ?_
 refine wv (OV.assertYes (t' := 163) (v := Value.agg [Tr.val xa, Tr.val xb].toArray) rfl tf_cc_163) ?_
 refine wv (OV.extract 1 rfl rfl) ?_
 refine wv (OV.extract 0 rfl rfl) ?_
 refine wv (OV.assertNo (t2 := 163) (v := Value.agg [Tr.val xa, Tr.val xb].toArray) rfl tf_cc_164 tf_zv_164 rfl) ?_
 refine wv (OV.extract 1 rfl rfl) ?_
 refine wv (OV.extract 0 rfl rfl) ?_
 refine wv (OV.pickT rfl rfl) ?_
 refine WL.nil ?_
 refine KX.go (hK_3' [(7, Tr.val (.and xa xb)), (14, zB true)] _ ?_) ⟨rfl, rfl, trivial⟩
 refine wc_condT rfl ?_
 refine wc_seq (fun K0_4' hK_4' => ?_)
 refine wc_region ?_
 refine wv (OV.assign rfl) ?_
 refine WL.nil ?_
 refine KX.go (hK_4' [] _ ?_) trivial
 refine wc_seq (fun K0_5' hK_5' => ?_)
 refine wc_region ?_
 refine wv (OV.assign rfl) ?_
 refine WL.nil ?_
 refine KX.go (hK_5' [(2, zB false)] _ ?_) ⟨rfl, trivial⟩
 refine wc_ret ?_
 exact hE.ret [] rfl rfl (.inl ⟨_, h, rfl⟩) (ResV.of1 rfl (RV.tmp rfl))

def plainMinus_vc (_ : Tr) (_ : Tr) (K : Bool → Prop) : Prop :=
 K false
set_option maxRecDepth 100000 in
theorem plainMinus_wp  (xa : Tr) (xb : Tr) (K : Bool → Prop) (h : plainMinus_vc xa xb K) :
  Does Tryd.prog 40 [Tr.val (.minus xa xb)] [] [] (fun o => (∃ (v : Bool), K v ∧ o = .ret (zB v) []) ∨ (False)) := by
 unfold plainMinus_vc at h
 refine does_of_wc (n := 43) (L0 := [(0, Tr.val (.minus xa xb))]) Tryd.func40 rfl rfl rfl rfl (fun w0 M Q hE => ?_)
 refine wc_seq (fun K0 hK => ?_)
 refine wc_region ?_
 refine wv (OV.assign rfl) ?_
 refine WL.nil ?_
 refine KX.go (hK [(0, Tr.val (.minus xa xb))] _ ?_) ⟨rfl, trivial⟩
 refine wc_seq (fun K0_1' hK_1' => ?_)
 refine wc_seq (fun K0_2' hK_2' => ?_)
 refine wc_region ?_
 refine wv (OV.move rfl) ?_
 refine WL.nil ?_
 refine KX.go (hK_2' [(7, Tr.val (.minus xa xb))] _ ?_) ⟨rfl, trivial⟩
 refine wc_block ?_
 refine wc_seq (fun K0_3' hK_3' => ?_)
 refine wc_region ?_
 refine wv (OV.assertNo (t2 := 164) (v := Value.agg [Tr.val xa, Tr.val xb].toArray) rfl tf_cc_163 tf_zv_163 rfl) ?_
 refine wv (OV.extract 1 rfl rfl) ?_
 refine wv (OV.extract 0 rfl rfl) ?_
 refine wv (OV.assertYes (t' := 164) (v := Value.agg [Tr.val xa, Tr.val xb].toArray) rfl tf_cc_164) ?_
 refine wv (OV.extract 1 rfl rfl) ?_
 refine wv (OV.extract 0 rfl rfl) ?_
 refine wv (OV.pickF rfl rfl) ?_
 refine WL.nil ?_
 refine KX.go (hK_3' [(7, Tr.val (.minus xa xb)), (14, zB true)] _ ?_) ⟨rfl, rfl, trivial⟩
 refine wc_condT rfl ?_
 refine wc_seq (fun K0_4' hK_4' => ?_)
 refine wc_region ?_
 refine wv (OV.assign rfl) ?_
 refine WL.nil ?_
 refine KX.go (hK_4' [] _ ?_) trivial
 refine wc_seq (fun K0_5' hK_5' => ?_)
 refine wc_region ?_
 refine wv (OV.assign rfl) ?_
 refine WL.nil ?_
 refine KX.go (hK_5' [(2, zB false)] _ ?_) ⟨rfl, trivial⟩
 refine wc_ret ?_
 exact hE.ret [] rfl rfl (.inl ⟨_, h, rfl⟩) (ResV.of1 rfl (RV.tmp rfl))

theorem plain_does : ∀ x : Tr, Does Tryd.prog 40 [x.val] [] [] (Ret (.bool x.plain) [])
 | .none => Does.one (plainNone_wp (fun v => v = Tr.plain .none) rfl)
 | .eps => Does.one (plainEps_wp (fun v => v = Tr.plain .eps) rfl)
 | .cls s => Does.one (plainCls_wp s (fun v => v = Tr.plain (.cls s)) rfl)
 | .cat a b => Does.one (plainCat_wp a b (fun v => v = Tr.plain (.cat a b)) ⟨plain_does a, fun _ => plain_does b, rfl⟩)
 | .alt a b => Does.one (plainAlt_wp a b (fun v => v = Tr.plain (.alt a b)) ⟨plain_does a, fun _ => plain_does b, rfl⟩)
 | .star a => Does.one (plainStar_wp a (fun v => v = Tr.plain (.star a)) ⟨plain_does a, rfl⟩)
 | .and a b => Does.one (plainAnd_wp a b (fun v => v = Tr.plain (.and a b)) rfl)
 | .minus a b => Does.one (plainMinus_wp a b (fun v => v = Tr.plain (.minus a b)) rfl)
end Go.Proofs.YtohnchdnkbadaaaDoor
namespace Go.Proofs.YtohnchdnkbadaaaDoor
open Go Go.ChangeShapes Go.WideShapes Go.ChangeAt Go.RowKit

set_option maxRecDepth 100000 in
theorem laidWorld_met (os : Os) (args : Array Value) : laidMetH Tryd.prog escLaid ((laidWorld os).forCall (fun _ _ => 0) ⟨#[], args, []⟩).memory := by
 rw [laid_plain]
 exact ⟨_, ⟨1, 214, escCells, 8, [], [], by kernel_rfl, by kernel_rfl, by kernel_rfl, by kernel_rfl, rfl, rfl⟩, by decide, fun b off h => by
    have h' : MemPlace.cell b off ∈ [MemPlace.cell 1 0, .cell 1 1, .cell 1 2, .cell 1 3, .cell 1 4, .cell 1 5] := h
    have hb : b = 1 := by
     simp at h'
     omega
    subst hb
    refine ⟨⟨_, _, laidWorld_row os _⟩, fun u v hc => ?_⟩
    simp only [World.cell?, laidWorld_row os] at hc
    simp at h'
    rcases h' with rfl | rfl | rfl | rfl | rfl | rfl <;> simp [escCells] at hc⟩


/-- A contract of the calculus of walks under the table is one of the elder form. -/
theorem Does.pureE {f : FuncId} {vs : List Value} {v : Value} (h : ∀ te fre, Does Tryd.prog f vs (escTab te fre) [] (Ret v [])) : PureE f vs.toArray v := fun w ⟨te, fre, he⟩ => by
 refine (h te fre w [] rfl List.nodup_nil (fun k hk => by cases hk) (fun p hp => by obtain rfl := List.mem_singleton.1 hp; exact ⟨he, fun hx => by cases hx⟩)).mono ?_
 rintro en w' ⟨H', hS, hh⟩
 rcases hS with ⟨r, rfl, hS⟩ | ⟨c, rfl, hS⟩
 ·cases hS; exact ⟨rfl, hh.toBelow⟩
 ·cases hS
end Go.Proofs.YtohnchdnkbadaaaDoor
namespace Go.Proofs.YtohnchdnkbadaaaDoor
open Go Go.RowKit

def intC (n : Int) : List Value := [.int .i64 n]
theorem intC_len (n : Int) : (intC n).length = 1 := rfl
theorem nx_bd (t : List UInt8) (j : Int) : 0 ≤ nx t j ∧ nx t j < 256 := by
 unfold nx
 have := (t.getD j.toNat 0).toNat_lt
 omega
theorem nx_out {t : List UInt8} {j : Int} (h : (t.length : Int) ≤ j) : nx t j = 0 := by
 unfold nx
 rw [List.getD_eq_getElem?_getD, List.getElem?_eq_none (by omega)]; rfl
theorem RP.total (t : List UInt8) : ∀ (n : Nat) (x : Tr) (j : Int), 0 ≤ j → (t.length : Int) - j < n → ∃ r, RP t x j r
 | 0, x, j, h0, h => ⟨_, .zero (by omega)⟩
 | n + 1, x, j, h0, h => by
  by_cases hl : j < t.length
  ·by_cases h1 : nx t j = 42 ∨ nx t j = 43 ∨ nx t j = 63
   ·obtain ⟨r, hr⟩ := RP.total t n (postT (nx t j) x) (j + 1) (by omega) (by omega)
    exact ⟨r, .one hl h1 hr⟩
   ·by_cases h2 : nx t j = 123
    ·cases hb : bracesM t x j with
     | error e => exact ⟨_, .braceE hl h2 hb⟩
     | ok p =>
      obtain ⟨y, k⟩ := p
      have := bracesM_ok hb h0 hl
      obtain ⟨r, hr⟩ := RP.total t n y k (by omega) (by omega)
      exact ⟨r, .brace hl h2 hb hr⟩
    ·exact ⟨_, .zero (by omega)⟩
  ·exact ⟨_, .zero (by omega)⟩
theorem RP.tot (t : List UInt8) (x : Tr) {j : Int} (h0 : 0 ≤ j) : ∃ r, RP t x j r := RP.total t ((t.length : Int) - j + 1).toNat x j h0 (by omega)
abbrev Tot (t : List UInt8) (m : Md) (i : Int) : Prop := ∀ d, ∃ r, PR t m d i r
theorem row_total {t : List UInt8} {i : Int} (hA : ∀ j, i < j → Tot t .alt j) : ∀ (n : Nat) (acc : Option Tr) (j : Int), i ≤ j → 0 ≤ j → (t.length : Int) - j < n → Tot t (.row acc) j
 | 0, acc, j, _, h0, h, d => ⟨_, .rowZ (by omega)⟩
 | n + 1, acc, j, hi, h0, h, d => by
  by_cases hl : j < t.length
  ·by_cases h1 : nx t j = 124 ∨ nx t j = 38 ∨ nx t j = 45 ∨ nx t j = 41
   ·exact ⟨_, .rowZ (by omega)⟩
   by_cases h2 : nx t j = 42 ∨ nx t j = 43 ∨ nx t j = 63 ∨ nx t j = 123
   ·exact ⟨_, .rowB hl h2⟩
   by_cases h3 : nx t j = 40
   ·by_cases hd : d < 1000
    ·obtain ⟨q, hq⟩ := hA (j + 1) (by omega) (d + 1)
     cases q with
     | error e => exact ⟨_, .rowPE hl h3 hd hq⟩
     | ok p =>
      obtain ⟨x, k⟩ := p
      have hk := hq.ends (by omega) (by omega) _ _ rfl
      by_cases hkl : k < t.length
      ·obtain ⟨q2, hq2⟩ := RP.tot t x (j := k + 1) (by omega)
       cases q2 with
       | error e => exact ⟨_, .rowPR hl h3 hd hq hkl hq2⟩
       | ok p2 =>
        obtain ⟨y, l⟩ := p2
        have hl2 := hq2.ends (by omega) (by omega) _ _ rfl
        obtain ⟨r, hr⟩ := row_total hA n (accT acc y) l (by omega) (by omega) (by omega) d
        exact ⟨r, .rowP hl h3 hd hq hkl hq2 hr⟩
      ·exact ⟨_, .rowO hl h3 hd hq hkl⟩
    ·exact ⟨_, .rowN hl h3 (by omega)⟩
   ·have hc : nx t j ∉ [124, 38, 45, 41, 42, 43, 63, 123, 40] := by simp; omega
    rcases hm : readM t j with ⟨s, k, e, p⟩
    by_cases hz : e = 0 ∧ p = 0
    ·obtain ⟨rfl, rfl⟩ := hz
     have hk := readM_ok hm h0
     obtain ⟨q2, hq2⟩ := RP.tot t (.cls s) (j := k) (by omega)
     cases q2 with
     | error e => exact ⟨_, .rowCR hl hc hm hq2⟩
     | ok p2 =>
      obtain ⟨y, l⟩ := p2
      have hl2 := hq2.ends (by omega) (by omega) _ _ rfl
      obtain ⟨r, hr⟩ := row_total hA n (accT acc y) l (by omega) (by omega) (by omega) d
      exact ⟨r, .rowC hl hc hm hq2 hr⟩
    ·exact ⟨_, .rowCE hl hc hm hz⟩
  ·exact ⟨_, .rowZ (by omega)⟩
theorem meetL_total {t : List UInt8} {i : Int} (hR : ∀ j, i ≤ j → 0 ≤ j → Tot t (.row none) j) : ∀ (n : Nat) (x : Tr) (j : Int), i ≤ j → 0 ≤ j → (t.length : Int) - j < n → Tot t (.meetL x) j
 | 0, x, j, _, h0, h, d => ⟨_, .meetZ (by omega)⟩
 | n + 1, x, j, hi, h0, h, d => by
  by_cases hc : j < t.length ∧ (nx t j = 38 ∨ nx t j = 45)
  ·obtain ⟨q, hq⟩ := hR (j + 1) (by omega) (by omega) d
   cases q with
   | error e => exact ⟨_, .meetLE hc.1 hc.2 hq⟩
   | ok p =>
    obtain ⟨y, k⟩ := p
    have hk := hq.ends (by omega) (by omega) _ _ rfl
    obtain ⟨r, hr⟩ := meetL_total hR n (andT (nx t j) x y) k (by omega) (by omega) (by omega) d
    exact ⟨r, .meetL hc.1 hc.2 hq hr⟩
  ·exact ⟨_, .meetZ hc⟩
theorem altL_total {t : List UInt8} {i : Int} (hM : ∀ j, i ≤ j → 0 ≤ j → Tot t .meet j) : ∀ (n : Nat) (x : Tr) (j : Int), i ≤ j → 0 ≤ j → (t.length : Int) - j < n → Tot t (.altL x) j
 | 0, x, j, _, h0, h, d => ⟨_, .altZ (by omega)⟩
 | n + 1, x, j, hi, h0, h, d => by
  by_cases hc : j < t.length ∧ nx t j = 124
  ·obtain ⟨q, hq⟩ := hM (j + 1) (by omega) (by omega) d
   cases q with
   | error e => exact ⟨_, .altLE hc.1 hc.2 hq⟩
   | ok p =>
    obtain ⟨y, k⟩ := p
    have hk := hq.ends (by omega) (by omega) _ _ rfl
    obtain ⟨r, hr⟩ := altL_total hM n (.alt x y) k (by omega) (by omega) (by omega) d
    exact ⟨r, .altL hc.1 hc.2 hq hr⟩
  ·exact ⟨_, .altZ hc⟩
theorem alt_total (t : List UInt8) : ∀ (n : Nat) (i : Int), 0 ≤ i → (t.length : Int) - i < n → Tot t .alt i
 | 0, i, h0, h, d => ⟨_, .alt (.meet (.rowZ (by omega)) (.meetZ (by omega))) (.altZ (by omega))⟩
 | n + 1, i, h0, h, d => by
  have hA : ∀ j, i < j → Tot t .alt j := fun j hj => alt_total t n j (by omega) (by omega)
  have hR : ∀ j, i ≤ j → 0 ≤ j → Tot t (.row none) j := fun j hj h0 => row_total hA ((t.length : Int) - j + 1).toNat none j hj h0 (by omega)
  have hM : ∀ j, i ≤ j → 0 ≤ j → Tot t .meet j := fun j hj h0 d => by
   obtain ⟨q, hq⟩ := hR j hj h0 d
   cases q with
   | error e => exact ⟨_, .meetE hq⟩
   | ok p =>
    obtain ⟨x, k⟩ := p
    by_cases hjl : j ≤ t.length
    ·have hk := hq.ends (by omega) (by omega) _ _ rfl
     obtain ⟨r, hr⟩ := meetL_total hR ((t.length : Int) - k + 1).toNat x k (by omega) (by omega) (by omega) d
     exact ⟨r, .meet hq hr⟩
    ·have : k = j := by cases hq with
      | rowZ => rfl
      | _ => omega
     exact ⟨_, .meet hq (.meetZ (by omega))⟩
  obtain ⟨q, hq⟩ := hM i (by omega) h0 d
  cases q with
  | error e => exact ⟨_, .altE hq⟩
  | ok p =>
   obtain ⟨x, k⟩ := p
   by_cases hil : i ≤ t.length
   ·have hk := hq.ends (by omega) (by omega) _ _ rfl
    obtain ⟨r, hr⟩ := altL_total hM ((t.length : Int) - k + 1).toNat x k (by omega) (by omega) (by omega) d
    exact ⟨r, .alt hq hr⟩
   ·exact ⟨_, .alt (.meet (.rowZ (by omega)) (.meetZ (by omega))) (.altZ (by omega))⟩

/-! ### trees without nil -/
def Tr.solid : Tr → Prop
 | .none => False
 | .eps | .cls _ => True
 | .cat a b => a.solid ∧ b.solid
 | .alt a b => a.solid ∧ b.solid
 | .star a => a.solid
 | .and a b => a.solid ∧ b.solid
 | .minus a b => a.solid ∧ b.solid
theorem catN_solid {y : Tr} (hy : y.solid) : ∀ (k : Nat) {x : Tr}, x.solid → (catN x y k).solid
 | 0, _, hx => hx
 | k + 1, _, hx => catN_solid hy k ⟨hx, hy⟩
theorem timesT_solid {x : Tr} (h : x.solid) (m n : Int) : (timesT x m n).solid := by
 unfold timesT
 split
 ·exact h
 ·split
  ·exact trivial
  ·have h1 : (if m = 0 then Tr.alt x .eps else x).solid := by split <;> first | exact ⟨h, trivial⟩ | exact h
   have h2 := catN_solid h (m - 1).toNat h1
   simp only
   split
   ·exact ⟨h2, h⟩
   ·exact catN_solid (y := .alt x .eps) ⟨h, trivial⟩ _ h2
theorem bracesM_solid {t : List UInt8} {x y : Tr} {j k : Int} (h : bracesM t x j = .ok (y, k)) (hx : x.solid) : y.solid := by
 unfold bracesM at h
 split at h
 ·cases h
 ·split at h
  ·cases h
  ·split at h
   ·split at h
    ·cases h
    ·simp only [Except.ok.injEq, Prod.mk.injEq] at h
     rw [← h.1]; exact timesT_solid hx _ _
   ·cases h
theorem RP.solid {t : List UInt8} {x : Tr} {j : Int} {r : PRes} (h : RP t x j r) : x.solid → ∀ y k, r = .ok (y, k) → y.solid := by
 induction h with
 | zero => intro hx y k e; cases e; exact hx
 | one h1 h2 _ ih =>
  intro hx y k e
  refine ih ?_ y k e
  unfold postT
  split
  ·exact hx
  ·split
   ·exact ⟨hx, hx⟩
   ·exact ⟨hx, trivial⟩
 | brace h1 h2 h3 _ ih => intro hx y k e; exact ih (bracesM_solid h3 hx) y k e
 | braceE => intro hx y k e; cases e
def Md.solid : Md → Prop
 | .altL x => x.solid
 | .meetL x => x.solid
 | .row (some x) => x.solid
 | _ => True
theorem accT_solid {acc : Option Tr} {y : Tr} (h : (Md.row acc).solid) (hy : y.solid) : (Md.row (accT acc y)).solid := by
 cases acc with
 | none => exact hy
 | some x => exact ⟨h, hy⟩
theorem PR.solid {t : List UInt8} {m : Md} {d : Nat} {i : Int} {r : PRes} (h : PR t m d i r) : m.solid → ∀ y k, r = .ok (y, k) → y.solid := by
 induction h with
 | alt _ _ ih1 ih2 => intro _ y k e; exact ih2 (ih1 trivial _ _ rfl) y k e
 | altL _ _ _ _ ih1 ih2 => intro h y k e; exact ih2 ⟨h, ih1 trivial _ _ rfl⟩ y k e
 | «meet» _ _ ih1 ih2 => intro _ y k e; exact ih2 (ih1 trivial _ _ rfl) y k e
 | meetL h1 h2 _ _ ih1 ih2 =>
  intro h y k e
  refine ih2 ?_ y k e
  have := ih1 trivial _ _ rfl
  unfold andT
  show Tr.solid _
  split <;> exact ⟨h, this⟩
 | altZ _ => intro h y k e; cases e; exact h
 | meetZ _ => intro h y k e; cases e; exact h
 | @rowZ d acc j _ => intro h y k e; cases e; cases acc <;> first | exact trivial | exact h
 | rowC h1 h2 h3 h4 _ ih => intro h y k e; exact ih (accT_solid h (h4.solid trivial _ _ rfl)) y k e
 | rowP h1 h2 h3 _ h5 h6 _ ih1 ih2 => intro h y k e; exact ih2 (accT_solid h (h6.solid (ih1 trivial _ _ rfl) _ _ rfl)) y k e
 | _ => intro _ y k e; cases e
/-! ### errors have numbers -/
theorem readM_err {t : List UInt8} {j : Int} {s : CS} {k e p : Int} (h : readM t j = (s, k, e, p)) (hz : ¬ (e = 0 ∧ p = 0)) : 0 < e := by
 unfold readM at h
 split at h
 ·simp only [Prod.mk.injEq] at h; omega
 ·split at h
  ·simp only [Prod.mk.injEq] at h; omega
  ·simp only [Prod.mk.injEq] at h; omega
theorem numM_err {t : List UInt8} {j : Int} {e : Int × Int} (h : numM t j = .error e) : 0 < e.1 := by
 unfold numM at h
 split at h
 ·cases h; (simp only []; omega)
 ·cases h
theorem bracesM_err {t : List UInt8} {x : Tr} {j : Int} {e : Int × Int} (h : bracesM t x j = .error e) : 0 < e.1 := by
 unfold bracesM at h
 split at h
 ·rename_i hm; cases h; exact numM_err hm
 ·split at h
  ·rename_i hc
   cases h
   unfold comB at hc
   split at hc
   ·split at hc
    ·cases hc
    ·exact numM_err hc
   ·cases hc
  ·split at h
   ·split at h
    ·cases h; (simp only []; omega)
    ·cases h
   ·cases h; (simp only []; omega)
theorem RP.err {t : List UInt8} {x : Tr} {j : Int} {r : PRes} (h : RP t x j r) : ∀ e, r = .error e → 0 < e.1 := by
 induction h with
 | zero => intro e he; cases he
 | one _ _ _ ih => exact ih
 | brace _ _ _ _ ih => exact ih
 | braceE _ _ h3 => intro e he; cases he; exact bracesM_err h3
theorem PR.err {t : List UInt8} {m : Md} {d : Nat} {i : Int} {r : PRes} (h : PR t m d i r) : ∀ e, r = .error e → 0 < e.1 := by
 induction h with
 | alt _ _ _ ih => exact ih
 | altE _ ih => intro e he; cases he; exact ih _ rfl
 | altL _ _ _ _ _ ih => exact ih
 | altLE _ _ _ ih => intro e he; cases he; exact ih _ rfl
 | altZ => intro e he; cases he
 | «meet» _ _ _ ih => exact ih
 | meetE _ ih => intro e he; cases he; exact ih _ rfl
 | meetL _ _ _ _ _ ih => exact ih
 | meetLE _ _ _ ih => intro e he; cases he; exact ih _ rfl
 | meetZ => intro e he; cases he
 | rowZ => intro e he; cases he
 | rowB => intro e he; cases he; show (0 : Int) < 20; decide
 | rowC _ _ _ _ _ ih => exact ih
 | rowCR _ _ _ h4 => intro e he; cases he; exact h4.err _ rfl
 | rowCE _ _ h3 hz => intro e he; cases he; exact readM_err h3 hz
 | rowN => intro e he; cases he; show (0 : Int) < 23; decide
 | rowP _ _ _ _ _ _ _ _ ih => exact ih
 | rowPR _ _ _ _ _ h6 => intro e he; cases he; exact h6.err _ rfl
 | rowPE _ _ _ _ ih => intro e he; cases he; exact ih _ rfl
 | rowO => intro e he; cases he; show (0 : Int) < 21; decide

/-! ### what a text of an expression is -/
/-- What the whole text comes to, its length and its tree's size apart. -/
def TopR (t : List UInt8) (R : Except (Int × Int) Tr) : Prop := ∃ q, PR t .alt 0 0 q ∧ match q with
 | .error e => R = .error e
 | .ok (x, k) => if k < t.length then R = .error (20, k) else R = .ok x
theorem TopR.total (t : List UInt8) : ∃ R, TopR t R := by
 obtain ⟨q, hq⟩ := alt_total t (t.length + 1) 0 (by omega) (by omega) 0
 cases q with
 | error e => exact ⟨_, _, hq, rfl⟩
 | ok p =>
  obtain ⟨x, k⟩ := p
  by_cases hk : k < t.length
  ·exact ⟨.error (20, k), _, hq, by simp only [if_pos hk]⟩
  ·exact ⟨.ok x, _, hq, by simp only [if_neg hk]⟩
theorem TopR.det {t : List UInt8} {R R' : Except (Int × Int) Tr} (h : TopR t R) (h' : TopR t R') : R = R' := by
 obtain ⟨q, h1, h2⟩ := h
 obtain ⟨q', g1, g2⟩ := h'
 obtain rfl := h1.det g1
 cases q with
 | error e => rw [h2, g2]
 | ok p =>
  obtain ⟨x, k⟩ := p
  simp only at h2 g2
  split at h2
  ·rename_i hk; rw [if_pos hk] at g2; rw [h2, g2]
  ·rename_i hk; rw [if_neg hk] at g2; rw [h2, g2]
noncomputable def topT (t : List UInt8) : Except (Int × Int) Tr := Classical.choose (TopR.total t)
theorem topT_spec (t : List UInt8) : TopR t (topT t) := Classical.choose_spec (TopR.total t)
theorem topT_eq {t : List UInt8} {R : Except (Int × Int) Tr} (h : TopR t R) : topT t = R := (topT_spec t).det h
/-- The tree of a text, or the error's number and place. -/
noncomputable def parseT (t : List UInt8) : Except (Int × Int) Tr :=
 if 1048576 < t.length then .error (1, 0) else match topT t with
  | .error e => .error e
  | .ok x => if 2000 < x.size then .error (24, 0) else .ok x
noncomputable def treeT (t : List UInt8) : Tr := match parseT t with
 | .ok x => x
 | .error _ => .none
noncomputable def errT (t : List UInt8) : Int × Int := match parseT t with
 | .ok _ => (0, 0)
 | .error e => e
theorem parseT_ok {t : List UInt8} {x : Tr} (h : parseT t = .ok x) : t.length ≤ 1048576 ∧ x.size ≤ 2000 ∧ x.solid ∧ PR t .alt 0 0 (.ok (x, t.length)) := by
 unfold parseT at h
 split at h
 ·cases h
 ·rename_i hl
  split at h
  ·cases h
  ·rename_i y hy
   split at h
   ·cases h
   ·rename_i hz
    obtain rfl : y = x := by injection h
    obtain ⟨q, q1, q2⟩ := hy ▸ topT_spec t
    cases q with
    | error e => cases q2
    | ok p =>
     obtain ⟨z, k⟩ := p
     simp only at q2
     have hk := q1.ends (by omega) (by omega) _ _ rfl
     split at q2
     ·cases q2
     ·obtain rfl : y = z := by injection q2
      refine ⟨by omega, by omega, q1.solid trivial _ _ rfl, ?_⟩
      rw [show (t.length : Int) = k by omega]; exact q1
theorem parseT_err {t : List UInt8} {e : Int × Int} (h : parseT t = .error e) : 0 < e.1 := by
 unfold parseT at h
 split at h
 ·cases h; (simp only []; omega)
 ·split at h
  ·rename_i e' hy
   cases h
   obtain ⟨q, q1, q2⟩ := hy ▸ topT_spec t
   cases q with
   | error e2 => cases q2; exact q1.err _ rfl
   | ok p =>
    obtain ⟨z, k⟩ := p
    simp only at q2
    split at q2
    ·cases q2; (simp only []; omega)
    ·cases q2
  ·split at h
   ·cases h; (simp only []; omega)
   ·cases h
theorem errT_zero {t : List UInt8} (h : (errT t).1 = 0) : ∃ x, parseT t = .ok x ∧ treeT t = x := by
 unfold errT at h
 unfold treeT
 cases hp : parseT t with
 | ok x => exact ⟨x, rfl, rfl⟩
 | error e => rw [hp] at h; have := parseT_err hp; simp only at h; omega
theorem errT_ok {t : List UInt8} {x : Tr} (h : parseT t = .ok x) : errT t = (0, 0) ∧ treeT t = x := by
 unfold errT treeT; rw [h]; exact ⟨rfl, rfl⟩
end Go.Proofs.YtohnchdnkbadaaaDoor
namespace Go.Proofs.YtohnchdnkbadaaaDoor
open Go Go.RowKit

/-! ### the document's nodes and frames -/
abbrev ND := Int × (Nat → Bool) × Int × Int × Int × Int
def ndZ : ND := (0, fun _ => false, 0, 0, 0, 0)
def ndC (d : ND) : List Value := [Value.int .i64 d.1] ++ arr 256 (fun j => Value.bool (d.2.1 j)) ++ [Value.int .i64 d.2.2.1, Value.int .i64 d.2.2.2.1, Value.int .i64 d.2.2.2.2.1, Value.int .i64 d.2.2.2.2.2]
theorem ndC_len (d : ND) : (ndC d).length = 261 := by simp [ndC, arr_length]
theorem ndC_0 (d : ND) : (ndC d)[0]? = some (.int .i64 d.1) := rfl
theorem ndC_tail (d : ND) (k : Nat) : (ndC d)[257 + k]? = ([Value.int .i64 d.2.2.1, Value.int .i64 d.2.2.2.1, Value.int .i64 d.2.2.2.2.1, Value.int .i64 d.2.2.2.2.2] : List Value)[k]? := by
 unfold ndC
 rw [List.getElem?_append_right (by simp [arr_length])]
 simp [arr_length]
theorem ndC_257 (d : ND) : (ndC d)[257]? = some (.int .i64 d.2.2.1) := ndC_tail d 0
theorem ndC_258 (d : ND) : (ndC d)[258]? = some (.int .i64 d.2.2.2.1) := ndC_tail d 1
theorem ndC_259 (d : ND) : (ndC d)[259]? = some (.int .i64 d.2.2.2.2.1) := ndC_tail d 2
theorem ndC_260 (d : ND) : (ndC d)[260]? = some (.int .i64 d.2.2.2.2.2) := ndC_tail d 3
theorem ndC_set (d : ND) : ((ndC d).drop 1).take (arr 256 (fun j => Value.bool (d.2.1 j))).length = arr 256 (fun j => Value.bool (d.2.1 j)) := by
 rw [arr_length]
 show (arr 256 (fun j => Value.bool (d.2.1 j)) ++ _).take 256 = _
 exact List.take_left' (arr_length _ _)
theorem ndC_one (d : ND) : (ndC d).all (·.oneCell') = true := by
 unfold ndC
 rw [List.all_append, List.all_append]
 simp [arr, Value.oneCell']
theorem flat_one {α : Type} (f : α → List Value) (x : α) : f x = [x].flatMap f := by simp
abbrev FR := Int × Int × Int × Int × Int × Int
def frC (f : FR) : List Value := [Value.int .i64 f.1, Value.int .i64 f.2.1, Value.int .i64 f.2.2.1, Value.int .u8 f.2.2.2.1, Value.int .i64 f.2.2.2.2.1, Value.int .i64 f.2.2.2.2.2]
theorem frC_len (f : FR) : (frC f).length = 6 := rfl
def nd (n : List ND) (i : Int) : ND := n.getD i.toNat default
def binT (op : Int) (x y : Tr) : Tr := if op = 2 then .cat x y else if op = 3 then .alt x y else if op = 5 then .and x y else .minus x y
def repT (x : Tr) (m k : Int) : Tr := if m = -2 then timesT x 1 (-1) else timesT x m k
def RepB (m k : Int) : Prop := (m = -2 ∧ k = -1) ∨ (0 ≤ m ∧ m ≤ 255 ∧ -1 ≤ k ∧ k ≤ 255 ∧ (k < 0 ∨ m ≤ k))
/-- The node at a place stands for a tree. -/
inductive Den (n : List ND) : Int → Tr → Prop
 | eps {i : Int} : 0 ≤ i → i < n.length → (nd n i).1 = 0 → (∀ j, j < 256 → (nd n i).2.1 j = false) → Den n i .eps
 | cls {i : Int} {s : CS} : 0 ≤ i → i < n.length → (nd n i).1 = 1 → (∀ j, j < 256 → (nd n i).2.1 j = s.getLsbD j) → Den n i (.cls s)
 | bin {i op : Int} {x y : Tr} : 0 ≤ i → i < n.length → (nd n i).1 = op → op = 2 ∨ op = 3 ∨ op = 5 ∨ op = 6 → (nd n i).2.2.1 < i → (nd n i).2.2.2.1 < i → Den n (nd n i).2.2.1 x → Den n (nd n i).2.2.2.1 y → Den n i (binT op x y)
 | star {i : Int} {x : Tr} : 0 ≤ i → i < n.length → (nd n i).1 = 4 → (nd n i).2.2.1 < i → Den n (nd n i).2.2.1 x → Den n i (.star x)
 | rep {i : Int} {x : Tr} : 0 ≤ i → i < n.length → (nd n i).1 = 7 → (nd n i).2.2.1 < i → RepB (nd n i).2.2.2.2.1 (nd n i).2.2.2.2.2 → Den n (nd n i).2.2.1 x → Den n i (repT x (nd n i).2.2.2.2.1 (nd n i).2.2.2.2.2)
theorem Den.lt {n : List ND} {i : Int} {x : Tr} (h : Den n i x) : 0 ≤ i ∧ i < n.length := by cases h <;> exact ⟨by assumption, by assumption⟩
theorem nd_more {n : List ND} (l : List ND) {i : Int} (h0 : 0 ≤ i) (h : i < n.length) : nd (n ++ l) i = nd n i := by
 unfold nd
 rw [List.getD_eq_getElem?_getD, List.getD_eq_getElem?_getD, List.getElem?_append_left (by omega)]
theorem nd_last (n : List ND) (d : ND) : nd (n ++ [d]) n.length = d := by
 unfold nd; simp [List.getD_eq_getElem?_getD]
theorem Den.more {n : List ND} (l : List ND) {i : Int} {x : Tr} (h : Den n i x) : Den (n ++ l) i x := by
 induction h with
 | eps h0 h1 h2 h3 => exact .eps h0 (by simp; omega) (by rw [nd_more l h0 h1]; exact h2) (by rw [nd_more l h0 h1]; exact h3)
 | cls h0 h1 h2 h3 => exact .cls h0 (by simp; omega) (by rw [nd_more l h0 h1]; exact h2) (by rw [nd_more l h0 h1]; exact h3)
 | bin h0 h1 h2 h3 h4 h5 _ _ ih1 ih2 => have e := nd_more l h0 h1; exact .bin h0 (by simp; omega) (by rw [e]; exact h2) h3 (by rw [e]; exact h4) (by rw [e]; exact h5) (by rw [e]; exact ih1) (by rw [e]; exact ih2)
 | star h0 h1 h2 h3 _ ih => have e := nd_more l h0 h1; exact .star h0 (by simp; omega) (by rw [e]; exact h2) (by rw [e]; exact h3) (by rw [e]; exact ih)
 | rep h0 h1 h2 h3 h4 _ ih => have e := nd_more l h0 h1; rw [← e]; exact .rep h0 (by simp; omega) (by rw [e]; exact h2) (by rw [e]; exact h3) (by rw [e]; exact h4) (by rw [e]; exact ih)
theorem den_eps (n : List ND) : Den (n ++ [(0, fun _ => false, 0, 0, 0, 0)]) n.length .eps := .eps (by omega) (by simp; omega) (by rw [nd_last]) (by rw [nd_last]; exact fun _ _ => rfl)
theorem den_cls (n : List ND) {f : Nat → Bool} {s : CS} (h : ∀ j, j < 256 → f j = s.getLsbD j) : Den (n ++ [(1, f, 0, 0, 0, 0)]) n.length (.cls s) := .cls (by omega) (by simp; omega) (by rw [nd_last]) (by rw [nd_last]; exact h)
theorem den_bin {n : List ND} {op a b : Int} {x y : Tr} (ho : op = 2 ∨ op = 3 ∨ op = 5 ∨ op = 6) (hx : Den n a x) (hy : Den n b y) : Den (n ++ [(op, fun _ => false, a, b, 0, 0)]) n.length (binT op x y) := by
 have e := nd_last n (op, fun _ => false, a, b, 0, 0)
 exact .bin (by omega) (by simp; omega) (by rw [e]) ho (by rw [e]; exact hx.lt.2) (by rw [e]; exact hy.lt.2) (by rw [e]; exact hx.more _) (by rw [e]; exact hy.more _)
theorem den_rep {n : List ND} {a m k : Int} {x : Tr} (hb : RepB m k) (hx : Den n a x) : Den (n ++ [(7, fun _ => false, a, 0, m, k)]) n.length (repT x m k) := by
 have e := nd_last n (7, fun _ => false, a, 0, m, k)
 have := Den.rep (n := n ++ [(7, fun _ => false, a, 0, m, k)]) (i := n.length) (x := x) (by omega) (by simp; omega) (by rw [e]) (by rw [e]; exact hx.lt.2) (by rw [e]; exact hb) (by rw [e]; exact hx.more _)
 rw [e] at this; exact this
def NOK (n : List ND) : Prop := ∀ i : Int, 0 ≤ i → i < n.length → (nd n i).1 ≠ 4 ∧ ∃ x, Den n i x
theorem NOK.snoc {n : List ND} {d : ND} {x : Tr} (h : NOK n) (hx : Den (n ++ [d]) n.length x) (h4 : d.1 ≠ 4 := by first | decide | (simp only []; omega)) : NOK (n ++ [d]) := fun i h0 h1 => by
 by_cases hi : i < n.length
 ·obtain ⟨y0, y, hy⟩ := h i h0 hi; exact ⟨by rw [nd_more _ h0 hi]; exact y0, y, hy.more _⟩
 ·have : i = n.length := by simp at h1; omega
  rw [this]; exact ⟨by rw [nd_last]; exact h4, x, hx⟩
theorem binT_size (op : Int) (x y : Tr) : (binT op x y).size = 1 + x.size + y.size := by
 unfold binT
 split
 ·rfl
 ·split
  ·rfl
  ·split <;> rfl
theorem Den.det {n : List ND} {i : Int} {x : Tr} (h : Den n i x) : ∀ {y : Tr}, Den n i y → x = y := by
 induction h with
 | eps _ _ h2 =>
  intro y h'
  cases h' with
  | eps => rfl
  | cls _ _ g2 => omega
  | bin _ _ g2 g3 => omega
  | star _ _ g2 => omega
  | rep _ _ g2 => omega
 | cls _ _ h2 h3 =>
  intro y h'
  cases h' with
  | eps _ _ g2 => omega
  | cls _ _ _ g3 =>
   congr 1
   apply BitVec.eq_of_getLsbD_eq
   intro j hj
   rw [← h3 j hj, g3 j hj]
  | bin _ _ g2 g3 => omega
  | star _ _ g2 => omega
  | rep _ _ g2 => omega
 | bin _ _ h2 h3 _ _ _ _ ih1 ih2 =>
  intro y h'
  cases h' with
  | eps _ _ g2 => omega
  | cls _ _ g2 => omega
  | bin _ _ g2 _ _ _ g6 g7 => rw [ih1 g6, ih2 g7, ← h2, ← g2]
  | star _ _ g2 => omega
  | rep _ _ g2 => omega
 | star _ _ h2 _ _ ih =>
  intro y h'
  cases h' with
  | eps _ _ g2 => omega
  | cls _ _ g2 => omega
  | bin _ _ g2 g3 => omega
  | star _ _ _ _ g4 => rw [ih g4]
  | rep _ _ g2 => omega
 | rep _ _ h2 _ _ _ ih =>
  intro y h'
  cases h' with
  | eps _ _ g2 => omega
  | cls _ _ g2 => omega
  | bin _ _ g2 g3 => omega
  | star _ _ g2 => omega
  | rep _ _ _ _ _ g5 => rw [ih g5]
def IxR (n : List ND) (i : Int) : Option Tr → Prop
 | none => i = -1
 | some x => Den n i x
theorem IxR.more {n : List ND} (l : List ND) {i : Int} {o : Option Tr} (h : IxR n i o) : IxR (n ++ l) i o := by
 cases o with
 | none => exact h
 | some x => exact Den.more l h
theorem IxR.neg {n : List ND} {i : Int} {o : Option Tr} (h : IxR n i o) (hi : i < 0) : o = none ∧ i = -1 := by
 cases o with
 | none => exact ⟨rfl, h⟩
 | some x => have := Den.lt h; omega
theorem IxR.pos {n : List ND} {i : Int} {o : Option Tr} (h : IxR n i o) (hi : ¬ i < 0) : ∃ x, o = some x ∧ Den n i x := by
 cases o with
 | none => have : i = -1 := h; omega
 | some x => exact ⟨x, rfl, h⟩
def FrR (n : List ND) (f : FR) (a : AF) : Prop := f.1 = a.place ∧ IxR n f.2.1 a.alt ∧ IxR n f.2.2.1 a.meet ∧ f.2.2.2.1 = a.sign ∧ IxR n f.2.2.2.2.1 a.row ∧ IxR n f.2.2.2.2.2 a.fac
theorem FrR.more {n : List ND} (l : List ND) {f : FR} {a : AF} (h : FrR n f a) : FrR (n ++ l) f a := ⟨h.1, h.2.1.more l, h.2.2.1.more l, h.2.2.2.1, h.2.2.2.2.1.more l, h.2.2.2.2.2.more l⟩
def FRel (n : List ND) : List FR → List AF → Prop
 | [], [] => True
 | f :: fs, a :: cs => FrR n f a ∧ FRel n fs cs
 | _, _ => False
theorem FRel.more {n : List ND} (l : List ND) : ∀ {fs : List FR} {cs : List AF}, FRel n fs cs → FRel (n ++ l) fs cs
 | [], [], _ => trivial
 | _ :: _, _ :: _, h => ⟨h.1.more l, h.2.more l⟩
 | [], _ :: _, h => h.elim
 | _ :: _, [], h => h.elim
/-- The frames, the last one first. -/
def SRel (n : List ND) (s : List FR) (cs : List AF) : Prop := FRel n s.reverse cs
theorem SRel.snoc {n : List ND} {pre : List FR} {f : FR} {a : AF} {rest : List AF} : SRel n (pre ++ [f]) (a :: rest) ↔ FrR n f a ∧ SRel n pre rest := by
 unfold SRel; rw [List.reverse_append]; exact Iff.rfl
theorem SRel.len {n : List ND} : ∀ {fs : List FR} {cs : List AF}, FRel n fs cs → fs.length = cs.length
 | [], [], _ => rfl
 | _ :: _, _ :: _, h => by simp [SRel.len h.2]
 | [], _ :: _, h => h.elim
 | _ :: _, [], h => h.elim
theorem last_form {α : Type} {s : List α} (h : 0 < s.length) : ∃ pre f, s = pre ++ [f] := by
 cases hr : s.reverse with
 | nil => have := congrArg List.length hr; simp at this; subst this; simp at h
 | cons a r => exact ⟨r.reverse, a, by rw [← List.reverse_reverse s, hr]; simp⟩
theorem last_ix {α : Type} (pre : List α) (f : α) : ((((pre ++ [f]).length : Int) - 1)).toNat = pre.length := by simp
theorem getD_last {α : Type} [Inhabited α] (pre : List α) (f : α) : (pre ++ [f]).getD pre.length default = f := by simp [List.getD_eq_getElem?_getD]
theorem set_last {α : Type} (pre : List α) (f g : α) : (pre ++ [f]).set pre.length g = pre ++ [g] := by simp
end Go.Proofs.YtohnchdnkbadaaaDoor
