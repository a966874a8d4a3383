/-
  Read: its closure, its condition, its contract.
-/
import Derived.Test.YtkjnhjhkaaampaaDoorRdV3
import Derived.Test.YtkjnhjhkaaampaaDoorGwd
namespace Go.Proofs.YtkjnhjhkaaampaaDoor
open Go Go.RowKit

theorem tf_size_34 : sizeB Tryd.prog 34 3 = true := by kernel_rfl
theorem tf_zero_3 : zeroB Tryd.prog 3 = some [Value.int .i64 0] := by kernel_rfl
theorem tf_zero_34 : zeroB Tryd.prog 34 = some [Value.int .i64 0, Value.int .i64 0, st []] := by kernel_rfl
theorem tf_row_34 : RowT Tryd.prog 34 3 := ⟨by kernel_rfl, by kernel_rfl⟩
theorem tf_ent_24 : entB Tryd.prog 24 = true := by kernel_rfl
theorem tf_ent_23 : entB Tryd.prog 23 = true := by kernel_rfl

def readcr_vc (c : CS) (c_1' : Int) (c_2'_0 : Int) (c_2'_1 : Int) (c_2'_2 : List UInt8) (K : CS → Int → Int → Int → (List UInt8) → Prop) : Prop :=
  K c c_1' c_2'_0 c_2'_1 c_2'_2
set_option maxRecDepth 100000 in
theorem readcr_wp (b : Nat) (b_1' : Nat) (b_2' : Nat) (c : CS) (c_1' : Int) (c_2'_0 : Int) (c_2'_1 : Int) (c_2'_2 : List UInt8) (K : CS → Int → Int → Int → (List UInt8) → Prop) (h : readcr_vc c c_1' c_2'_0 c_2'_1 c_2'_2 K) :
    DoesD Tryd.prog 23 [Value.pointer (some ⟨b, 0, none⟩), Value.pointer (some ⟨b_1', 0, none⟩), Value.pointer (some ⟨b_2', 0, none⟩)] (.returning) (.returning) [] [HA.blk b (.cells (wl c).toArray 26 (0, 0)), HA.blk b_1' (.cells [Value.int .i64 c_1'].toArray 3 (0, 0)), HA.blk b_2' (.cells [Value.int .i64 c_2'_0, Value.int .i64 c_2'_1, st c_2'_2].toArray 34 (0, 0))] (fun o => (∃ (d : CS) (d_1' : Int) (d_2'_0 : Int) (d_2'_1 : Int) (d_2'_2 : List UInt8), K d d_1' d_2'_0 d_2'_1 d_2'_2 ∧ o = .ret (Value.tuple #[]) [HA.blk b (.cells (wl d).toArray 26 (0, 0)), HA.blk b_1' (.cells [Value.int .i64 d_1'].toArray 3 (0, 0)), HA.blk b_2' (.cells [Value.int .i64 d_2'_0, Value.int .i64 d_2'_1, st d_2'_2].toArray 34 (0, 0))]) ∨ (False)) := by
  unfold readcr_vc at h
  refine doesD_rec (n := 10) (L0 := [(0, Value.pointer (some ⟨b, 0, none⟩)), (1, Value.pointer (some ⟨b_1', 0, none⟩)), (2, Value.pointer (some ⟨b_2', 0, none⟩))]) (v := Value.nilIface) Tryd.func23 rfl rfl rfl rfl rfl rfl (.inl ⟨rfl, rfl, rfl⟩) (fun w0 M Q hE => ?_)
  refine wc_seq (fun K0 hK => ?_)
  refine wc_region ?_
  refine WL.val (OV.move rfl) rfl rfl rfl ?_
  refine WL.val (OV.neqNil0 rfl Tryd.underlying20) rfl rfl rfl ?_
  refine WL.nil ?_
  refine KX.go (hK [(0, Value.pointer (some ⟨b, 0, none⟩)), (1, Value.pointer (some ⟨b_1', 0, none⟩)), (2, Value.pointer (some ⟨b_2', 0, none⟩)), (3, Value.nilIface), (6, Value.bool false)] _ ?_) ⟨rfl, rfl, rfl, rfl, rfl, trivial⟩
  refine wc_condF rfl ?_
  refine wc_skip ?_
  exact hE.norm [0, 1, 2] rfl rfl (.inl ⟨_, _, _, _, _, h, rfl⟩) (ResV.none rfl)

def readcp_vc (_ : CS) (_ : Int) (_ : Int) (_ : Int) (_ : List UInt8) (fc : Int) (fa : Int) (ft : List UInt8) (K : CS → Int → Int → Int → (List UInt8) → Prop) : Prop :=
  K cs0 0 fc fa ft
set_option maxRecDepth 100000 in
theorem readcp_wp (b : Nat) (b_1' : Nat) (b_2' : Nat) (c : CS) (c_1' : Int) (c_2'_0 : Int) (c_2'_1 : Int) (c_2'_2 : List UInt8) (fc : Int) (fa : Int) (ft : List UInt8) (K : CS → Int → Int → Int → (List UInt8) → Prop) (h : readcp_vc c c_1' c_2'_0 c_2'_1 c_2'_2 fc fa ft K) :
    DoesD Tryd.prog 23 [Value.pointer (some ⟨b, 0, none⟩), Value.pointer (some ⟨b_1', 0, none⟩), Value.pointer (some ⟨b_2', 0, none⟩)] (.panicking [{ v := Value.iface 34 (Value.agg [Value.int .i64 fc, Value.int .i64 fa, st ft].toArray), recovered := false }]) (.panicking [{ v := Value.iface 34 (Value.agg [Value.int .i64 fc, Value.int .i64 fa, st ft].toArray), recovered := true }]) [] [HA.blk b (.cells (wl c).toArray 26 (0, 0)), HA.blk b_1' (.cells [Value.int .i64 c_1'].toArray 3 (0, 0)), HA.blk b_2' (.cells [Value.int .i64 c_2'_0, Value.int .i64 c_2'_1, st c_2'_2].toArray 34 (0, 0))] (fun o => (∃ (d : CS) (d_1' : Int) (d_2'_0 : Int) (d_2'_1 : Int) (d_2'_2 : List UInt8), K d d_1' d_2'_0 d_2'_1 d_2'_2 ∧ o = .ret (Value.tuple #[]) [HA.blk b (.cells (wl d).toArray 26 (0, 0)), HA.blk b_1' (.cells [Value.int .i64 d_1'].toArray 3 (0, 0)), HA.blk b_2' (.cells [Value.int .i64 d_2'_0, Value.int .i64 d_2'_1, st d_2'_2].toArray 34 (0, 0))]) ∨ (False)) := by
  unfold readcp_vc at h
  refine doesD_rec (n := 10) (L0 := [(0, Value.pointer (some ⟨b, 0, none⟩)), (1, Value.pointer (some ⟨b_1', 0, none⟩)), (2, Value.pointer (some ⟨b_2', 0, none⟩))]) (v := Value.iface 34 (Value.agg [Value.int .i64 fc, Value.int .i64 fa, st ft].toArray)) Tryd.func23 rfl rfl rfl rfl rfl rfl (.inr ⟨_, rfl, rfl, rfl⟩) (fun w0 M Q hE => ?_)
  refine wc_seq (fun K0 hK => ?_)
  refine wc_region ?_
  refine WL.val (OV.move rfl) rfl rfl rfl ?_
  refine WL.val (OV.neqNil rfl rfl Tryd.underlying20) rfl rfl rfl ?_
  refine WL.nil ?_
  refine KX.go (hK [(0, Value.pointer (some ⟨b, 0, none⟩)), (1, Value.pointer (some ⟨b_1', 0, none⟩)), (2, Value.pointer (some ⟨b_2', 0, none⟩)), (3, Value.iface 34 (Value.agg [Value.int .i64 fc, Value.int .i64 fa, st ft].toArray)), (6, Value.bool true)] _ ?_) ⟨rfl, rfl, rfl, rfl, rfl, trivial⟩
  refine wc_condT rfl ?_
  refine wc_drawT 3 [] [] rfl rfl tf_mixed (by kernel_rfl) (fun T hT => ?_)
  refine TW.val (OV.build rfl (cs := [Value.int .u64 0, Value.int .u64 0, Value.int .u64 0, Value.int .u64 0]) rfl) rfl rfl rfl ?_
  refine TW.val (OV.move rfl) rfl rfl rfl ?_
  refine TW.val (OV.assertIs rfl Tryd.underlying34 rfl) rfl rfl rfl ?_
  refine TW.nil (hT _ ?_)
  refine WLK.op [] rfl rfl (OpK.storeW (vs := [Value.int .u64 0, Value.int .u64 0, Value.int .u64 0, Value.int .u64 0]) 0 rfl rfl rfl rfl rfl tf_size_26 rfl rfl) rfl ?_
  refine WLK.op [] rfl rfl (OpK.store (vs := [Value.int .i64 0]) (cs' := [Value.int .i64 0]) 1 rfl rfl rfl rfl tf_size_3 (Nat.le_of_ble_eq_true rfl) rfl rfl) rfl ?_
  refine WLK.op [] rfl rfl (OpK.storeW (vs := [Value.int .i64 fc, Value.int .i64 fa, st ft]) 2 rfl rfl rfl rfl rfl tf_size_34 rfl rfl) rfl ?_
  refine WLK.nil ?_
  exact hE.norm [0, 1, 2] rfl rfl (.inl ⟨_, _, _, _, _, h, rfl⟩) (ResV.none rfl)

abbrev resBlks (b b1 b2 : Nat) (c : CS) (n x y : Int) (z : List UInt8) : List HA :=
  [.blk b (.cells (wl c).toArray 26 (0, 0)), .blk b1 (.cells [Value.int .i64 n].toArray 3 (0, 0)), .blk b2 (.cells [Value.int .i64 x, Value.int .i64 y, st z].toArray 34 (0, 0))]
theorem readc_ret (b b1 b2 : Nat) (c : CS) (n x y : Int) (z : List UInt8) : DoesD Tryd.prog 23 [.pointer (some ⟨b, 0, none⟩), .pointer (some ⟨b1, 0, none⟩), .pointer (some ⟨b2, 0, none⟩)] .returning .returning [] (resBlks b b1 b2 c n x y z) (Ret (.tuple #[]) (resBlks b b1 b2 c n x y z)) := by
  refine (readcr_wp b b1 b2 c n x y z (fun c' n' x' y' z' => c' = c ∧ n' = n ∧ x' = x ∧ y' = y ∧ z' = z) ?_).weak ?_
  · unfold readcr_vc; exact ⟨rfl, rfl, rfl, rfl, rfl⟩
  · rintro o (⟨c', n', x', y', z', ⟨rfl, rfl, rfl, rfl, rfl⟩, rfl⟩ | h)
    · rfl
    · exact h.elim
theorem readc_pan (b b1 b2 : Nat) (c : CS) (n x y : Int) (z : List UInt8) (fc fa : Int) (ft : List UInt8) : DoesD Tryd.prog 23 [.pointer (some ⟨b, 0, none⟩), .pointer (some ⟨b1, 0, none⟩), .pointer (some ⟨b2, 0, none⟩)]
    (.panicking [{ v := .iface 34 (.agg [.int .i64 fc, .int .i64 fa, st ft].toArray), recovered := false }]) (.panicking [{ v := .iface 34 (.agg [.int .i64 fc, .int .i64 fa, st ft].toArray), recovered := true }]) [] (resBlks b b1 b2 c n x y z) (Ret (.tuple #[]) (resBlks b b1 b2 cs0 0 fc fa ft)) := by
  refine (readcp_wp b b1 b2 c n x y z fc fa ft (fun c' n' x' y' z' => c' = cs0 ∧ n' = 0 ∧ x' = fc ∧ y' = fa ∧ z' = ft) ?_).weak ?_
  · unfold readcp_vc; exact ⟨rfl, rfl, rfl, rfl, rfl⟩
  · rintro o (⟨c', n', x', y', z', ⟨rfl, rfl, rfl, rfl, rfl⟩, rfl⟩ | h)
    · rfl
    · exact h.elim

def read_vc (text : List UInt8) (at0 : Int) (K : CS → Int → Int → Int → (List UInt8) → Prop) : Prop :=
  (if ((decide (at0 < 0)) || (decide ((text.length : Int) ≤ at0))) = true then
    K cs0 0 2 0 []
  else
    (0 ≤ at0 ∧ at0 < text.length ∧ text.length ≤ 9223372036854775807) ∧
    (∀ (r : CS) (at0_1' : Int), itemM text at0 = .ok (r, at0_1') →
      K r at0_1' 0 0 []) ∧
    (∀ (e : Int) (_at0_2' : Int), itemM text at0 = .error e →
      K cs0 0 10 e []))
set_option maxRecDepth 100000 in
theorem read_wp (te : TypeId) (fre : Nat × Nat) (text : List UInt8) (at0 : Int) (K : CS → Int → Int → Int → (List UInt8) → Prop) (h : read_vc text at0 K) :
    Does Tryd.prog 11 [st text, Value.int .i64 at0] [(0, .cells [Value.int .u8 110, Value.int .u8 10, Value.int .u8 114, Value.int .u8 13, Value.int .u8 116, Value.int .u8 9].toArray te fre)] [] (fun o => (∃ (v : CS) (v_1' : Int) (v_2'_0 : Int) (v_2'_1 : Int) (v_2'_2 : List UInt8), K v v_1' v_2'_0 v_2'_1 v_2'_2 ∧ o = .ret (Value.tuple #[Value.agg (wl v).toArray, Value.int .i64 v_1', Value.agg [Value.int .i64 v_2'_0, Value.int .i64 v_2'_1, st v_2'_2].toArray]) []) ∨ (False)) := by
  unfold read_vc at h
  refine does_of_wcD (n := 31) (L0 := [(0, st text), (1, Value.int .i64 at0)]) Tryd.func11 rfl rfl rfl rfl (fun w0 M Q hE => ?_)
  refine wc_seq (fun K0 hK => ?_)
  refine wc_region ?_
  refine WL.make (MV.alloc tf_zero_26) rfl rfl rfl (fun b => ?_)
  refine WL.make (MV.alloc tf_zero_3) rfl rfl rfl (fun b_1' => ?_)
  refine WL.make (MV.alloc tf_zero_34) rfl rfl rfl (fun b_2' => ?_)
  refine WL.nil ?_
  refine KX.go (hK [(0, st text), (1, Value.int .i64 at0), (4, Value.pointer (some ⟨b, 0, none⟩)), (5, Value.pointer (some ⟨b_1', 0, none⟩)), (6, Value.pointer (some ⟨b_2', 0, none⟩))] _ ?_) ⟨rfl, rfl, rfl, rfl, rfl, trivial⟩
  refine wc_seq (fun K0_1' hK_1' => ?_)
  refine wc_seq (fun K0_2' hK_2' => ?_)
  refine wc_region ?_
  refine WL.val (OV.move rfl) rfl rfl rfl ?_
  refine WL.val (OV.lss rfl rfl) rfl rfl rfl ?_
  refine WL.val (OV.move rfl) rfl rfl rfl ?_
  refine WL.cut 5 [(0, st text), (1, Value.int .i64 at0), (4, Value.pointer (some ⟨b, 0, none⟩)), (5, Value.pointer (some ⟨b_1', 0, none⟩)), (6, Value.pointer (some ⟨b_2', 0, none⟩)), (15, Value.bool ((decide (at0 < 0)) || (decide ((text.length : Int) ≤ at0))))] ?_ (fun K0_3' hK_3' => ?_)
  rotate_left
  · refine WL.split (decide (at0 < 0)) (fun hb => ?_) (fun hb => ?_)
    · refine WL.set 10 rfl (congrArg Value.bool hb) ?_
      refine WL.skip rfl rfl rfl ?_
      refine WL.skip rfl rfl rfl ?_
      refine WL.skip rfl rfl rfl ?_
      refine WL.skip rfl rfl rfl ?_
      refine WL.val (OV.pickT rfl rfl) rfl rfl rfl ?_
      refine WL.set 15 rfl (oT (v := decide ((text.length : Int) ≤ at0)) hb) ?_
      exact WL.end_ (KX.go hK_3' ⟨rfl, rfl, rfl, rfl, rfl, rfl, trivial⟩)
    · refine WL.set 10 rfl (congrArg Value.bool hb) ?_
      refine WL.val (OV.move rfl) rfl rfl rfl ?_
      refine WL.val (OV.move rfl) rfl rfl rfl ?_
      refine WL.val (OV.len rfl tf_str_9) rfl rfl rfl ?_
      refine WL.val (OV.geq rfl rfl) rfl rfl rfl ?_
      refine WL.val (OV.pickF rfl rfl) rfl rfl rfl ?_
      refine WL.set 15 rfl (oF (v := decide ((text.length : Int) ≤ at0)) hb) ?_
      exact WL.end_ (KX.go hK_3' ⟨rfl, rfl, rfl, rfl, rfl, rfl, trivial⟩)
  refine WL.nil ?_
  refine KX.go (hK_2' [(0, st text), (1, Value.int .i64 at0), (4, Value.pointer (some ⟨b, 0, none⟩)), (5, Value.pointer (some ⟨b_1', 0, none⟩)), (6, Value.pointer (some ⟨b_2', 0, none⟩)), (15, Value.bool ((decide (at0 < 0)) || (decide ((text.length : Int) ≤ at0))))] _ ?_) ⟨rfl, rfl, rfl, rfl, rfl, rfl, trivial⟩
  refine wc_cond (b := (decide (at0 < 0)) || (decide ((text.length : Int) ≤ at0))) rfl (fun hb => ?_) (fun hb => ?_)
  · replace h := if_T h hb
    refine wc_seq (fun K0_4' hK_4' => ?_)
    refine wc_region ?_
    refine WL.val (OV.build rfl (cs := [Value.int .u64 0, Value.int .u64 0, Value.int .u64 0, Value.int .u64 0]) rfl) rfl rfl rfl ?_
    refine WL.val (OV.build rfl (cs := [Value.int .i64 2, Value.int .i64 0, st []]) rfl) rfl rfl rfl ?_
    refine WL.storeW (vs := [Value.int .u64 0, Value.int .u64 0, Value.int .u64 0, Value.int .u64 0]) 2 rfl rfl rfl rfl rfl tf_size_26 rfl rfl rfl ?_
    refine WL.store (vs := [Value.int .i64 0]) (cs' := [Value.int .i64 0]) 1 rfl rfl rfl rfl tf_size_3 (Nat.le_of_ble_eq_true rfl) rfl rfl rfl ?_
    refine WL.storeW (vs := [Value.int .i64 2, Value.int .i64 0, st []]) 0 rfl rfl rfl rfl rfl tf_size_34 rfl rfl rfl ?_
    refine WL.nil ?_
    refine KX.go (hK_4' [(4, Value.pointer (some ⟨b, 0, none⟩)), (5, Value.pointer (some ⟨b_1', 0, none⟩)), (6, Value.pointer (some ⟨b_2', 0, none⟩))] _ ?_) ⟨rfl, rfl, rfl, trivial⟩
    refine wc_ret ?_
    exact hE.ret (leaves0 [] rfl rfl (.inl ⟨_, _, _, _, _, h, rfl⟩) (ResV.of3 rfl (RV.row rfl (At.own 2 rfl) tf_row_26) (RV.cell rfl (At.own 1 rfl) rfl tf_scal_3) (RV.row rfl (At.own 0 rfl) tf_row_34)))
  · replace h := if_F h hb
    refine wc_skip ?_
    refine KX.go (hK_1' [(0, st text), (1, Value.int .i64 at0), (4, Value.pointer (some ⟨b, 0, none⟩)), (5, Value.pointer (some ⟨b_1', 0, none⟩)), (6, Value.pointer (some ⟨b_2', 0, none⟩))] _ ?_) ⟨rfl, rfl, rfl, rfl, rfl, trivial⟩
    refine wc_seqC (fun K0_5' hK_5' => ?_)
    refine wc_region ?_
    refine WL.val (OV.makeFunc rfl) rfl rfl rfl ?_
    refine WL.defer rfl rfl ?_
    refine WL.nil ?_
    refine KX.go (hK_5' _ [(0, st text), (1, Value.int .i64 at0), (4, Value.pointer (some ⟨b, 0, none⟩)), (5, Value.pointer (some ⟨b_1', 0, none⟩)), (6, Value.pointer (some ⟨b_2', 0, none⟩))] _ ?_) ⟨rfl, rfl, rfl, rfl, rfl, trivial⟩
    refine wc_seq (fun K0_6' hK_6' => ?_)
    refine wc_region ?_
    refine WL.val (OV.move rfl) rfl rfl rfl ?_
    refine WL.val (OV.move rfl) rfl rfl rfl ?_
    refine WL.val (OV.build rfl (cs := [st text, Value.int .i64 at0]) rfl) rfl rfl rfl ?_
    refine WL.make (MV.box (cs := [st text, Value.int .i64 at0]) rfl rfl) rfl rfl rfl (fun b_3' => ?_)
    refine WL.val (OV.assign rfl) rfl rfl rfl ?_
    refine WL.nil ?_
    refine KX.go (hK_6' [(4, Value.pointer (some ⟨b, 0, none⟩)), (5, Value.pointer (some ⟨b_1', 0, none⟩)), (6, Value.pointer (some ⟨b_2', 0, none⟩)), (7, Value.pointer (some ⟨b_3', 0, none⟩))] _ ?_) ⟨rfl, rfl, rfl, rfl, trivial⟩
    refine wc_seq (fun K0_7' hK_7' => ?_)
    refine wc_region ?_
    refine WL.val (OV.move rfl) rfl rfl rfl ?_
    obtain ⟨o_1', h⟩ := h
    refine WL.callS tf_ent_24 rfl (item_does b_3' te fre text at0 o_1') rfl ⟨.inr (List.mem_of_getElem? (i := 0) rfl), trivial⟩ rfl rfl (fun r H' hS => ?_) (fun c H' hS => ?_)
    · rcases hS with ⟨r, at0_1', hc, ho⟩ | ⟨e, at0_2', hc, ho⟩ <;> cases ho
      replace h := h.1 r at0_1' hc
      refine WL.storeW (vs := wl r) 3 rfl rfl rfl rfl rfl tf_size_26 rfl rfl rfl ?_
      refine WL.nil ?_
      refine KX.go (hK_7' [(4, Value.pointer (some ⟨b, 0, none⟩)), (5, Value.pointer (some ⟨b_1', 0, none⟩)), (6, Value.pointer (some ⟨b_2', 0, none⟩)), (7, Value.pointer (some ⟨b_3', 0, none⟩))] _ ?_) ⟨rfl, rfl, rfl, rfl, trivial⟩
      refine wc_seq (fun K0_8' hK_8' => ?_)
      refine wc_drawT 6 [0, 1, 3] [HA.blk b_3' (.cells [st text, Value.int .i64 at0_1'].toArray 55 (0, 0)), HA.blk b_2' (.cells [Value.int .i64 0, Value.int .i64 0, st []].toArray 34 (0, 0)), HA.blk b (.cells (wl r).toArray 26 (0, 0))] rfl rfl tf_mixed (by kernel_rfl) (fun T hT => ?_)
      refine TW.val (OV.loadR rfl (At.own 2 rfl) tf_row_26) rfl rfl rfl ?_
      refine TW.val (OV.move rfl) rfl rfl rfl ?_
      refine TW.val (OV.nilCheck rfl) rfl rfl rfl ?_
      refine TW.val (OV.fieldAddr0 rfl tf_field_55_1) rfl rfl rfl ?_
      refine TW.val (OV.load rfl (At.own 0 rfl) rfl tf_scal_3) rfl rfl rfl ?_
      refine TW.val (OV.build rfl (cs := [Value.int .i64 0, Value.int .i64 0, st []]) rfl) rfl rfl rfl ?_
      refine TW.nil (hT _ ?_)
      refine WLK.op [0, 1, 3] rfl rfl (OpK.storeW (vs := wl r) 3 rfl rfl rfl rfl rfl tf_size_26 rfl rfl) rfl ?_
      refine WLK.op [0, 1, 3] rfl rfl (OpK.store (vs := [Value.int .i64 at0_1']) (cs' := [Value.int .i64 at0_1']) 2 rfl rfl rfl rfl tf_size_3 (Nat.le_of_ble_eq_true rfl) rfl rfl) rfl ?_
      refine WLK.op [0, 1, 3] rfl rfl (OpK.storeW (vs := [Value.int .i64 0, Value.int .i64 0, st []]) 1 rfl rfl rfl rfl rfl tf_size_34 rfl rfl) rfl ?_
      refine WLK.nil ?_
      refine KX.go (hK_8' [(4, Value.pointer (some ⟨b, 0, none⟩)), (5, Value.pointer (some ⟨b_1', 0, none⟩)), (6, Value.pointer (some ⟨b_2', 0, none⟩))] _ ?_) ⟨rfl, rfl, rfl, trivial⟩
      refine wc_ret ?_
      exact hE.ret (leaves1 (A := [HA.blk b (.cells (wl r).toArray 26 (0, 0)), HA.blk b_1' (.cells [Value.int .i64 at0_1'].toArray 3 (0, 0)), HA.blk b_2' (.cells [Value.int .i64 0, Value.int .i64 0, st []].toArray 34 (0, 0))]) (A' := [HA.blk b (.cells (wl r).toArray 26 (0, 0)), HA.blk b_1' (.cells [Value.int .i64 at0_1'].toArray 3 (0, 0)), HA.blk b_2' (.cells [Value.int .i64 0, Value.int .i64 0, st []].toArray 34 (0, 0))]) (Rest := [HA.blk b_3' (.cells [st text, Value.int .i64 at0_1'].toArray 55 (0, 0))]) [3, 2, 1, 0] rfl rfl tf_ent_23 (readc_ret b b_1' b_2' r at0_1' 0 0 []) (by intro hx; cases hx) rfl trivial [] rfl rfl (.inl ⟨_, _, _, _, _, h, rfl⟩) (ResV.of3 rfl (RV.row rfl (At.own 0 rfl) tf_row_26) (RV.cell rfl (At.own 1 rfl) rfl tf_scal_3) (RV.row rfl (At.own 2 rfl) tf_row_34)))
    · rcases hS with ⟨r, at0_1', hc, ho⟩ | ⟨e, at0_2', hc, ho⟩ <;> cases ho
      replace h := h.2 e at0_2' hc
      exact hE.pan (leaves1 (A := [HA.blk b (.cells (wl cs0).toArray 26 (0, 0)), HA.blk b_1' (.cells [Value.int .i64 0].toArray 3 (0, 0)), HA.blk b_2' (.cells [Value.int .i64 0, Value.int .i64 0, st []].toArray 34 (0, 0))]) (A' := [HA.blk b (.cells (wl cs0).toArray 26 (0, 0)), HA.blk b_1' (.cells [Value.int .i64 0].toArray 3 (0, 0)), HA.blk b_2' (.cells [Value.int .i64 10, Value.int .i64 e, st []].toArray 34 (0, 0))]) (Rest := [HA.blk b_3' (.cells [st text, Value.int .i64 at0_2'].toArray 55 (0, 0))]) [3, 2, 1, 0] rfl rfl tf_ent_23 (readc_pan b b_1' b_2' cs0 0 0 0 [] 10 e []) (by intro hx; cases hx) rfl trivial [] rfl rfl (.inl ⟨_, _, _, _, _, h, rfl⟩) (ResV.of3 rfl (RV.row rfl (At.own 0 rfl) tf_row_26) (RV.cell rfl (At.own 1 rfl) rfl tf_scal_3) (RV.row rfl (At.own 2 rfl) tf_row_34)))

/-- What Read answers: set, place behind, the fault's number and place. -/
def readM (t : List UInt8) (a : Int) : CS × Int × Int × Int :=
  if a < 0 ∨ (t.length : Int) ≤ a then (cs0, 0, 2, 0)
  else match itemM t a with
    | .ok (s, q) => (s, q, 0, 0)
    | .error e => (cs0, 0, 10, e)
def readV (r : CS × Int × Int × Int) : Value := .tuple #[.agg (wl r.1).toArray, .int .i64 r.2.1, .agg [Value.int .i64 r.2.2.1, Value.int .i64 r.2.2.2, st []].toArray]
theorem read_does (te : TypeId) (fre : Nat × Nat) (t : List UInt8) (a : Int) (h : t.length ≤ 9223372036854775807) : Does Tryd.prog 11 [st t, .int .i64 a] (escTab te fre) [] (Ret (readV (readM t a)) []) := by
  refine (read_wp te fre t a (fun s q c p x => readM t a = (s, q, c, p) ∧ x = []) ?_).weak ?_
  · unfold read_vc readM
    by_cases h1 : a < 0 ∨ (t.length : Int) ≤ a
    · rw [if_pos (by simpa using h1), if_pos h1]; exact ⟨rfl, rfl⟩
    · rw [if_neg (by simpa using h1), if_neg h1]
      exact ⟨⟨by omega, by omega, h⟩, fun r q hr => by simp [hr], fun e _ he => by simp [he]⟩
  · rintro o (⟨s, q, c, p, x, ⟨hm, rfl⟩, rfl⟩ | h)
    · rw [hm]; rfl
    · exact h.elim

end Go.Proofs.YtkjnhjhkaaampaaDoor
