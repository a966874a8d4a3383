/-
  The builder's functions.
-/
import Derived.Test.YtlfolgbaageknaaDoorGwc
import Derived.Test.YtlfolgbaageknaaDoorShelf
namespace Go.Proofs.YtlfolgbaageknaaDoor
open Go Go.RowKit

theorem tf_field_51_0 : fieldOff Tryd.prog 51 0 = some 0 := by kernel_rfl
theorem tf_scal_48 : scalB Tryd.prog 48 = true := by kernel_rfl
theorem tf_some0_51 : ((Tryd.prog.info? 51).map (fun i => i.size != 0)) = some true := by kernel_rfl
theorem tf_has_51 : (Tryd.prog.info? 51).isSome = true := by kernel_rfl
theorem tf_lies_51 : liesAt Tryd.prog Tryd.prog.depth 51 (2 / Tryd.prog.cellsOf 51) 0 51 1 = true := by kernel_rfl
theorem tf_size_48 : sizeB Tryd.prog 48 1 = true := by kernel_rfl
theorem tf_ent_34 : entB Tryd.prog 34 = true := by kernel_rfl
theorem tf_field_51_1 : fieldOff Tryd.prog 51 1 = some 1 := by kernel_rfl
theorem tf_scal_49 : scalB Tryd.prog 49 = true := by kernel_rfl
theorem tf_byte_5 : byteT Tryd.prog 5 := by unfold byteT; kernel_rfl
theorem tf_sl_49 : slB Tryd.prog 49 5 1 = true := by kernel_rfl
theorem tf_str_9 : strB Tryd.prog 9 = true := by kernel_rfl
theorem tf_size_49 : sizeB Tryd.prog 49 1 = true := by kernel_rfl

def cc1_vc (b_1'_1 : Value) (K : Value → Prop) : Prop :=
  K b_1'_1
set_option maxRecDepth 100000 in
theorem cc1_wp (b : Nat) (b_1'_1 : Value) (K : Value → Prop) (h : cc1_vc b_1'_1 K) :
    Does Tryd.prog 34 [Value.pointer (some ⟨b, 0, none⟩)] [] [HA.blk b (.cells [Value.pointer none, b_1'_1].toArray 51 (0, 0))] (fun o => (∃ (d : Value), K d ∧ o = .ret (Value.tuple #[]) [HA.blk b (.cells [Value.pointer (some ⟨b, 0, none⟩), d].toArray 51 (0, 0))]) ∨ (False)) := by
  unfold cc1_vc at h
  refine does_of_wc (n := 20) (L0 := [(0, Value.pointer (some ⟨b, 0, none⟩))]) Tryd.func34 rfl rfl rfl rfl (fun w0 M Q hE => ?_)
  refine wc_seq (fun K0 hK => ?_)
  refine wc_region ?_
  refine WL.val (OV.move rfl) rfl rfl rfl ?_
  refine WL.val (OV.nilCheck rfl) rfl rfl rfl ?_
  refine WL.val (OV.fieldAddr0 rfl tf_field_51_0) rfl rfl rfl ?_
  refine WL.val (OV.load rfl (At.own 0 rfl) rfl tf_scal_48) rfl rfl rfl ?_
  refine WL.val (OV.eqlPN rfl rfl Tryd.underlying48) rfl rfl rfl ?_
  refine WL.nil ?_
  refine KX.go (hK [(0, Value.pointer (some ⟨b, 0, none⟩)), (6, Value.bool true)] _ ?_) ⟨rfl, rfl, trivial⟩
  refine wc_condT rfl ?_
  refine wc_region ?_
  refine WL.val (OV.move rfl) rfl rfl rfl ?_
  refine WL.val (OV.move rfl) rfl rfl rfl ?_
  refine WL.val (OV.toUnsafe rfl (At.own 0 rfl) Tryd.underlying48 Tryd.underlying69 tf_some0_51 rfl) rfl rfl rfl ?_
  refine WL.val (OV.noEscape rfl Tryd.func41 (by kernel_rfl) (by kernel_rfl) (by kernel_rfl) (by kernel_rfl)) rfl rfl rfl ?_
  refine WL.val (OV.fromUnsafe rfl (At.own 0 rfl) Tryd.underlying69 Tryd.underlying48 tf_has_51 tf_lies_51) rfl rfl rfl ?_
  refine WL.val (OV.nilCheck rfl) rfl rfl rfl ?_
  refine WL.val (OV.fieldAddr0 rfl tf_field_51_0) rfl rfl rfl ?_
  refine WL.store (vs := [Value.pointer (some ⟨b, 0, none⟩)]) (cs' := [Value.pointer (some ⟨b, 0, none⟩), b_1'_1]) 0 rfl rfl rfl rfl tf_size_48 (Nat.le_of_ble_eq_true rfl) rfl rfl rfl ?_
  refine WL.nil ?_
  exact hE.norm [0] rfl rfl (.inl ⟨_, h, rfl⟩) (ResV.none rfl)

def cc2_vc (b_1'_1 : Value) (K : Value → Prop) : Prop :=
  K b_1'_1
set_option maxRecDepth 100000 in
theorem cc2_wp (b : Nat) (b_1'_1 : Value) (K : Value → Prop) (h : cc2_vc b_1'_1 K) :
    Does Tryd.prog 34 [Value.pointer (some ⟨b, 0, none⟩)] [] [HA.blk b (.cells [Value.pointer (some ⟨b, 0, none⟩), b_1'_1].toArray 51 (0, 0))] (fun o => (∃ (d : Value), K d ∧ o = .ret (Value.tuple #[]) [HA.blk b (.cells [Value.pointer (some ⟨b, 0, none⟩), d].toArray 51 (0, 0))]) ∨ (False)) := by
  unfold cc2_vc at h
  refine does_of_wc (n := 20) (L0 := [(0, Value.pointer (some ⟨b, 0, none⟩))]) Tryd.func34 rfl rfl rfl rfl (fun w0 M Q hE => ?_)
  refine wc_seq (fun K0 hK => ?_)
  refine wc_region ?_
  refine WL.val (OV.move rfl) rfl rfl rfl ?_
  refine WL.val (OV.nilCheck rfl) rfl rfl rfl ?_
  refine WL.val (OV.fieldAddr0 rfl tf_field_51_0) rfl rfl rfl ?_
  refine WL.val (OV.load rfl (At.own 0 rfl) rfl tf_scal_48) rfl rfl rfl ?_
  refine WL.val (OV.eqlPN rfl rfl Tryd.underlying48) rfl rfl rfl ?_
  refine WL.nil ?_
  refine KX.go (hK [(0, Value.pointer (some ⟨b, 0, none⟩)), (6, Value.bool false)] _ ?_) ⟨rfl, rfl, trivial⟩
  refine wc_condF rfl ?_
  refine wc_seq (fun K0_1' hK_1' => ?_)
  refine wc_region ?_
  refine WL.val (OV.move rfl) rfl rfl rfl ?_
  refine WL.val (OV.nilCheck rfl) rfl rfl rfl ?_
  refine WL.val (OV.fieldAddr0 rfl tf_field_51_0) rfl rfl rfl ?_
  refine WL.val (OV.load rfl (At.own 0 rfl) rfl tf_scal_48) rfl rfl rfl ?_
  refine WL.val (OV.move rfl) rfl rfl rfl ?_
  refine WL.val (OV.neqPS rfl rfl Tryd.underlying48 tf_has_51) rfl rfl rfl ?_
  refine WL.nil ?_
  refine KX.go (hK_1' [(19, Value.bool false)] _ ?_) ⟨rfl, trivial⟩
  refine wc_condF rfl ?_
  refine wc_skip ?_
  exact hE.norm [0] rfl rfl (.inl ⟨_, h, rfl⟩) (ResV.none rfl)

theorem cc1_does (b : Nat) (v : Value) : Does Tryd.prog 34 [.pointer (some ⟨b, 0, none⟩)] [] [.blk b (.cells [.pointer none, v].toArray 51 (0, 0))] (Ret (.tuple #[]) [.blk b (.cells [.pointer (some ⟨b, 0, none⟩), v].toArray 51 (0, 0))]) :=
  (cc1_wp b v (fun u => u = v) rfl).weak fun o ho => by
    rcases ho with ⟨d, rfl, rfl⟩ | h
    · rfl
    · exact h.elim
theorem cc2_does (b : Nat) (v : Value) : Does Tryd.prog 34 [.pointer (some ⟨b, 0, none⟩)] [] [.blk b (.cells [.pointer (some ⟨b, 0, none⟩), v].toArray 51 (0, 0))] (Ret (.tuple #[]) [.blk b (.cells [.pointer (some ⟨b, 0, none⟩), v].toArray 51 (0, 0))]) :=
  (cc2_wp b v (fun u => u = v) rfl).weak fun o ho => by
    rcases ho with ⟨d, rfl, rfl⟩ | h
    · rfl
    · exact h.elim

def ws1_vc (bl : List UInt8) (s : List UInt8) (K : Int → Value → (List UInt8) → Prop) : Prop :=
  (bl.length + s.length ≤ 140737488355328) ∧
  K (s.length : Int) Value.nilIface (bl ++ s)
set_option maxRecDepth 100000 in
theorem ws1_wp (b : Nat) (w : Value) (bl : List UInt8) (s : List UInt8) (K : Int → Value → (List UInt8) → Prop) (h : ws1_vc bl s K) :
    Does Tryd.prog 20 [Value.pointer (some ⟨b, 0, none⟩), st s] [] [HA.blk b (.cells [Value.pointer none, w].toArray 51 (0, 0)), HA.row w 5 1 bl.length (bl.flatMap byteC)] (fun o => (∃ (v : Int) (v_1' : Value) (w_2' : Value) (d : List UInt8), K v v_1' d ∧ o = .ret (Value.tuple #[Value.int .i64 v, v_1']) [HA.blk b (.cells [Value.pointer (some ⟨b, 0, none⟩), w_2'].toArray 51 (0, 0)), HA.row w_2' 5 1 d.length (d.flatMap byteC)]) ∨ (False)) := by
  unfold ws1_vc at h
  refine does_of_wc (n := 19) (L0 := [(0, Value.pointer (some ⟨b, 0, none⟩)), (1, st s)]) Tryd.func20 rfl rfl rfl rfl (fun w0 M Q hE => ?_)
  refine wc_seq (fun K0 hK => ?_)
  refine wc_region ?_
  refine WL.val (OV.assign rfl) rfl rfl rfl ?_
  refine WL.val (OV.assign rfl) rfl rfl rfl ?_
  refine WL.nil ?_
  refine KX.go (hK [(0, Value.pointer (some ⟨b, 0, none⟩)), (1, st s)] _ ?_) ⟨rfl, rfl, trivial⟩
  refine wc_seq (fun K0_1' hK_1' => ?_)
  refine wc_region ?_
  refine WL.val (OV.move rfl) rfl rfl rfl ?_
  refine WL.call tf_ent_34 rfl (cc1_does b _) rfl trivial rfl rfl ?_
  refine WL.nil ?_
  refine KX.go (hK_1' [(0, Value.pointer (some ⟨b, 0, none⟩)), (1, st s)] _ ?_) ⟨rfl, rfl, trivial⟩
  refine wc_seq (fun K0_2' hK_2' => ?_)
  refine wc_region ?_
  refine WL.val (OV.move rfl) rfl rfl rfl ?_
  refine WL.val (OV.move rfl) rfl rfl rfl ?_
  refine WL.val (OV.nilCheck rfl) rfl rfl rfl ?_
  refine WL.val (OV.fieldAddr0 rfl tf_field_51_1) rfl rfl rfl ?_
  refine WL.val (OV.load rfl (At.own 0 rfl) rfl tf_scal_49) rfl rfl rfl ?_
  refine WL.val (OV.move rfl) rfl rfl rfl ?_
  obtain ⟨o, h⟩ := h
  refine WL.appendS (m := s) 1 rfl rfl rfl tf_sl_49 tf_str_9 tf_byte_5 o rfl rfl (fun w_1' => ?_)
  refine WL.val (OV.nilCheck rfl) rfl rfl rfl ?_
  refine WL.val (OV.fieldAddr0 rfl tf_field_51_1) rfl rfl rfl ?_
  refine WL.storeSl (cs' := [Value.pointer (some ⟨b, 0, none⟩), w_1']) 0 1 rfl rfl rfl rfl tf_size_49 (Nat.le_of_ble_eq_true rfl) rfl rfl ?_
  refine WL.nil ?_
  refine KX.go (hK_2' [(1, st s)] _ ?_) ⟨rfl, trivial⟩
  refine wc_seq (fun K0_3' hK_3' => ?_)
  refine wc_region ?_
  refine WL.val (OV.move rfl) rfl rfl rfl ?_
  refine WL.val (OV.len rfl tf_str_9) rfl rfl rfl ?_
  refine WL.val (OV.assign rfl) rfl rfl rfl ?_
  refine WL.val (OV.assign rfl) rfl rfl rfl ?_
  refine WL.nil ?_
  refine KX.go (hK_3' [(4, Value.int .i64 (s.length : Int)), (5, Value.nilIface)] _ ?_) ⟨rfl, rfl, trivial⟩
  refine wc_ret ?_
  exact hE.ret [0, 1] rfl rfl (.inl ⟨_, _, _, _, h, rfl⟩) (ResV.of2 rfl (RV.tmp rfl) (RV.tmp rfl))

def ws2_vc (bl : List UInt8) (s : List UInt8) (K : Int → Value → (List UInt8) → Prop) : Prop :=
  (bl.length + s.length ≤ 140737488355328) ∧
  K (s.length : Int) Value.nilIface (bl ++ s)
set_option maxRecDepth 100000 in
theorem ws2_wp (b : Nat) (w : Value) (bl : List UInt8) (s : List UInt8) (K : Int → Value → (List UInt8) → Prop) (h : ws2_vc bl s K) :
    Does Tryd.prog 20 [Value.pointer (some ⟨b, 0, none⟩), st s] [] [HA.blk b (.cells [Value.pointer (some ⟨b, 0, none⟩), w].toArray 51 (0, 0)), HA.row w 5 1 bl.length (bl.flatMap byteC)] (fun o => (∃ (v : Int) (v_1' : Value) (w_2' : Value) (d : List UInt8), K v v_1' d ∧ o = .ret (Value.tuple #[Value.int .i64 v, v_1']) [HA.blk b (.cells [Value.pointer (some ⟨b, 0, none⟩), w_2'].toArray 51 (0, 0)), HA.row w_2' 5 1 d.length (d.flatMap byteC)]) ∨ (False)) := by
  unfold ws2_vc at h
  refine does_of_wc (n := 19) (L0 := [(0, Value.pointer (some ⟨b, 0, none⟩)), (1, st s)]) Tryd.func20 rfl rfl rfl rfl (fun w0 M Q hE => ?_)
  refine wc_seq (fun K0 hK => ?_)
  refine wc_region ?_
  refine WL.val (OV.assign rfl) rfl rfl rfl ?_
  refine WL.val (OV.assign rfl) rfl rfl rfl ?_
  refine WL.nil ?_
  refine KX.go (hK [(0, Value.pointer (some ⟨b, 0, none⟩)), (1, st s)] _ ?_) ⟨rfl, rfl, trivial⟩
  refine wc_seq (fun K0_1' hK_1' => ?_)
  refine wc_region ?_
  refine WL.val (OV.move rfl) rfl rfl rfl ?_
  refine WL.call tf_ent_34 rfl (cc2_does b _) rfl trivial rfl rfl ?_
  refine WL.nil ?_
  refine KX.go (hK_1' [(0, Value.pointer (some ⟨b, 0, none⟩)), (1, st s)] _ ?_) ⟨rfl, rfl, trivial⟩
  refine wc_seq (fun K0_2' hK_2' => ?_)
  refine wc_region ?_
  refine WL.val (OV.move rfl) rfl rfl rfl ?_
  refine WL.val (OV.move rfl) rfl rfl rfl ?_
  refine WL.val (OV.nilCheck rfl) rfl rfl rfl ?_
  refine WL.val (OV.fieldAddr0 rfl tf_field_51_1) rfl rfl rfl ?_
  refine WL.val (OV.load rfl (At.own 0 rfl) rfl tf_scal_49) rfl rfl rfl ?_
  refine WL.val (OV.move rfl) rfl rfl rfl ?_
  obtain ⟨o, h⟩ := h
  refine WL.appendS (m := s) 1 rfl rfl rfl tf_sl_49 tf_str_9 tf_byte_5 o rfl rfl (fun w_1' => ?_)
  refine WL.val (OV.nilCheck rfl) rfl rfl rfl ?_
  refine WL.val (OV.fieldAddr0 rfl tf_field_51_1) rfl rfl rfl ?_
  refine WL.storeSl (cs' := [Value.pointer (some ⟨b, 0, none⟩), w_1']) 0 1 rfl rfl rfl rfl tf_size_49 (Nat.le_of_ble_eq_true rfl) rfl rfl ?_
  refine WL.nil ?_
  refine KX.go (hK_2' [(1, st s)] _ ?_) ⟨rfl, trivial⟩
  refine wc_seq (fun K0_3' hK_3' => ?_)
  refine wc_region ?_
  refine WL.val (OV.move rfl) rfl rfl rfl ?_
  refine WL.val (OV.len rfl tf_str_9) rfl rfl rfl ?_
  refine WL.val (OV.assign rfl) rfl rfl rfl ?_
  refine WL.val (OV.assign rfl) rfl rfl rfl ?_
  refine WL.nil ?_
  refine KX.go (hK_3' [(4, Value.int .i64 (s.length : Int)), (5, Value.nilIface)] _ ?_) ⟨rfl, rfl, trivial⟩
  refine wc_ret ?_
  exact hE.ret [0, 1] rfl rfl (.inl ⟨_, _, _, _, h, rfl⟩) (ResV.of2 rfl (RV.tmp rfl) (RV.tmp rfl))

theorem writeString_does (b : Nat) (l s : List UInt8) (hb : l.length + s.length ≤ 140737488355328) : Does Tryd.prog 20 [.pointer (some ⟨b, 0, none⟩), st s] [] [bld 51 5 b l]
    (Ret (.tuple #[.int .i64 (s.length : Int), .nilIface]) [bld 51 5 b (l ++ s)]) := by
  refine Does.openBld fun q v hq => Does.closeBld ?_
  rcases hq with rfl | rfl
  · refine (ws1_wp b v l s (fun n u d => n = (s.length : Int) ∧ u = .nilIface ∧ d = l ++ s) ⟨hb, rfl, rfl, rfl⟩).weak fun o ho => ?_
    rcases ho with ⟨n, u, w, d, ⟨rfl, rfl, rfl⟩, rfl⟩ | h
    · exact ⟨_, w, .inr rfl, rfl⟩
    · exact h.elim
  · refine (ws2_wp b v l s (fun n u d => n = (s.length : Int) ∧ u = .nilIface ∧ d = l ++ s) ⟨hb, rfl, rfl, rfl⟩).weak fun o ho => ?_
    rcases ho with ⟨n, u, w, d, ⟨rfl, rfl, rfl⟩, rfl⟩ | h
    · exact ⟨_, w, .inr rfl, rfl⟩
    · exact h.elim
theorem string_does (b : Nat) (l : List UInt8) : Does Tryd.prog 21 [.pointer (some ⟨b, 0, none⟩)] [] [bld 51 5 b l] (Ret (st l) []) := does_String Tryd.lays169 Tryd.Builder_Extra_169 b l

end Go.Proofs.YtlfolgbaageknaaDoor
