/-
  The builder's functions.
-/
import Derived.Test.YtiaafdjdppganaaGwc
import Derived.Test.YtiaafdjdppganaaShelf
namespace Go.Proofs.Ytiaafdjdppganaa
open Go Go.RowKit

theorem tf_field_56_0 : fieldOff Try.prog 56 0 = some 0 := by kernel_rfl
theorem tf_scal_54 : scalB Try.prog 54 = true := by kernel_rfl
theorem tf_some0_56 : ((Try.prog.info? 56).map (fun i => i.size != 0)) = some true := by kernel_rfl
theorem tf_has_56 : (Try.prog.info? 56).isSome = true := by kernel_rfl
theorem tf_lies_56 : liesAt Try.prog Try.prog.depth 56 (2 / Try.prog.cellsOf 56) 0 56 1 = true := by kernel_rfl
theorem tf_size_54 : sizeB Try.prog 54 1 = true := by kernel_rfl
theorem tf_ent_39 : entB Try.prog 39 = true := by kernel_rfl
theorem tf_field_56_1 : fieldOff Try.prog 56 1 = some 1 := by kernel_rfl
theorem tf_scal_52 : scalB Try.prog 52 = true := by kernel_rfl
theorem tf_byte_5 : byteT Try.prog 5 := by unfold byteT; kernel_rfl
theorem tf_sl_52 : slB Try.prog 52 5 1 = true := by kernel_rfl
theorem tf_str_9 : strB Try.prog 9 = true := by kernel_rfl
theorem tf_size_52 : sizeB Try.prog 52 1 = true := by kernel_rfl

def cc1_vc (b_1'_1 : Value) (K : Value → Prop) : Prop :=
  K b_1'_1
set_option maxRecDepth 100000 in
theorem cc1_wp (b : Nat) (b_1'_1 : Value) (K : Value → Prop) (h : cc1_vc b_1'_1 K) :
    Does Try.prog 39 [Value.pointer (some ⟨b, 0, none⟩)] [] [HA.blk b (.cells [Value.pointer none, b_1'_1].toArray 56 (0, 0))] (fun o => (∃ (d : Value), K d ∧ o = .ret (Value.tuple #[]) [HA.blk b (.cells [Value.pointer (some ⟨b, 0, none⟩), d].toArray 56 (0, 0))]) ∨ (False)) := by
  unfold cc1_vc at h
  refine does_of_wc (n := 20) (L0 := [(0, Value.pointer (some ⟨b, 0, none⟩))]) Try.func39 rfl rfl rfl rfl (fun w0 M Q hE => ?_)
  refine wc_seq (fun K0 hK => ?_)
  refine wc_region ?_
  refine WL.val (OV.move rfl) rfl rfl rfl ?_
  refine WL.val (OV.nilCheck rfl) rfl rfl rfl ?_
  refine WL.val (OV.fieldAddr0 rfl tf_field_56_0) rfl rfl rfl ?_
  refine WL.val (OV.load rfl (At.own 0 rfl) rfl tf_scal_54) rfl rfl rfl ?_
  refine WL.val (OV.eqlPN rfl rfl Try.underlying54) rfl rfl rfl ?_
  refine WL.nil ?_
  refine KX.go (hK [(0, Value.pointer (some ⟨b, 0, none⟩)), (6, Value.bool true)] _ ?_) ⟨rfl, rfl, trivial⟩
  refine wc_condT rfl ?_
  refine wc_region ?_
  refine WL.val (OV.move rfl) rfl rfl rfl ?_
  refine WL.val (OV.move rfl) rfl rfl rfl ?_
  refine WL.val (OV.toUnsafe rfl (At.own 0 rfl) Try.underlying54 Try.underlying68 tf_some0_56 rfl) rfl rfl rfl ?_
  refine WL.val (OV.noEscape rfl Try.func44 (by kernel_rfl) (by kernel_rfl) (by kernel_rfl) (by kernel_rfl)) rfl rfl rfl ?_
  refine WL.val (OV.fromUnsafe rfl (At.own 0 rfl) Try.underlying68 Try.underlying54 tf_has_56 tf_lies_56) rfl rfl rfl ?_
  refine WL.val (OV.nilCheck rfl) rfl rfl rfl ?_
  refine WL.val (OV.fieldAddr0 rfl tf_field_56_0) rfl rfl rfl ?_
  refine WL.store (vs := [Value.pointer (some ⟨b, 0, none⟩)]) (cs' := [Value.pointer (some ⟨b, 0, none⟩), b_1'_1]) 0 rfl rfl rfl rfl tf_size_54 (Nat.le_of_ble_eq_true rfl) rfl rfl rfl ?_
  refine WL.nil ?_
  exact hE.norm [0] rfl rfl (.inl ⟨_, h, rfl⟩) (ResV.none rfl)

def cc2_vc (b_1'_1 : Value) (K : Value → Prop) : Prop :=
  K b_1'_1
set_option maxRecDepth 100000 in
theorem cc2_wp (b : Nat) (b_1'_1 : Value) (K : Value → Prop) (h : cc2_vc b_1'_1 K) :
    Does Try.prog 39 [Value.pointer (some ⟨b, 0, none⟩)] [] [HA.blk b (.cells [Value.pointer (some ⟨b, 0, none⟩), b_1'_1].toArray 56 (0, 0))] (fun o => (∃ (d : Value), K d ∧ o = .ret (Value.tuple #[]) [HA.blk b (.cells [Value.pointer (some ⟨b, 0, none⟩), d].toArray 56 (0, 0))]) ∨ (False)) := by
  unfold cc2_vc at h
  refine does_of_wc (n := 20) (L0 := [(0, Value.pointer (some ⟨b, 0, none⟩))]) Try.func39 rfl rfl rfl rfl (fun w0 M Q hE => ?_)
  refine wc_seq (fun K0 hK => ?_)
  refine wc_region ?_
  refine WL.val (OV.move rfl) rfl rfl rfl ?_
  refine WL.val (OV.nilCheck rfl) rfl rfl rfl ?_
  refine WL.val (OV.fieldAddr0 rfl tf_field_56_0) rfl rfl rfl ?_
  refine WL.val (OV.load rfl (At.own 0 rfl) rfl tf_scal_54) rfl rfl rfl ?_
  refine WL.val (OV.eqlPN rfl rfl Try.underlying54) rfl rfl rfl ?_
  refine WL.nil ?_
  refine KX.go (hK [(0, Value.pointer (some ⟨b, 0, none⟩)), (6, Value.bool false)] _ ?_) ⟨rfl, rfl, trivial⟩
  refine wc_condF rfl ?_
  refine wc_seq (fun K0_1' hK_1' => ?_)
  refine wc_region ?_
  refine WL.val (OV.move rfl) rfl rfl rfl ?_
  refine WL.val (OV.nilCheck rfl) rfl rfl rfl ?_
  refine WL.val (OV.fieldAddr0 rfl tf_field_56_0) rfl rfl rfl ?_
  refine WL.val (OV.load rfl (At.own 0 rfl) rfl tf_scal_54) rfl rfl rfl ?_
  refine WL.val (OV.move rfl) rfl rfl rfl ?_
  refine WL.val (OV.neqPS rfl rfl Try.underlying54 tf_has_56) rfl rfl rfl ?_
  refine WL.nil ?_
  refine KX.go (hK_1' [(19, Value.bool false)] _ ?_) ⟨rfl, trivial⟩
  refine wc_condF rfl ?_
  refine wc_skip ?_
  exact hE.norm [0] rfl rfl (.inl ⟨_, h, rfl⟩) (ResV.none rfl)

theorem cc1_does (b : Nat) (v : Value) : Does Try.prog 39 [.pointer (some ⟨b, 0, none⟩)] [] [.blk b (.cells [.pointer none, v].toArray 56 (0, 0))] (Ret (.tuple #[]) [.blk b (.cells [.pointer (some ⟨b, 0, none⟩), v].toArray 56 (0, 0))]) :=
  (cc1_wp b v (fun u => u = v) rfl).weak fun o ho => by
    rcases ho with ⟨d, rfl, rfl⟩ | h
    · rfl
    · exact h.elim
theorem cc2_does (b : Nat) (v : Value) : Does Try.prog 39 [.pointer (some ⟨b, 0, none⟩)] [] [.blk b (.cells [.pointer (some ⟨b, 0, none⟩), v].toArray 56 (0, 0))] (Ret (.tuple #[]) [.blk b (.cells [.pointer (some ⟨b, 0, none⟩), v].toArray 56 (0, 0))]) :=
  (cc2_wp b v (fun u => u = v) rfl).weak fun o ho => by
    rcases ho with ⟨d, rfl, rfl⟩ | h
    · rfl
    · exact h.elim

def ws1_vc (bl : List UInt8) (s : List UInt8) (K : Int → Value → (List UInt8) → Prop) : Prop :=
  (bl.length + s.length ≤ 140737488355328) ∧
  K (s.length : Int) Value.nilIface (bl ++ s)
set_option maxRecDepth 100000 in
theorem ws1_wp (b : Nat) (w : Value) (bl : List UInt8) (s : List UInt8) (K : Int → Value → (List UInt8) → Prop) (h : ws1_vc bl s K) :
    Does Try.prog 27 [Value.pointer (some ⟨b, 0, none⟩), st s] [] [HA.blk b (.cells [Value.pointer none, w].toArray 56 (0, 0)), HA.row w 5 1 bl.length (bl.flatMap byteC)] (fun o => (∃ (v : Int) (v_1' : Value) (w_2' : Value) (d : List UInt8), K v v_1' d ∧ o = .ret (Value.tuple #[Value.int .i64 v, v_1']) [HA.blk b (.cells [Value.pointer (some ⟨b, 0, none⟩), w_2'].toArray 56 (0, 0)), HA.row w_2' 5 1 d.length (d.flatMap byteC)]) ∨ (False)) := by
  unfold ws1_vc at h
  refine does_of_wc (n := 19) (L0 := [(0, Value.pointer (some ⟨b, 0, none⟩)), (1, st s)]) Try.func27 rfl rfl rfl rfl (fun w0 M Q hE => ?_)
  refine wc_seq (fun K0 hK => ?_)
  refine wc_region ?_
  refine WL.val (OV.assign rfl) rfl rfl rfl ?_
  refine WL.val (OV.assign rfl) rfl rfl rfl ?_
  refine WL.nil ?_
  refine KX.go (hK [(0, Value.pointer (some ⟨b, 0, none⟩)), (1, st s)] _ ?_) ⟨rfl, rfl, trivial⟩
  refine wc_seq (fun K0_1' hK_1' => ?_)
  refine wc_region ?_
  refine WL.val (OV.move rfl) rfl rfl rfl ?_
  refine WL.call tf_ent_39 rfl (cc1_does b _) rfl trivial rfl rfl ?_
  refine WL.nil ?_
  refine KX.go (hK_1' [(0, Value.pointer (some ⟨b, 0, none⟩)), (1, st s)] _ ?_) ⟨rfl, rfl, trivial⟩
  refine wc_seq (fun K0_2' hK_2' => ?_)
  refine wc_region ?_
  refine WL.val (OV.move rfl) rfl rfl rfl ?_
  refine WL.val (OV.move rfl) rfl rfl rfl ?_
  refine WL.val (OV.nilCheck rfl) rfl rfl rfl ?_
  refine WL.val (OV.fieldAddr0 rfl tf_field_56_1) rfl rfl rfl ?_
  refine WL.val (OV.load rfl (At.own 0 rfl) rfl tf_scal_52) rfl rfl rfl ?_
  refine WL.val (OV.move rfl) rfl rfl rfl ?_
  obtain ⟨o, h⟩ := h
  refine WL.appendS (m := s) 1 rfl rfl rfl tf_sl_52 tf_str_9 tf_byte_5 o rfl rfl (fun w_1' => ?_)
  refine WL.val (OV.nilCheck rfl) rfl rfl rfl ?_
  refine WL.val (OV.fieldAddr0 rfl tf_field_56_1) rfl rfl rfl ?_
  refine WL.storeSl (cs' := [Value.pointer (some ⟨b, 0, none⟩), w_1']) 0 1 rfl rfl rfl rfl tf_size_52 (Nat.le_of_ble_eq_true rfl) rfl rfl ?_
  refine WL.nil ?_
  refine KX.go (hK_2' [(1, st s)] _ ?_) ⟨rfl, trivial⟩
  refine wc_seq (fun K0_3' hK_3' => ?_)
  refine wc_region ?_
  refine WL.val (OV.move rfl) rfl rfl rfl ?_
  refine WL.val (OV.len rfl tf_str_9) rfl rfl rfl ?_
  refine WL.val (OV.assign rfl) rfl rfl rfl ?_
  refine WL.val (OV.assign rfl) rfl rfl rfl ?_
  refine WL.nil ?_
  refine KX.go (hK_3' [(4, Value.int .i64 (s.length : Int)), (5, Value.nilIface)] _ ?_) ⟨rfl, rfl, trivial⟩
  refine wc_ret ?_
  exact hE.ret [0, 1] rfl rfl (.inl ⟨_, _, _, _, h, rfl⟩) (ResV.of2 rfl (RV.tmp rfl) (RV.tmp rfl))

def ws2_vc (bl : List UInt8) (s : List UInt8) (K : Int → Value → (List UInt8) → Prop) : Prop :=
  (bl.length + s.length ≤ 140737488355328) ∧
  K (s.length : Int) Value.nilIface (bl ++ s)
set_option maxRecDepth 100000 in
theorem ws2_wp (b : Nat) (w : Value) (bl : List UInt8) (s : List UInt8) (K : Int → Value → (List UInt8) → Prop) (h : ws2_vc bl s K) :
    Does Try.prog 27 [Value.pointer (some ⟨b, 0, none⟩), st s] [] [HA.blk b (.cells [Value.pointer (some ⟨b, 0, none⟩), w].toArray 56 (0, 0)), HA.row w 5 1 bl.length (bl.flatMap byteC)] (fun o => (∃ (v : Int) (v_1' : Value) (w_2' : Value) (d : List UInt8), K v v_1' d ∧ o = .ret (Value.tuple #[Value.int .i64 v, v_1']) [HA.blk b (.cells [Value.pointer (some ⟨b, 0, none⟩), w_2'].toArray 56 (0, 0)), HA.row w_2' 5 1 d.length (d.flatMap byteC)]) ∨ (False)) := by
  unfold ws2_vc at h
  refine does_of_wc (n := 19) (L0 := [(0, Value.pointer (some ⟨b, 0, none⟩)), (1, st s)]) Try.func27 rfl rfl rfl rfl (fun w0 M Q hE => ?_)
  refine wc_seq (fun K0 hK => ?_)
  refine wc_region ?_
  refine WL.val (OV.assign rfl) rfl rfl rfl ?_
  refine WL.val (OV.assign rfl) rfl rfl rfl ?_
  refine WL.nil ?_
  refine KX.go (hK [(0, Value.pointer (some ⟨b, 0, none⟩)), (1, st s)] _ ?_) ⟨rfl, rfl, trivial⟩
  refine wc_seq (fun K0_1' hK_1' => ?_)
  refine wc_region ?_
  refine WL.val (OV.move rfl) rfl rfl rfl ?_
  refine WL.call tf_ent_39 rfl (cc2_does b _) rfl trivial rfl rfl ?_
  refine WL.nil ?_
  refine KX.go (hK_1' [(0, Value.pointer (some ⟨b, 0, none⟩)), (1, st s)] _ ?_) ⟨rfl, rfl, trivial⟩
  refine wc_seq (fun K0_2' hK_2' => ?_)
  refine wc_region ?_
  refine WL.val (OV.move rfl) rfl rfl rfl ?_
  refine WL.val (OV.move rfl) rfl rfl rfl ?_
  refine WL.val (OV.nilCheck rfl) rfl rfl rfl ?_
  refine WL.val (OV.fieldAddr0 rfl tf_field_56_1) rfl rfl rfl ?_
  refine WL.val (OV.load rfl (At.own 0 rfl) rfl tf_scal_52) rfl rfl rfl ?_
  refine WL.val (OV.move rfl) rfl rfl rfl ?_
  obtain ⟨o, h⟩ := h
  refine WL.appendS (m := s) 1 rfl rfl rfl tf_sl_52 tf_str_9 tf_byte_5 o rfl rfl (fun w_1' => ?_)
  refine WL.val (OV.nilCheck rfl) rfl rfl rfl ?_
  refine WL.val (OV.fieldAddr0 rfl tf_field_56_1) rfl rfl rfl ?_
  refine WL.storeSl (cs' := [Value.pointer (some ⟨b, 0, none⟩), w_1']) 0 1 rfl rfl rfl rfl tf_size_52 (Nat.le_of_ble_eq_true rfl) rfl rfl ?_
  refine WL.nil ?_
  refine KX.go (hK_2' [(1, st s)] _ ?_) ⟨rfl, trivial⟩
  refine wc_seq (fun K0_3' hK_3' => ?_)
  refine wc_region ?_
  refine WL.val (OV.move rfl) rfl rfl rfl ?_
  refine WL.val (OV.len rfl tf_str_9) rfl rfl rfl ?_
  refine WL.val (OV.assign rfl) rfl rfl rfl ?_
  refine WL.val (OV.assign rfl) rfl rfl rfl ?_
  refine WL.nil ?_
  refine KX.go (hK_3' [(4, Value.int .i64 (s.length : Int)), (5, Value.nilIface)] _ ?_) ⟨rfl, rfl, trivial⟩
  refine wc_ret ?_
  exact hE.ret [0, 1] rfl rfl (.inl ⟨_, _, _, _, h, rfl⟩) (ResV.of2 rfl (RV.tmp rfl) (RV.tmp rfl))

theorem writeString_does (b : Nat) (l s : List UInt8) (hb : l.length + s.length ≤ 140737488355328) : Does Try.prog 27 [.pointer (some ⟨b, 0, none⟩), st s] [] [bld 56 5 b l]
    (Ret (.tuple #[.int .i64 (s.length : Int), .nilIface]) [bld 56 5 b (l ++ s)]) := by
  refine Does.openBld fun q v hq => Does.closeBld ?_
  rcases hq with rfl | rfl
  · refine (ws1_wp b v l s (fun n u d => n = (s.length : Int) ∧ u = .nilIface ∧ d = l ++ s) ⟨hb, rfl, rfl, rfl⟩).weak fun o ho => ?_
    rcases ho with ⟨n, u, w, d, ⟨rfl, rfl, rfl⟩, rfl⟩ | h
    · exact ⟨_, w, .inr rfl, rfl⟩
    · exact h.elim
  · refine (ws2_wp b v l s (fun n u d => n = (s.length : Int) ∧ u = .nilIface ∧ d = l ++ s) ⟨hb, rfl, rfl, rfl⟩).weak fun o ho => ?_
    rcases ho with ⟨n, u, w, d, ⟨rfl, rfl, rfl⟩, rfl⟩ | h
    · exact ⟨_, w, .inr rfl, rfl⟩
    · exact h.elim
theorem string_does (b : Nat) (l : List UInt8) : Does Try.prog 28 [.pointer (some ⟨b, 0, none⟩)] [] [bld 56 5 b l] (Ret (st l) []) := does_String Try.lays169 Try.Builder_Extra_169 b l

end Go.Proofs.Ytiaafdjdppganaa
