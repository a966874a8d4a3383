/-
  Merged: SyZ, SyU, SyM.
-/
import Derived.Test.YtifajndacnfcbaaDoorSp6
set_option maxRecDepth 100000
namespace Go.Proofs.YtifajndacnfcbaaDoor
open Go Go.RowKit
theorem ab7 : e9 Tryd.prog 88 0 = some 0 := by kernel_rfl
theorem agp : aaa Tryd.prog 85 = true := by kernel_rfl
theorem aoe : ((Tryd.prog.info? 88).map (fun i => i.size != 0)) = some true := by kernel_rfl
theorem aml : (Tryd.prog.info? 88).isSome = true := by kernel_rfl
theorem ak8 : liesAt Tryd.prog Tryd.prog.depth 90 (2 / Tryd.prog.cellsOf 90) 0 88 1 = true := by kernel_rfl
theorem aqe : o7 Tryd.prog 85 1 = true := by kernel_rfl
theorem afs : l6 Tryd.prog 54 = true := by kernel_rfl
theorem u0 : e9 Tryd.prog 88 1 = some 1 := by kernel_rfl
theorem aef : aaa Tryd.prog 86 = true := by kernel_rfl
theorem abt : auy Tryd.prog 5 := by unfold auy; kernel_rfl
theorem aeb : o7 Tryd.prog 86 1 = true := by kernel_rfl
def auw (b_1'_1 : Value) (K : Value → Prop) : Prop :=
 K b_1'_1
theorem axf (b : Nat) (b_1'_1 : Value) (K : Value → Prop) (h : auw b_1'_1 K) :
  d7 Tryd.prog 54 [zP b] [] [HA.blk b (.cells [Value.pointer none, b_1'_1].toArray 90 (0, 0))] (fun o => (∃ (d : Value), K d ∧ o = .ret (Value.tuple #[]) [HA.blk b (.cells [zP b, d].toArray 90 (0, 0))]) ∨ (False)) := by
 unfold auw at h
 refine c7 (n := 20) (L0 := [(0, zP b)]) Tryd.func54 rfl rfl rfl rfl (fun w0 M Q hE => ?_)
 refine a7 (fun _ hK => ?_)
 refine a6 ?_
 refine wm ?_
 refine wv (OV.nilCheck rfl) ?_
 refine wv (OV.fieldAddr0 rfl ab7) ?_
 refine wv (OV.load rfl (At.own 0 rfl) rfl agp) ?_
 refine wv (OV.eqlPN rfl rfl Tryd.underlying85) ?_
 refine WL.nil ?_
 refine kg (hK [(0, zP b), (6, zB true)] _ ?_)
 refine h8 rfl ?_
 refine a6 ?_
 refine wm ?_
 refine wm ?_
 refine wv (OV.toUnsafe rfl (At.own 0 rfl) Tryd.underlying85 Tryd.underlying119 aoe rfl) ?_
 refine wv (OV.noEscape rfl Tryd.func70 (by kernel_rfl) (by kernel_rfl) (by kernel_rfl) (by kernel_rfl)) ?_
 refine wv (OV.fromUnsafe rfl (At.own 0 rfl) Tryd.underlying119 Tryd.underlying85 aml ak8) ?_
 refine wv (OV.nilCheck rfl) ?_
 refine wv (OV.fieldAddr0 rfl ab7) ?_
 refine WL.store (vs := [zP b]) (cs' := [zP b, b_1'_1]) 0 rfl rfl rfl rfl aqe (Nat.le_of_ble_eq_true rfl) rfl rfl rfl ?_
 refine WL.nil ?_
 exact hE.norm [0] rfl rfl (.inl ⟨_, h, rfl⟩) (d6.none rfl)
def auf (b_1'_1 : Value) (K : Value → Prop) : Prop :=
 K b_1'_1
theorem axp (b : Nat) (b_1'_1 : Value) (K : Value → Prop) (h : auf b_1'_1 K) :
  d7 Tryd.prog 54 [zP b] [] [HA.blk b (.cells [zP b, b_1'_1].toArray 90 (0, 0))] (fun o => (∃ (d : Value), K d ∧ o = .ret (Value.tuple #[]) [HA.blk b (.cells [zP b, d].toArray 90 (0, 0))]) ∨ (False)) := by
 unfold auf at h
 refine c7 (n := 20) (L0 := [(0, zP b)]) Tryd.func54 rfl rfl rfl rfl (fun w0 M Q hE => ?_)
 refine a7 (fun _ hK => ?_)
 refine a6 ?_
 refine wm ?_
 refine wv (OV.nilCheck rfl) ?_
 refine wv (OV.fieldAddr0 rfl ab7) ?_
 refine wv (OV.load rfl (At.own 0 rfl) rfl agp) ?_
 refine wv (OV.eqlPN rfl rfl Tryd.underlying85) ?_
 refine WL.nil ?_
 refine kg (hK [(0, zP b), (6, zB false)] _ ?_)
 refine e8 rfl ?_
 refine a7 (fun _ hK_1' => ?_)
 refine a6 ?_
 refine wm ?_
 refine wv (OV.nilCheck rfl) ?_
 refine wv (OV.fieldAddr0 rfl ab7) ?_
 refine wv (OV.load rfl (At.own 0 rfl) rfl agp) ?_
 refine wm ?_
 refine wv (OV.neqPS rfl rfl Tryd.underlying85 aml) ?_
 refine WL.nil ?_
 refine kg (hK_1' [(19, zB false)] _ ?_)
 refine e8 rfl ?_
 refine b5 ?_
 exact hE.norm [0] rfl rfl (.inl ⟨_, h, rfl⟩) (d6.none rfl)
theorem aos (b : Nat) (v : Value) : d7 Tryd.prog 54 [.pointer (some ⟨b, 0, none⟩)] [] [.blk b (.cells [.pointer none, v].toArray 90 (0, 0))] (Ret (.tuple #[]) [.blk b (.cells [.pointer (some ⟨b, 0, none⟩), v].toArray 90 (0, 0))]) :=
 (axf b v (fun u => u = v) rfl).weak fun o ho => by
  rcases ho with ⟨d, rfl, rfl⟩ | h
  ·rfl
  ·exact h.elim
theorem ao9 (b : Nat) (v : Value) : d7 Tryd.prog 54 [.pointer (some ⟨b, 0, none⟩)] [] [.blk b (.cells [.pointer (some ⟨b, 0, none⟩), v].toArray 90 (0, 0))] (Ret (.tuple #[]) [.blk b (.cells [.pointer (some ⟨b, 0, none⟩), v].toArray 90 (0, 0))]) :=
 (axp b v (fun u => u = v) rfl).weak fun o ho => by
  rcases ho with ⟨d, rfl, rfl⟩ | h
  ·rfl
  ·exact h.elim
def au1 (bl : List UInt8) (s : List UInt8) (K : Int → Value → (List UInt8) → Prop) : Prop :=
 (bl.length + s.length ≤ 140737488355328) ∧
 K (s.length : Int) Value.nilIface (bl ++ s)
theorem axl (b : Nat) (w : Value) (bl : List UInt8) (s : List UInt8) (K : Int → Value → (List UInt8) → Prop) (h : au1 bl s K) :
  d7 Tryd.prog 30 [zP b, st s] [] [HA.blk b (.cells [Value.pointer none, w].toArray 90 (0, 0)), HA.row w 5 1 bl.length (bl.flatMap j5)] (fun o => (∃ (v : Int) (v_1' : Value) (w_2' : Value) (d : List UInt8), K v v_1' d ∧ o = .ret (Value.tuple #[zI v, v_1']) [HA.blk b (.cells [zP b, w_2'].toArray 90 (0, 0)), HA.row w_2' 5 1 d.length (d.flatMap j5)]) ∨ (False)) := by
 unfold au1 at h
 refine c7 (n := 19) (L0 := [(0, zP b), (1, st s)]) Tryd.func30 rfl rfl rfl rfl (fun w0 M Q hE => ?_)
 refine a7 (fun _ hK => ?_)
 refine a6 ?_
 refine wA ?_
 refine wA ?_
 refine WL.nil ?_
 refine kg (hK [(0, zP b), (1, st s)] _ ?_)
 refine a7 (fun _ hK_1' => ?_)
 refine a6 ?_
 refine wm ?_
 refine WL.call afs rfl (aos b _) rfl trivial rfl rfl ?_
 refine WL.nil ?_
 refine kg (hK_1' [(0, zP b), (1, st s)] _ ?_)
 refine a7 (fun _ hK_2' => ?_)
 refine a6 ?_
 refine wm ?_
 refine wm ?_
 refine wv (OV.nilCheck rfl) ?_
 refine wv (OV.fieldAddr0 rfl u0) ?_
 refine wv (OV.load rfl (At.own 0 rfl) rfl aef) ?_
 refine wm ?_
 obtain ⟨o, h⟩ := h
 refine WL.appendS (m := s) 1 rfl rfl rfl f6 c8 abt o rfl rfl (fun w_1' => ?_)
 refine wv (OV.nilCheck rfl) ?_
 refine wv (OV.fieldAddr0 rfl u0) ?_
 refine WL.storeSl (cs' := [zP b, w_1']) 0 1 rfl rfl rfl rfl aeb (Nat.le_of_ble_eq_true rfl) rfl rfl ?_
 refine WL.nil ?_
 refine kg (hK_2' [(1, st s)] _ ?_)
 refine a7 (fun _ hK_3' => ?_)
 refine a6 ?_
 refine wm ?_
 refine wv (OV.len rfl c8) ?_
 refine wA ?_
 refine wA ?_
 refine WL.nil ?_
 refine kg (hK_3' [(4, zI (s.length : Int)), (5, Value.nilIface)] _ ?_)
 refine b8 ?_
 exact hE.ret [0, 1] rfl rfl (.inl ⟨_, _, _, _, h, rfl⟩) (d6.of2 rfl (RV.tmp rfl) (RV.tmp rfl))
def aux (bl : List UInt8) (s : List UInt8) (K : Int → Value → (List UInt8) → Prop) : Prop :=
 (bl.length + s.length ≤ 140737488355328) ∧
 K (s.length : Int) Value.nilIface (bl ++ s)
theorem axa (b : Nat) (w : Value) (bl : List UInt8) (s : List UInt8) (K : Int → Value → (List UInt8) → Prop) (h : aux bl s K) :
  d7 Tryd.prog 30 [zP b, st s] [] [HA.blk b (.cells [zP b, w].toArray 90 (0, 0)), HA.row w 5 1 bl.length (bl.flatMap j5)] (fun o => (∃ (v : Int) (v_1' : Value) (w_2' : Value) (d : List UInt8), K v v_1' d ∧ o = .ret (Value.tuple #[zI v, v_1']) [HA.blk b (.cells [zP b, w_2'].toArray 90 (0, 0)), HA.row w_2' 5 1 d.length (d.flatMap j5)]) ∨ (False)) := by
 unfold aux at h
 refine c7 (n := 19) (L0 := [(0, zP b), (1, st s)]) Tryd.func30 rfl rfl rfl rfl (fun w0 M Q hE => ?_)
 refine a7 (fun _ hK => ?_)
 refine a6 ?_
 refine wA ?_
 refine wA ?_
 refine WL.nil ?_
 refine kg (hK [(0, zP b), (1, st s)] _ ?_)
 refine a7 (fun _ hK_1' => ?_)
 refine a6 ?_
 refine wm ?_
 refine WL.call afs rfl (ao9 b _) rfl trivial rfl rfl ?_
 refine WL.nil ?_
 refine kg (hK_1' [(0, zP b), (1, st s)] _ ?_)
 refine a7 (fun _ hK_2' => ?_)
 refine a6 ?_
 refine wm ?_
 refine wm ?_
 refine wv (OV.nilCheck rfl) ?_
 refine wv (OV.fieldAddr0 rfl u0) ?_
 refine wv (OV.load rfl (At.own 0 rfl) rfl aef) ?_
 refine wm ?_
 obtain ⟨o, h⟩ := h
 refine WL.appendS (m := s) 1 rfl rfl rfl f6 c8 abt o rfl rfl (fun w_1' => ?_)
 refine wv (OV.nilCheck rfl) ?_
 refine wv (OV.fieldAddr0 rfl u0) ?_
 refine WL.storeSl (cs' := [zP b, w_1']) 0 1 rfl rfl rfl rfl aeb (Nat.le_of_ble_eq_true rfl) rfl rfl ?_
 refine WL.nil ?_
 refine kg (hK_2' [(1, st s)] _ ?_)
 refine a7 (fun _ hK_3' => ?_)
 refine a6 ?_
 refine wm ?_
 refine wv (OV.len rfl c8) ?_
 refine wA ?_
 refine wA ?_
 refine WL.nil ?_
 refine kg (hK_3' [(4, zI (s.length : Int)), (5, Value.nilIface)] _ ?_)
 refine b8 ?_
 exact hE.ret [0, 1] rfl rfl (.inl ⟨_, _, _, _, h, rfl⟩) (d6.of2 rfl (RV.tmp rfl) (RV.tmp rfl))
def au7 (bl : List UInt8) (s : List UInt8) (K : Int → Value → (List UInt8) → Prop) : Prop :=
 (bl.length + s.length ≤ 140737488355328) ∧
 K (s.length : Int) Value.nilIface (bl ++ s)
theorem axd (b : Nat) (w : Value) (bl : List UInt8) (s : List UInt8) (K : Int → Value → (List UInt8) → Prop) (h : au7 bl s K) :
  aa3 Tryd.prog 30 [zP b, st s] .returning .returning [] [HA.blk b (.cells [Value.pointer none, w].toArray 90 (0, 0)), HA.row w 5 1 bl.length (bl.flatMap j5)] (fun o => (∃ (v : Int) (v_1' : Value) (w_2' : Value) (d : List UInt8), K v v_1' d ∧ o = .ret (Value.tuple #[zI v, v_1']) [HA.blk b (.cells [zP b, w_2'].toArray 90 (0, 0)), HA.row w_2' 5 1 d.length (d.flatMap j5)]) ∨ (False)) := by
 unfold au7 at h
 refine aim (n := 19) (L0 := [(0, zP b), (1, st s)]) Tryd.func30 rfl rfl rfl rfl (fun w0 M Q hE => ?_)
 refine a7 (fun _ hK => ?_)
 refine a6 ?_
 refine wA ?_
 refine wA ?_
 refine WL.nil ?_
 refine kg (hK [(0, zP b), (1, st s)] _ ?_)
 refine a7 (fun _ hK_1' => ?_)
 refine a6 ?_
 refine wm ?_
 refine WL.call afs rfl (aos b _) rfl trivial rfl rfl ?_
 refine WL.nil ?_
 refine kg (hK_1' [(0, zP b), (1, st s)] _ ?_)
 refine a7 (fun _ hK_2' => ?_)
 refine a6 ?_
 refine wm ?_
 refine wm ?_
 refine wv (OV.nilCheck rfl) ?_
 refine wv (OV.fieldAddr0 rfl u0) ?_
 refine wv (OV.load rfl (At.own 0 rfl) rfl aef) ?_
 refine wm ?_
 obtain ⟨o, h⟩ := h
 refine WL.appendS (m := s) 1 rfl rfl rfl f6 c8 abt o rfl rfl (fun w_1' => ?_)
 refine wv (OV.nilCheck rfl) ?_
 refine wv (OV.fieldAddr0 rfl u0) ?_
 refine WL.storeSl (cs' := [zP b, w_1']) 0 1 rfl rfl rfl rfl aeb (Nat.le_of_ble_eq_true rfl) rfl rfl ?_
 refine WL.nil ?_
 refine kg (hK_2' [(1, st s)] _ ?_)
 refine a7 (fun _ hK_3' => ?_)
 refine a6 ?_
 refine wm ?_
 refine wv (OV.len rfl c8) ?_
 refine wA ?_
 refine wA ?_
 refine WL.nil ?_
 refine kg (hK_3' [(4, zI (s.length : Int)), (5, Value.nilIface)] _ ?_)
 refine b8 ?_
 exact hE.ret [0, 1] rfl rfl (.inl ⟨_, _, _, _, h, rfl⟩) (d6.of2 rfl (RV.tmp rfl) (RV.tmp rfl))
def avb (bl : List UInt8) (s : List UInt8) (K : Int → Value → (List UInt8) → Prop) : Prop :=
 (bl.length + s.length ≤ 140737488355328) ∧
 K (s.length : Int) Value.nilIface (bl ++ s)
theorem axe (b : Nat) (w : Value) (bl : List UInt8) (s : List UInt8) (K : Int → Value → (List UInt8) → Prop) (h : avb bl s K) :
  aa3 Tryd.prog 30 [zP b, st s] .returning .returning [] [HA.blk b (.cells [zP b, w].toArray 90 (0, 0)), HA.row w 5 1 bl.length (bl.flatMap j5)] (fun o => (∃ (v : Int) (v_1' : Value) (w_2' : Value) (d : List UInt8), K v v_1' d ∧ o = .ret (Value.tuple #[zI v, v_1']) [HA.blk b (.cells [zP b, w_2'].toArray 90 (0, 0)), HA.row w_2' 5 1 d.length (d.flatMap j5)]) ∨ (False)) := by
 unfold avb at h
 refine aim (n := 19) (L0 := [(0, zP b), (1, st s)]) Tryd.func30 rfl rfl rfl rfl (fun w0 M Q hE => ?_)
 refine a7 (fun _ hK => ?_)
 refine a6 ?_
 refine wA ?_
 refine wA ?_
 refine WL.nil ?_
 refine kg (hK [(0, zP b), (1, st s)] _ ?_)
 refine a7 (fun _ hK_1' => ?_)
 refine a6 ?_
 refine wm ?_
 refine WL.call afs rfl (ao9 b _) rfl trivial rfl rfl ?_
 refine WL.nil ?_
 refine kg (hK_1' [(0, zP b), (1, st s)] _ ?_)
 refine a7 (fun _ hK_2' => ?_)
 refine a6 ?_
 refine wm ?_
 refine wm ?_
 refine wv (OV.nilCheck rfl) ?_
 refine wv (OV.fieldAddr0 rfl u0) ?_
 refine wv (OV.load rfl (At.own 0 rfl) rfl aef) ?_
 refine wm ?_
 obtain ⟨o, h⟩ := h
 refine WL.appendS (m := s) 1 rfl rfl rfl f6 c8 abt o rfl rfl (fun w_1' => ?_)
 refine wv (OV.nilCheck rfl) ?_
 refine wv (OV.fieldAddr0 rfl u0) ?_
 refine WL.storeSl (cs' := [zP b, w_1']) 0 1 rfl rfl rfl rfl aeb (Nat.le_of_ble_eq_true rfl) rfl rfl ?_
 refine WL.nil ?_
 refine kg (hK_2' [(1, st s)] _ ?_)
 refine a7 (fun _ hK_3' => ?_)
 refine a6 ?_
 refine wm ?_
 refine wv (OV.len rfl c8) ?_
 refine wA ?_
 refine wA ?_
 refine WL.nil ?_
 refine kg (hK_3' [(4, zI (s.length : Int)), (5, Value.nilIface)] _ ?_)
 refine b8 ?_
 exact hE.ret [0, 1] rfl rfl (.inl ⟨_, _, _, _, h, rfl⟩) (d6.of2 rfl (RV.tmp rfl) (RV.tmp rfl))
theorem j0 (b : Nat) (l s : List UInt8) (hb : l.length + s.length ≤ 140737488355328) : d7 Tryd.prog 30 [.pointer (some ⟨b, 0, none⟩), st s] [] [bld 90 5 b l]
  (Ret (.tuple #[.int .i64 (s.length : Int), .nilIface]) [bld 90 5 b (l ++ s)]) := by
 refine d7.openBld fun q v hq => d7.closeBld ?_
 rcases hq with rfl | rfl
 ·refine (axl b v l s (fun n u d => n = (s.length : Int) ∧ u = .nilIface ∧ d = l ++ s) ⟨hb, rfl, rfl, rfl⟩).weak fun o ho => ?_
  rcases ho with ⟨n, u, w, d, ⟨rfl, rfl, rfl⟩, rfl⟩ | h
  ·exact ⟨_, w, .inr rfl, rfl⟩
  ·exact h.elim
 ·refine (axa b v l s (fun n u d => n = (s.length : Int) ∧ u = .nilIface ∧ d = l ++ s) ⟨hb, rfl, rfl, rfl⟩).weak fun o ho => ?_
  rcases ho with ⟨n, u, w, d, ⟨rfl, rfl, rfl⟩, rfl⟩ | h
  ·exact ⟨_, w, .inr rfl, rfl⟩
  ·exact h.elim
theorem ao5 (b : Nat) (l : List UInt8) : d7 Tryd.prog 32 [.pointer (some ⟨b, 0, none⟩)] [] [bld 90 5 b l] (Ret (st l) []) := an9 Tryd.lays169 Tryd.Builder_Extra_169 b l
theorem adc (b : Nat) (l s : List UInt8) (hb : l.length + s.length ≤ 140737488355328) : aa3 Tryd.prog 30 [.pointer (some ⟨b, 0, none⟩), st s] .returning .returning [] [bld 90 5 b l]
  (Ret (.tuple #[.int .i64 (s.length : Int), .nilIface]) [bld 90 5 b (l ++ s)]) := by
 refine aa3.openBld fun q v hq => aa3.closeBld ?_
 rcases hq with rfl | rfl
 ·refine (axd b v l s (fun n u d => n = (s.length : Int) ∧ u = .nilIface ∧ d = l ++ s) ⟨hb, rfl, rfl, rfl⟩).weak fun o ho => ?_
  rcases ho with ⟨n, u, w, d, ⟨rfl, rfl, rfl⟩, rfl⟩ | h
  ·exact ⟨_, w, .inr rfl, rfl⟩
  ·exact h.elim
 ·refine (axe b v l s (fun n u d => n = (s.length : Int) ∧ u = .nilIface ∧ d = l ++ s) ⟨hb, rfl, rfl, rfl⟩).weak fun o ho => ?_
  rcases ho with ⟨n, u, w, d, ⟨rfl, rfl, rfl⟩, rfl⟩ | h
  ·exact ⟨_, w, .inr rfl, rfl⟩
  ·exact h.elim
end Go.Proofs.YtifajndacnfcbaaDoor
set_option maxRecDepth 100000
namespace Go.Proofs.YtifajndacnfcbaaDoor
open Go Go.RowKit
def ajx (s : List UInt8) (K : (List UInt8) → Prop) : Prop :=
 ∃ (Inv : Int → (List UInt8) → Prop) (mu : Int → (List UInt8) → Nat),
  Inv 0 [34] ∧ ∀ (t9_1' : Int) (l_3' : List UInt8), Inv t9_1' l_3' →
   (if (decide (t9_1' < (s.length : Int))) = true then
    ∃ (J0_2' : (List UInt8) → Prop),
     (∀ (l_4' : List UInt8), J0_2' l_4' →
      (I64 (t9_1' + 1)) ∧
      Inv (t9_1' + 1) l_4' ∧ mu (t9_1' + 1) l_4' < mu t9_1' l_3') ∧
     (0 ≤ t9_1' ∧ t9_1' < s.length) ∧
     (if ((decide (((s.getD t9_1'.toNat 0).toNat : Int) = 34)) || (decide (((s.getD t9_1'.toNat 0).toNat : Int) = 92))) = true then
      (((l_3'.length + 2) + (l_3'.length + 2) / 4 + 192) * 1 ≤ 281474976710656 ∧ l_3'.length + 2 ≤ 9223372036854775807) ∧
      J0_2' (l_3' ++ [92, (s.getD t9_1'.toNat 0)])
     else
      (if ((decide (32 ≤ ((s.getD t9_1'.toNat 0).toNat : Int))) && (decide (((s.getD t9_1'.toNat 0).toNat : Int) ≤ 126))) = true then
       (((l_3'.length + 1) + (l_3'.length + 1) / 4 + 192) * 1 ≤ 281474976710656 ∧ l_3'.length + 1 ≤ 9223372036854775807) ∧
       J0_2' (l_3' ++ [(s.getD t9_1'.toNat 0)])
      else
       (if (decide (((s.getD t9_1'.toNat 0).toNat : Int) = 10)) = true then
        (l_3'.length + ([92, 110] : List UInt8).length ≤ 140737488355328) ∧
        J0_2' (l_3' ++ ([92, 110] : List UInt8))
       else
        (if (decide (((s.getD t9_1'.toNat 0).toNat : Int) = 13)) = true then
         (l_3'.length + ([92, 114] : List UInt8).length ≤ 140737488355328) ∧
         J0_2' (l_3' ++ ([92, 114] : List UInt8))
        else
         (if (decide (((s.getD t9_1'.toNat 0).toNat : Int) = 9)) = true then
          (l_3'.length + ([92, 116] : List UInt8).length ≤ 140737488355328) ∧
          J0_2' (l_3' ++ ([92, 116] : List UInt8))
         else
          (0 ≤ (((s.getD t9_1'.toNat 0).toNat : Int) / 2 ^ (4 : Int).toNat) ∧ (((s.getD t9_1'.toNat 0).toNat : Int) / 2 ^ (4 : Int).toNat) < ([48, 49, 50, 51, 52, 53, 54, 55, 56, 57, 97, 98, 99, 100, 101, 102] : List UInt8).length) ∧
          (0 ≤ (bits .and .u8 ((s.getD t9_1'.toNat 0).toNat : Int) 15) ∧ (bits .and .u8 ((s.getD t9_1'.toNat 0).toNat : Int) 15) < ([48, 49, 50, 51, 52, 53, 54, 55, 56, 57, 97, 98, 99, 100, 101, 102] : List UInt8).length) ∧
          (((l_3'.length + 4) + (l_3'.length + 4) / 4 + 192) * 1 ≤ 281474976710656 ∧ l_3'.length + 4 ≤ 9223372036854775807) ∧
          J0_2' (l_3' ++ [92, 120, (([48, 49, 50, 51, 52, 53, 54, 55, 56, 57, 97, 98, 99, 100, 101, 102] : List UInt8).getD (((s.getD t9_1'.toNat 0).toNat : Int) / 2 ^ (4 : Int).toNat).toNat 0), (([48, 49, 50, 51, 52, 53, 54, 55, 56, 57, 97, 98, 99, 100, 101, 102] : List UInt8).getD (bits .and .u8 ((s.getD t9_1'.toNat 0).toNat : Int) 15).toNat 0)]))))))
   else
    (((l_3'.length + 1) + (l_3'.length + 1) / 4 + 192) * 1 ≤ 281474976710656 ∧ l_3'.length + 1 ≤ 9223372036854775807) ∧
    K (l_3' ++ [34]))
theorem avi  (s : List UInt8) (K : (List UInt8) → Prop) (h : ajx s K) :
  d7 Tryd.prog 56 [st s] [] [] (fun o => (∃ (v : List UInt8), K v ∧ o = .ret (st v) []) ∨ (False)) := by
 unfold ajx at h
 refine c7 (n := 66) (L0 := [(0, st s)]) Tryd.func56 rfl rfl rfl rfl (fun w0 M Q hE => ?_)
 refine a7 (fun _ hK => ?_)
 refine a6 ?_
 refine wA ?_
 refine WL.nil ?_
 refine kg (hK [(0, st s)] _ ?_)
 refine a7 (fun _ hK_1' => ?_)
 refine a6 ?_
 refine WL.make (MV.buildSlice (cs := [zU 34]) rfl f6 (by kernel_rfl)) rfl rfl rfl (fun b => ?_)
 refine WL.asRow (f := j5) (ms := [34]) 0 rfl rfl rfl m4 rfl ?_
 refine wA ?_
 refine WL.nil ?_
 refine kg (hK_1' [(0, st s), (3, Value.slice (some ⟨b, 0, none⟩) 1 1)] _ ?_)
 refine a7 (fun _ hK_2' => ?_)
 refine a7 (fun _ hK_3' => ?_)
 refine a6 ?_
 refine wm ?_
 refine wv (OV.len rfl c8) ?_
 refine wm ?_
 refine WL.nil ?_
 refine kg (hK_3' [(0, st s), (3, Value.slice (some ⟨b, 0, none⟩) 1 1), (8, zI (s.length : Int)), (9, zI 0)] _ ?_)
 refine b7 ?_
 obtain ⟨Inv, mu, h0, hr⟩ := h
 refine n6 (S := Int × Value × (List UInt8)) (fun σ => Inv σ.1 σ.2.2) (fun σ => mu σ.1 σ.2.2) (fun σ => [(0, st s), (3, σ.2.1), (8, zI (s.length : Int)), (9, zI σ.1)]) (fun σ => [HA.row σ.2.1 5 1 σ.2.2.length (σ.2.2.flatMap j5)]) (0, Value.slice (some ⟨b, 0, none⟩) 1 1, [34]) h0 ⟨rfl, rfl, rfl, rfl, trivial⟩ rfl ?_
 rintro ⟨t9_1', w_27', l_3'⟩ hi K0_46' hK_46'
 have h := hr t9_1' l_3' hi
 show WC _ _ _ _ [(0, st s), (3, w_27'), (8, zI (s.length : Int)), (9, zI t9_1')] [HA.row w_27' 5 1 l_3'.length (l_3'.flatMap j5)]
 refine a7 (fun _ hK_47' => ?_)
 refine a6 ?_
 refine wv (OV.lss rfl rfl) ?_
 refine WL.nil ?_
 refine kg (hK_47' [(0, st s), (3, w_27'), (8, zI (s.length : Int)), (9, zI t9_1'), (10, zB (decide (t9_1' < (s.length : Int))))] _ ?_)
 refine a7 (fun _ hK_48' => ?_)
 refine a8 (b := decide (t9_1' < (s.length : Int))) rfl (fun hb => ?_) (fun hb => ?_)
 ·replace h := e6 h hb
  refine b5 ?_
  refine kg (hK_48' [(0, st s), (3, w_27'), (8, zI (s.length : Int)), (9, zI t9_1')] _ ?_)
  obtain ⟨J0_2', hJ_2', h⟩ := h
  refine l4 (X := Value × (List UInt8)) (fun σ => J0_2' σ.2) (fun σ => [(0, st s), (3, σ.1), (8, zI (s.length : Int)), (9, zI t9_1')]) (fun σ => [HA.row σ.1 5 1 σ.2.length (σ.2.flatMap j5)]) ?_ (fun K0_58' hK_58' => ?_)
  ·rintro ⟨w_34', l_4'⟩ hj
   replace h := hJ_2' l_4' hj
   show WC _ _ _ _ [(0, st s), (3, w_34'), (8, zI (s.length : Int)), (9, zI t9_1')] [HA.row w_34' 5 1 l_4'.length (l_4'.flatMap j5)]
   refine a6 ?_
   obtain ⟨o_56', h⟩ := h
   refine wv (OV.add rfl rfl o_56') ?_
   refine wm ?_
   refine WL.nil ?_
   exact kh (hK_46' (t9_1' + 1, w_34', l_4') h.1 h.2) [0]
  ·skip
   refine b7 ?_
   refine a7 (fun _ hK_59' => ?_)
   refine a6 ?_
   refine wm ?_
   refine wA ?_
   refine WL.nil ?_
   refine kg (hK_59' [(0, st s), (3, w_27'), (4, zI t9_1'), (8, zI (s.length : Int)), (9, zI t9_1')] _ ?_)
   refine a7 (fun _ hK_60' => ?_)
   refine a6 ?_
   refine wm ?_
   refine wm ?_
   obtain ⟨o_57', h⟩ := h
   refine wv (OV.index rfl rfl c8 o_57') ?_
   refine wA ?_
   refine WL.nil ?_
   refine kg (hK_60' [(0, st s), (3, w_27'), (5, zU ((s.getD t9_1'.toNat 0).toNat : Int)), (8, zI (s.length : Int)), (9, zI t9_1')] _ ?_)
   refine b7 ?_
   refine a7 (fun _ hK_61' => ?_)
   refine a6 ?_
   refine wm ?_
   refine wv (OV.eql rfl rfl) ?_
   refine wm ?_
   refine WL.cut 3 [(0, st s), (3, w_27'), (5, zU ((s.getD t9_1'.toNat 0).toNat : Int)), (8, zI (s.length : Int)), (9, zI t9_1'), (30, zB ((decide (((s.getD t9_1'.toNat 0).toNat : Int) = 34)) || (decide (((s.getD t9_1'.toNat 0).toNat : Int) = 92))))] ?_ (fun K0_62' hK_62' => ?_)
   rotate_left
   ·refine WL.split (decide (((s.getD t9_1'.toNat 0).toNat : Int) = 34)) (fun hb => ?_) (fun hb => ?_)
    ·refine WL.set 27 rfl (congrArg zB hb) ?_
     refine wk ?_
     refine wk ?_
     refine wv (OV.pickT rfl rfl) ?_
     refine WL.set 30 rfl (oT (v := decide (((s.getD t9_1'.toNat 0).toNat : Int) = 92)) hb) ?_
     exact WL.end_ (kg hK_62')
    ·refine WL.set 27 rfl (congrArg zB hb) ?_
     refine wm ?_
     refine wv (OV.eql rfl rfl) ?_
     refine wv (OV.pickF rfl rfl) ?_
     refine WL.set 30 rfl (oF (v := decide (((s.getD t9_1'.toNat 0).toNat : Int) = 92)) hb) ?_
     exact WL.end_ (kg hK_62')
   refine wA ?_
   refine WL.nil ?_
   refine kg (hK_61' [(0, st s), (3, w_27'), (5, zU ((s.getD t9_1'.toNat 0).toNat : Int)), (8, zI (s.length : Int)), (9, zI t9_1'), (24, zB ((decide (((s.getD t9_1'.toNat 0).toNat : Int) = 34)) || (decide (((s.getD t9_1'.toNat 0).toNat : Int) = 92))))] _ ?_)
   refine a8 (b := (decide (((s.getD t9_1'.toNat 0).toNat : Int) = 34)) || (decide (((s.getD t9_1'.toNat 0).toNat : Int) = 92))) rfl (fun hb => ?_) (fun hb => ?_)
   ·replace h := e6 h hb
    refine a6 ?_
    refine wm ?_
    refine wm ?_
    refine WL.make (MV.buildSlice (cs := [zU 92, zU ((s.getD t9_1'.toNat 0).toNat : Int)]) rfl f6 (by kernel_rfl)) rfl rfl rfl (fun b_16' => ?_)
    obtain ⟨o_59', h⟩ := h
    refine WL.append (f := j5) (ms := [92, (s.getD t9_1'.toNat 0)]) 1 0 rfl rfl rfl rfl rfl rfl m4 (by decide) rfl f6 m8 rfl o_59' rfl rfl (fun w_35' => ?_)
    refine wA ?_
    refine WL.nil ?_
    exact kh (hK_58' (w_35', l_3' ++ [92, (s.getD t9_1'.toNat 0)]) h) [1]
   ·replace h := d9 h hb
    refine a7 (fun _ hK_63' => ?_)
    refine a6 ?_
    refine wm ?_
    refine wv (OV.geq rfl rfl) ?_
    refine wm ?_
    refine WL.cut 3 [(0, st s), (3, w_27'), (5, zU ((s.getD t9_1'.toNat 0).toNat : Int)), (8, zI (s.length : Int)), (9, zI t9_1'), (41, zB ((decide (32 ≤ ((s.getD t9_1'.toNat 0).toNat : Int))) && (decide (((s.getD t9_1'.toNat 0).toNat : Int) ≤ 126))))] ?_ (fun K0_64' hK_64' => ?_)
    rotate_left
    ·refine WL.split (decide (32 ≤ ((s.getD t9_1'.toNat 0).toNat : Int))) (fun hb => ?_) (fun hb => ?_)
     ·refine WL.set 38 rfl (congrArg zB hb) ?_
      refine wm ?_
      refine wv (OV.leq rfl rfl) ?_
      refine wv (OV.pickT rfl rfl) ?_
      refine WL.set 41 rfl (bT (v := decide (((s.getD t9_1'.toNat 0).toNat : Int) ≤ 126)) hb) ?_
      exact WL.end_ (kg hK_64')
     ·refine WL.set 38 rfl (congrArg zB hb) ?_
      refine wk ?_
      refine wk ?_
      refine wv (OV.pickF rfl rfl) ?_
      refine WL.set 41 rfl (bF (v := decide (((s.getD t9_1'.toNat 0).toNat : Int) ≤ 126)) hb) ?_
      exact WL.end_ (kg hK_64')
    refine wA ?_
    refine WL.nil ?_
    refine kg (hK_63' [(0, st s), (3, w_27'), (5, zU ((s.getD t9_1'.toNat 0).toNat : Int)), (8, zI (s.length : Int)), (9, zI t9_1'), (35, zB ((decide (32 ≤ ((s.getD t9_1'.toNat 0).toNat : Int))) && (decide (((s.getD t9_1'.toNat 0).toNat : Int) ≤ 126))))] _ ?_)
    refine a8 (b := (decide (32 ≤ ((s.getD t9_1'.toNat 0).toNat : Int))) && (decide (((s.getD t9_1'.toNat 0).toNat : Int) ≤ 126))) rfl (fun hb => ?_) (fun hb => ?_)
    ·replace h := e6 h hb
     refine a6 ?_
     refine wm ?_
     refine wm ?_
     refine WL.make (MV.buildSlice (cs := [zU ((s.getD t9_1'.toNat 0).toNat : Int)]) rfl f6 (by kernel_rfl)) rfl rfl rfl (fun b_17' => ?_)
     obtain ⟨o_61', h⟩ := h
     refine WL.append (f := j5) (ms := [(s.getD t9_1'.toNat 0)]) 1 0 rfl rfl rfl rfl rfl rfl m4 (by decide) rfl f6 m8 rfl o_61' rfl rfl (fun w_36' => ?_)
     refine wA ?_
     refine WL.nil ?_
     exact kh (hK_58' (w_36', l_3' ++ [(s.getD t9_1'.toNat 0)]) h) [1]
    ·replace h := d9 h hb
     refine a7 (fun _ hK_65' => ?_)
     refine a6 ?_
     refine wm ?_
     refine wv (OV.eql rfl rfl) ?_
     refine wA ?_
     refine WL.nil ?_
     refine kg (hK_65' [(0, st s), (3, w_27'), (5, zU ((s.getD t9_1'.toNat 0).toNat : Int)), (8, zI (s.length : Int)), (9, zI t9_1'), (46, zB (decide (((s.getD t9_1'.toNat 0).toNat : Int) = 10)))] _ ?_)
     refine a8 (b := decide (((s.getD t9_1'.toNat 0).toNat : Int) = 10)) rfl (fun hb => ?_) (fun hb => ?_)
     ·replace h := e6 h hb
      refine a6 ?_
      refine wm ?_
      obtain ⟨o_62', h⟩ := h
      refine WL.appendS (m := ([92, 110] : List UInt8)) 0 rfl rfl rfl f6 c8 abt o_62' rfl rfl (fun w_37' => ?_)
      refine wA ?_
      refine WL.nil ?_
      exact kh (hK_58' (w_37', l_3' ++ ([92, 110] : List UInt8)) h) [0]
     ·replace h := d9 h hb
      refine a7 (fun _ hK_66' => ?_)
      refine a6 ?_
      refine wm ?_
      refine wv (OV.eql rfl rfl) ?_
      refine wA ?_
      refine WL.nil ?_
      refine kg (hK_66' [(0, st s), (3, w_27'), (5, zU ((s.getD t9_1'.toNat 0).toNat : Int)), (8, zI (s.length : Int)), (9, zI t9_1'), (51, zB (decide (((s.getD t9_1'.toNat 0).toNat : Int) = 13)))] _ ?_)
      refine a8 (b := decide (((s.getD t9_1'.toNat 0).toNat : Int) = 13)) rfl (fun hb => ?_) (fun hb => ?_)
      ·replace h := e6 h hb
       refine a6 ?_
       refine wm ?_
       obtain ⟨o_63', h⟩ := h
       refine WL.appendS (m := ([92, 114] : List UInt8)) 0 rfl rfl rfl f6 c8 abt o_63' rfl rfl (fun w_38' => ?_)
       refine wA ?_
       refine WL.nil ?_
       exact kh (hK_58' (w_38', l_3' ++ ([92, 114] : List UInt8)) h) [0]
      ·replace h := d9 h hb
       refine a7 (fun _ hK_67' => ?_)
       refine a6 ?_
       refine wm ?_
       refine wv (OV.eql rfl rfl) ?_
       refine wA ?_
       refine WL.nil ?_
       refine kg (hK_67' [(0, st s), (3, w_27'), (5, zU ((s.getD t9_1'.toNat 0).toNat : Int)), (8, zI (s.length : Int)), (9, zI t9_1'), (56, zB (decide (((s.getD t9_1'.toNat 0).toNat : Int) = 9)))] _ ?_)
       refine a8 (b := decide (((s.getD t9_1'.toNat 0).toNat : Int) = 9)) rfl (fun hb => ?_) (fun hb => ?_)
       ·replace h := e6 h hb
        refine a6 ?_
        refine wm ?_
        obtain ⟨o_64', h⟩ := h
        refine WL.appendS (m := ([92, 116] : List UInt8)) 0 rfl rfl rfl f6 c8 abt o_64' rfl rfl (fun w_39' => ?_)
        refine wA ?_
        refine WL.nil ?_
        exact kh (hK_58' (w_39', l_3' ++ ([92, 116] : List UInt8)) h) [0]
       ·replace h := d9 h hb
        refine k8 8 [(7, .cells [zU 92, zU 120, zU ((([48, 49, 50, 51, 52, 53, 54, 55, 56, 57, 97, 98, 99, 100, 101, 102] : List UInt8).getD (((s.getD t9_1'.toNat 0).toNat : Int) / 2 ^ (4 : Int).toNat).toNat 0).toNat : Int), zU ((([48, 49, 50, 51, 52, 53, 54, 55, 56, 57, 97, 98, 99, 100, 101, 102] : List UInt8).getD (bits .and .u8 ((s.getD t9_1'.toNat 0).toNat : Int) 15).toNat 0).toNat : Int)].toArray 5 (0, 0))] f0 (by kernel_rfl) rfl (fun T_5' hT_5' => ?_)
        refine fv (fun _ => OV.move rfl) ?_
        refine fv (fun _ => OV.move rfl) ?_
        refine fv (fun _ => OV.shr rfl rfl ⟨by decide, by decide⟩) ?_
        obtain ⟨o_65', h⟩ := h
        refine fv (fun _ => OV.index rfl rfl c8 o_65') ?_
        refine fv (fun _ => OV.move rfl) ?_
        refine fv (fun _ => OV.bits_and rfl rfl) ?_
        obtain ⟨o_66', h⟩ := h
        refine fv (fun _ => OV.index rfl rfl c8 o_66') ?_
        refine FL.make (fun _ => MV.buildSlice (cs := [zU 92, zU 120, zU ((([48, 49, 50, 51, 52, 53, 54, 55, 56, 57, 97, 98, 99, 100, 101, 102] : List UInt8).getD (((s.getD t9_1'.toNat 0).toNat : Int) / 2 ^ (4 : Int).toNat).toNat 0).toNat : Int), zU ((([48, 49, 50, 51, 52, 53, 54, 55, 56, 57, 97, 98, 99, 100, 101, 102] : List UInt8).getD (bits .and .u8 ((s.getD t9_1'.toNat 0).toNat : Int) 15).toNat 0).toNat : Int)]) rfl f6 (by kernel_rfl)) rfl (fun _ => rfl) rfl rfl ?_
        refine FL.weak (L' := fun γ => [(0, st s), (3, w_27'), (8, zI (s.length : Int)), (9, zI t9_1'), (15, w_27'), (22, Value.slice (some ⟨(γ 7), 0, none⟩) 4 4)]) (fun γ => ⟨rfl, rfl, rfl, rfl, rfl, rfl, trivial⟩) (FL.nil (hT_5' (fun γ => [(0, st s), (3, w_27'), (8, zI (s.length : Int)), (9, zI t9_1'), (15, w_27'), (22, Value.slice (some ⟨(γ 7), 0, none⟩) 4 4)]) (fun γ => ?_)))
        show WL _ _ _ _ [(0, st s), (3, w_27'), (8, zI (s.length : Int)), (9, zI t9_1'), (15, w_27'), (22, Value.slice (some ⟨(γ 7), 0, none⟩) 4 4)] [HA.blk (γ 7) (.cells [zU 92, zU 120, zU ((([48, 49, 50, 51, 52, 53, 54, 55, 56, 57, 97, 98, 99, 100, 101, 102] : List UInt8).getD (((s.getD t9_1'.toNat 0).toNat : Int) / 2 ^ (4 : Int).toNat).toNat 0).toNat : Int), zU ((([48, 49, 50, 51, 52, 53, 54, 55, 56, 57, 97, 98, 99, 100, 101, 102] : List UInt8).getD (bits .and .u8 ((s.getD t9_1'.toNat 0).toNat : Int) 15).toNat 0).toNat : Int)].toArray 5 (0, 0)), HA.row w_27' 5 1 l_3'.length (l_3'.flatMap j5)] _
        generalize γ 7 = b_18'
        obtain ⟨o_67', h⟩ := h
        refine WL.append (f := j5) (ms := [92, 120, (([48, 49, 50, 51, 52, 53, 54, 55, 56, 57, 97, 98, 99, 100, 101, 102] : List UInt8).getD (((s.getD t9_1'.toNat 0).toNat : Int) / 2 ^ (4 : Int).toNat).toNat 0), (([48, 49, 50, 51, 52, 53, 54, 55, 56, 57, 97, 98, 99, 100, 101, 102] : List UInt8).getD (bits .and .u8 ((s.getD t9_1'.toNat 0).toNat : Int) 15).toNat 0)]) 1 0 rfl rfl rfl rfl rfl rfl m4 (by decide) rfl f6 m8 rfl o_67' rfl rfl (fun w_40' => ?_)
        refine wA ?_
        refine WL.nil ?_
        exact kh (hK_58' (w_40', l_3' ++ [92, 120, (([48, 49, 50, 51, 52, 53, 54, 55, 56, 57, 97, 98, 99, 100, 101, 102] : List UInt8).getD (((s.getD t9_1'.toNat 0).toNat : Int) / 2 ^ (4 : Int).toNat).toNat 0), (([48, 49, 50, 51, 52, 53, 54, 55, 56, 57, 97, 98, 99, 100, 101, 102] : List UInt8).getD (bits .and .u8 ((s.getD t9_1'.toNat 0).toNat : Int) 15).toNat 0)]) h) [1]
 ·replace h := d9 h hb
  refine k9 ?_
  refine kg (hK_2' [(3, w_27')] _ ?_)
  refine a7 (fun _ hK_68' => ?_)
  refine a6 ?_
  refine wm ?_
  refine WL.make (MV.buildSlice (cs := [zU 34]) rfl f6 (by kernel_rfl)) rfl rfl rfl (fun b_19' => ?_)
  obtain ⟨o_68', h⟩ := h
  refine WL.append (f := j5) (ms := [34]) 1 0 rfl rfl rfl rfl rfl rfl m4 (by decide) rfl f6 m8 rfl o_68' rfl rfl (fun w_41' => ?_)
  refine wv (OV.bytesRow (l := l_3' ++ [34]) 1 rfl rfl f6 Tryd.underlying5 c8) ?_
  refine wA ?_
  refine WL.nil ?_
  refine kg (hK_68' [(2, st (l_3' ++ [34]))] _ ?_)
  refine b8 ?_
  exact hE.ret [] rfl rfl (.inl ⟨_, h, rfl⟩) (d6.of1 rfl (RV.tmp rfl))
def ae4 (s : List UInt8) (K : (List UInt8) → Prop) : Prop :=
 (((([] : List UInt8).length + 1) + (([] : List UInt8).length + 1) / 4 + 192) * 1 ≤ 281474976710656 ∧ ([] : List UInt8).length + 1 ≤ 9223372036854775807) ∧
 ∃ (Inv : Int → (List UInt8) → Prop) (mu : Int → (List UInt8) → Nat),
  Inv 0 (([] : List UInt8) ++ [34]) ∧ ∀ (i_1' : Int) (l_7' : List UInt8), Inv i_1' l_7' →
   (if (decide (i_1' < (s.length : Int))) = true then
    ∃ (J0_7' : (List UInt8) → Prop),
     (∀ (l_9' : List UInt8), J0_7' l_9' →
      (I64 (i_1' + 1)) ∧
      Inv (i_1' + 1) l_9' ∧ mu (i_1' + 1) l_9' < mu i_1' l_7') ∧
     (0 ≤ i_1' ∧ i_1' < s.length) ∧
     (if (decide (((s.getD i_1'.toNat 0).toNat : Int) = 10)) = true then
      (((l_7'.length + 2) + (l_7'.length + 2) / 4 + 192) * 1 ≤ 281474976710656 ∧ l_7'.length + 2 ≤ 9223372036854775807) ∧
      J0_7' (l_7' ++ [92, 110])
     else
      (if (decide (((s.getD i_1'.toNat 0).toNat : Int) = 13)) = true then
       (((l_7'.length + 2) + (l_7'.length + 2) / 4 + 192) * 1 ≤ 281474976710656 ∧ l_7'.length + 2 ≤ 9223372036854775807) ∧
       J0_7' (l_7' ++ [92, 114])
      else
       (if (decide (((s.getD i_1'.toNat 0).toNat : Int) = 9)) = true then
        (((l_7'.length + 2) + (l_7'.length + 2) / 4 + 192) * 1 ≤ 281474976710656 ∧ l_7'.length + 2 ≤ 9223372036854775807) ∧
        J0_7' (l_7' ++ [92, 116])
       else
        (if ((decide (((s.getD i_1'.toNat 0).toNat : Int) < 32)) || (decide (126 < ((s.getD i_1'.toNat 0).toNat : Int)))) = true then
         (0 ≤ ((s.getD i_1'.toNat 0).toNat : Int) ∧ ((s.getD i_1'.toNat 0).toNat : Int) < 256 ∧ 0 < (16 : Int)) ∧
         (0 ≤ (((s.getD i_1'.toNat 0).toNat : Int) / 16) ∧ (((s.getD i_1'.toNat 0).toNat : Int) / 16) < ([48, 49, 50, 51, 52, 53, 54, 55, 56, 57, 97, 98, 99, 100, 101, 102] : List UInt8).length) ∧
         (0 ≤ ((s.getD i_1'.toNat 0).toNat : Int) ∧ 0 < (16 : Int)) ∧
         (0 ≤ (((s.getD i_1'.toNat 0).toNat : Int) % 16) ∧ (((s.getD i_1'.toNat 0).toNat : Int) % 16) < ([48, 49, 50, 51, 52, 53, 54, 55, 56, 57, 97, 98, 99, 100, 101, 102] : List UInt8).length) ∧
         (((l_7'.length + 4) + (l_7'.length + 4) / 4 + 192) * 1 ≤ 281474976710656 ∧ l_7'.length + 4 ≤ 9223372036854775807) ∧
         J0_7' (l_7' ++ [92, 120, (([48, 49, 50, 51, 52, 53, 54, 55, 56, 57, 97, 98, 99, 100, 101, 102] : List UInt8).getD (((s.getD i_1'.toNat 0).toNat : Int) / 16).toNat 0), (([48, 49, 50, 51, 52, 53, 54, 55, 56, 57, 97, 98, 99, 100, 101, 102] : List UInt8).getD (((s.getD i_1'.toNat 0).toNat : Int) % 16).toNat 0)])
        else
         ∃ (J0_8' : (List UInt8) → Prop),
          (∀ (l_10' : List UInt8), J0_8' l_10' →
           (((l_10'.length + 1) + (l_10'.length + 1) / 4 + 192) * 1 ≤ 281474976710656 ∧ l_10'.length + 1 ≤ 9223372036854775807) ∧
           J0_7' (l_10' ++ [(s.getD i_1'.toNat 0)])) ∧
          (if ((decide (((s.getD i_1'.toNat 0).toNat : Int) = 34)) || (decide (((s.getD i_1'.toNat 0).toNat : Int) = 92))) = true then
           (((l_7'.length + 1) + (l_7'.length + 1) / 4 + 192) * 1 ≤ 281474976710656 ∧ l_7'.length + 1 ≤ 9223372036854775807) ∧
           J0_8' (l_7' ++ [92])
          else
           J0_8' l_7')))))
   else
    (((l_7'.length + 1) + (l_7'.length + 1) / 4 + 192) * 1 ≤ 281474976710656 ∧ l_7'.length + 1 ≤ 9223372036854775807) ∧
    K (l_7' ++ [34]))
theorem apb  (s : List UInt8) (K : (List UInt8) → Prop) (h : ae4 s K) :
  d7 Tryd.prog 57 [st s] [] [] (fun o => (∃ (v : List UInt8), K v ∧ o = .ret (st v) []) ∨ (False)) := by
 unfold ae4 at h
 refine c7 (n := 69) (L0 := [(0, st s)]) Tryd.func57 rfl rfl rfl rfl (fun w0 M Q hE => ?_)
 refine a7 (fun _ hK => ?_)
 refine a6 ?_
 refine wA ?_
 refine WL.nil ?_
 refine kg (hK [(0, st s)] _ ?_)
 refine a7 (fun _ hK_1' => ?_)
 refine a6 ?_
 refine wA ?_
 refine WL.nilRow 5 1 j5 ?_
 refine WL.nil ?_
 refine kg (hK_1' [(0, st s), (3, Value.slice none 0 0)] _ ?_)
 refine a7 (fun _ hK_2' => ?_)
 refine a6 ?_
 refine wm ?_
 refine WL.make (MV.buildSlice (cs := [zU 34]) rfl f6 (by kernel_rfl)) rfl rfl rfl (fun b => ?_)
 obtain ⟨o, h⟩ := h
 refine WL.append (f := j5) (ms := [34]) 1 0 rfl rfl rfl rfl rfl rfl m4 (by decide) rfl f6 m8 rfl o rfl rfl (fun w => ?_)
 refine wA ?_
 refine WL.nil ?_
 refine kg (hK_2' [(0, st s), (3, w)] _ ?_)
 refine a7 (fun _ hK_3' => ?_)
 refine a6 ?_
 refine wA ?_
 refine WL.nil ?_
 refine kg (hK_3' [(0, st s), (3, w), (4, st ([48, 49, 50, 51, 52, 53, 54, 55, 56, 57, 97, 98, 99, 100, 101, 102] : List UInt8))] _ ?_)
 refine a7 (fun _ hK_4' => ?_)
 refine a7 (fun _ hK_5' => ?_)
 refine a6 ?_
 refine wA ?_
 refine WL.nil ?_
 refine kg (hK_5' [(0, st s), (3, w), (4, st ([48, 49, 50, 51, 52, 53, 54, 55, 56, 57, 97, 98, 99, 100, 101, 102] : List UInt8)), (5, zI 0)] _ ?_)
 refine b7 ?_
 refine WC.pick (H' := [HA.row w 5 1 (([] : List UInt8) ++ [34]).length ((([] : List UInt8) ++ [34]).flatMap j5)]) [1] rfl rfl ?_
 obtain ⟨Inv, mu, h0, hr⟩ := h
 refine n6 (S := Int × Value × (List UInt8)) (fun σ => Inv σ.1 σ.2.2) (fun σ => mu σ.1 σ.2.2) (fun σ => [(0, st s), (3, σ.2.1), (4, st ([48, 49, 50, 51, 52, 53, 54, 55, 56, 57, 97, 98, 99, 100, 101, 102] : List UInt8)), (5, zI σ.1)]) (fun σ => [HA.row σ.2.1 5 1 σ.2.2.length (σ.2.2.flatMap j5)]) (0, w, ([] : List UInt8) ++ [34]) h0 ⟨rfl, rfl, rfl, rfl, trivial⟩ rfl ?_
 rintro ⟨i_1', w_36', l_7'⟩ hi K0_56' hK_56'
 have h := hr i_1' l_7' hi
 show WC _ _ _ _ [(0, st s), (3, w_36'), (4, st ([48, 49, 50, 51, 52, 53, 54, 55, 56, 57, 97, 98, 99, 100, 101, 102] : List UInt8)), (5, zI i_1')] [HA.row w_36' 5 1 l_7'.length (l_7'.flatMap j5)]
 refine a7 (fun _ hK_57' => ?_)
 refine a7 (fun _ hK_58' => ?_)
 refine a6 ?_
 refine wm ?_
 refine wm ?_
 refine wv (OV.len rfl c8) ?_
 refine wv (OV.lss rfl rfl) ?_
 refine WL.nil ?_
 refine kg (hK_58' [(0, st s), (3, w_36'), (4, st ([48, 49, 50, 51, 52, 53, 54, 55, 56, 57, 97, 98, 99, 100, 101, 102] : List UInt8)), (5, zI i_1'), (13, zB (decide (i_1' < (s.length : Int))))] _ ?_)
 refine a8 (b := decide (i_1' < (s.length : Int))) rfl (fun hb => ?_) (fun hb => ?_)
 ·replace h := e6 h hb
  refine b5 ?_
  refine kg (hK_57' [(0, st s), (3, w_36'), (4, st ([48, 49, 50, 51, 52, 53, 54, 55, 56, 57, 97, 98, 99, 100, 101, 102] : List UInt8)), (5, zI i_1')] _ ?_)
  obtain ⟨J0_7', hJ_7', h⟩ := h
  refine l4 (X := Value × (List UInt8)) (fun σ => J0_7' σ.2) (fun σ => [(0, st s), (3, σ.1), (4, st ([48, 49, 50, 51, 52, 53, 54, 55, 56, 57, 97, 98, 99, 100, 101, 102] : List UInt8)), (5, zI i_1')]) (fun σ => [HA.row σ.1 5 1 σ.2.length (σ.2.flatMap j5)]) ?_ (fun K0_70' hK_70' => ?_)
  ·rintro ⟨w_45', l_9'⟩ hj
   replace h := hJ_7' l_9' hj
   show WC _ _ _ _ [(0, st s), (3, w_45'), (4, st ([48, 49, 50, 51, 52, 53, 54, 55, 56, 57, 97, 98, 99, 100, 101, 102] : List UInt8)), (5, zI i_1')] [HA.row w_45' 5 1 l_9'.length (l_9'.flatMap j5)]
   refine a6 ?_
   refine wm ?_
   obtain ⟨o_77', h⟩ := h
   refine wv (OV.add rfl rfl o_77') ?_
   refine wA ?_
   refine WL.nil ?_
   exact kh (hK_56' (i_1' + 1, w_45', l_9') h.1 h.2) [0]
  ·skip
   refine b7 ?_
   refine a7 (fun _ hK_71' => ?_)
   refine a6 ?_
   refine wm ?_
   refine wm ?_
   obtain ⟨o_78', h⟩ := h
   refine wv (OV.index rfl rfl c8 o_78') ?_
   refine wA ?_
   refine WL.nil ?_
   refine kg (hK_71' [(0, st s), (3, w_36'), (4, st ([48, 49, 50, 51, 52, 53, 54, 55, 56, 57, 97, 98, 99, 100, 101, 102] : List UInt8)), (5, zI i_1'), (6, zU ((s.getD i_1'.toNat 0).toNat : Int))] _ ?_)
   refine a7 (fun _ hK_72' => ?_)
   refine a6 ?_
   refine wm ?_
   refine wv (OV.eql rfl rfl) ?_
   refine WL.nil ?_
   refine kg (hK_72' [(0, st s), (3, w_36'), (4, st ([48, 49, 50, 51, 52, 53, 54, 55, 56, 57, 97, 98, 99, 100, 101, 102] : List UInt8)), (5, zI i_1'), (6, zU ((s.getD i_1'.toNat 0).toNat : Int)), (20, zB (decide (((s.getD i_1'.toNat 0).toNat : Int) = 10)))] _ ?_)
   refine a8 (b := decide (((s.getD i_1'.toNat 0).toNat : Int) = 10)) rfl (fun hb => ?_) (fun hb => ?_)
   ·replace h := e6 h hb
    refine a6 ?_
    refine wm ?_
    refine WL.make (MV.buildSlice (cs := [zU 92, zU 110]) rfl f6 (by kernel_rfl)) rfl rfl rfl (fun b_36' => ?_)
    obtain ⟨o_79', h⟩ := h
    refine WL.append (f := j5) (ms := [92, 110]) 1 0 rfl rfl rfl rfl rfl rfl m4 (by decide) rfl f6 m8 rfl o_79' rfl rfl (fun w_46' => ?_)
    refine wA ?_
    refine WL.nil ?_
    exact kh (hK_70' (w_46', l_7' ++ [92, 110]) h) [1]
   ·replace h := d9 h hb
    refine a7 (fun _ hK_73' => ?_)
    refine a6 ?_
    refine wm ?_
    refine wv (OV.eql rfl rfl) ?_
    refine WL.nil ?_
    refine kg (hK_73' [(0, st s), (3, w_36'), (4, st ([48, 49, 50, 51, 52, 53, 54, 55, 56, 57, 97, 98, 99, 100, 101, 102] : List UInt8)), (5, zI i_1'), (6, zU ((s.getD i_1'.toNat 0).toNat : Int)), (25, zB (decide (((s.getD i_1'.toNat 0).toNat : Int) = 13)))] _ ?_)
    refine a8 (b := decide (((s.getD i_1'.toNat 0).toNat : Int) = 13)) rfl (fun hb => ?_) (fun hb => ?_)
    ·replace h := e6 h hb
     refine a6 ?_
     refine wm ?_
     refine WL.make (MV.buildSlice (cs := [zU 92, zU 114]) rfl f6 (by kernel_rfl)) rfl rfl rfl (fun b_37' => ?_)
     obtain ⟨o_80', h⟩ := h
     refine WL.append (f := j5) (ms := [92, 114]) 1 0 rfl rfl rfl rfl rfl rfl m4 (by decide) rfl f6 m8 rfl o_80' rfl rfl (fun w_47' => ?_)
     refine wA ?_
     refine WL.nil ?_
     exact kh (hK_70' (w_47', l_7' ++ [92, 114]) h) [1]
    ·replace h := d9 h hb
     refine a7 (fun _ hK_74' => ?_)
     refine a6 ?_
     refine wm ?_
     refine wv (OV.eql rfl rfl) ?_
     refine WL.nil ?_
     refine kg (hK_74' [(0, st s), (3, w_36'), (4, st ([48, 49, 50, 51, 52, 53, 54, 55, 56, 57, 97, 98, 99, 100, 101, 102] : List UInt8)), (5, zI i_1'), (6, zU ((s.getD i_1'.toNat 0).toNat : Int)), (30, zB (decide (((s.getD i_1'.toNat 0).toNat : Int) = 9)))] _ ?_)
     refine a8 (b := decide (((s.getD i_1'.toNat 0).toNat : Int) = 9)) rfl (fun hb => ?_) (fun hb => ?_)
     ·replace h := e6 h hb
      refine a6 ?_
      refine wm ?_
      refine WL.make (MV.buildSlice (cs := [zU 92, zU 116]) rfl f6 (by kernel_rfl)) rfl rfl rfl (fun b_38' => ?_)
      obtain ⟨o_81', h⟩ := h
      refine WL.append (f := j5) (ms := [92, 116]) 1 0 rfl rfl rfl rfl rfl rfl m4 (by decide) rfl f6 m8 rfl o_81' rfl rfl (fun w_48' => ?_)
      refine wA ?_
      refine WL.nil ?_
      exact kh (hK_70' (w_48', l_7' ++ [92, 116]) h) [1]
     ·replace h := d9 h hb
      refine a7 (fun _ hK_75' => ?_)
      refine a6 ?_
      refine wm ?_
      refine wv (OV.lss rfl rfl) ?_
      refine wm ?_
      refine WL.cut 3 [(0, st s), (3, w_36'), (4, st ([48, 49, 50, 51, 52, 53, 54, 55, 56, 57, 97, 98, 99, 100, 101, 102] : List UInt8)), (5, zI i_1'), (6, zU ((s.getD i_1'.toNat 0).toNat : Int)), (39, zB ((decide (((s.getD i_1'.toNat 0).toNat : Int) < 32)) || (decide (126 < ((s.getD i_1'.toNat 0).toNat : Int)))))] ?_ (fun K0_76' hK_76' => ?_)
      rotate_left
      ·refine WL.split (decide (((s.getD i_1'.toNat 0).toNat : Int) < 32)) (fun hb => ?_) (fun hb => ?_)
       ·refine WL.set 36 rfl (congrArg zB hb) ?_
        refine wk ?_
        refine wk ?_
        refine wv (OV.pickT rfl rfl) ?_
        refine WL.set 39 rfl (oT (v := decide (126 < ((s.getD i_1'.toNat 0).toNat : Int))) hb) ?_
        exact WL.end_ (kg hK_76')
       ·refine WL.set 36 rfl (congrArg zB hb) ?_
        refine wm ?_
        refine wv (OV.gtr rfl rfl) ?_
        refine wv (OV.pickF rfl rfl) ?_
        refine WL.set 39 rfl (oF (v := decide (126 < ((s.getD i_1'.toNat 0).toNat : Int))) hb) ?_
        exact WL.end_ (kg hK_76')
      refine WL.nil ?_
      refine kg (hK_75' [(0, st s), (3, w_36'), (4, st ([48, 49, 50, 51, 52, 53, 54, 55, 56, 57, 97, 98, 99, 100, 101, 102] : List UInt8)), (5, zI i_1'), (6, zU ((s.getD i_1'.toNat 0).toNat : Int)), (39, zB ((decide (((s.getD i_1'.toNat 0).toNat : Int) < 32)) || (decide (126 < ((s.getD i_1'.toNat 0).toNat : Int)))))] _ ?_)
      refine a8 (b := (decide (((s.getD i_1'.toNat 0).toNat : Int) < 32)) || (decide (126 < ((s.getD i_1'.toNat 0).toNat : Int)))) rfl (fun hb => ?_) (fun hb => ?_)
      ·replace h := e6 h hb
       refine k8 10 [(9, .cells [zU 92, zU 120, zU ((([48, 49, 50, 51, 52, 53, 54, 55, 56, 57, 97, 98, 99, 100, 101, 102] : List UInt8).getD (((s.getD i_1'.toNat 0).toNat : Int) / 16).toNat 0).toNat : Int), zU ((([48, 49, 50, 51, 52, 53, 54, 55, 56, 57, 97, 98, 99, 100, 101, 102] : List UInt8).getD (((s.getD i_1'.toNat 0).toNat : Int) % 16).toNat 0).toNat : Int)].toArray 5 (0, 0))] f0 (by kernel_rfl) rfl (fun T_5' hT_5' => ?_)
       refine fv (fun _ => OV.move rfl) ?_
       refine fv (fun _ => OV.move rfl) ?_
       refine fv (fun _ => OV.move rfl) ?_
       obtain ⟨o_83', h⟩ := h
       refine fv (fun _ => OV.quo8 rfl rfl o_83') ?_
       obtain ⟨o_84', h⟩ := h
       refine fv (fun _ => OV.index rfl rfl c8 o_84') ?_
       refine fv (fun _ => OV.move rfl) ?_
       refine fv (fun _ => OV.move rfl) ?_
       obtain ⟨o_85', h⟩ := h
       refine fv (fun _ => OV.rem rfl rfl o_85') ?_
       obtain ⟨o_86', h⟩ := h
       refine fv (fun _ => OV.index rfl rfl c8 o_86') ?_
       refine FL.make (fun _ => MV.buildSlice (cs := [zU 92, zU 120, zU ((([48, 49, 50, 51, 52, 53, 54, 55, 56, 57, 97, 98, 99, 100, 101, 102] : List UInt8).getD (((s.getD i_1'.toNat 0).toNat : Int) / 16).toNat 0).toNat : Int), zU ((([48, 49, 50, 51, 52, 53, 54, 55, 56, 57, 97, 98, 99, 100, 101, 102] : List UInt8).getD (((s.getD i_1'.toNat 0).toNat : Int) % 16).toNat 0).toNat : Int)]) rfl f6 (by kernel_rfl)) rfl (fun _ => rfl) rfl rfl ?_
       refine FL.weak (L' := fun γ => [(0, st s), (3, w_36'), (4, st ([48, 49, 50, 51, 52, 53, 54, 55, 56, 57, 97, 98, 99, 100, 101, 102] : List UInt8)), (5, zI i_1'), (40, w_36'), (49, Value.slice (some ⟨(γ 9), 0, none⟩) 4 4)]) (fun γ => ⟨rfl, rfl, rfl, rfl, rfl, rfl, trivial⟩) (FL.nil (hT_5' (fun γ => [(0, st s), (3, w_36'), (4, st ([48, 49, 50, 51, 52, 53, 54, 55, 56, 57, 97, 98, 99, 100, 101, 102] : List UInt8)), (5, zI i_1'), (40, w_36'), (49, Value.slice (some ⟨(γ 9), 0, none⟩) 4 4)]) (fun γ => ?_)))
       show WL _ _ _ _ [(0, st s), (3, w_36'), (4, st ([48, 49, 50, 51, 52, 53, 54, 55, 56, 57, 97, 98, 99, 100, 101, 102] : List UInt8)), (5, zI i_1'), (40, w_36'), (49, Value.slice (some ⟨(γ 9), 0, none⟩) 4 4)] [HA.blk (γ 9) (.cells [zU 92, zU 120, zU ((([48, 49, 50, 51, 52, 53, 54, 55, 56, 57, 97, 98, 99, 100, 101, 102] : List UInt8).getD (((s.getD i_1'.toNat 0).toNat : Int) / 16).toNat 0).toNat : Int), zU ((([48, 49, 50, 51, 52, 53, 54, 55, 56, 57, 97, 98, 99, 100, 101, 102] : List UInt8).getD (((s.getD i_1'.toNat 0).toNat : Int) % 16).toNat 0).toNat : Int)].toArray 5 (0, 0)), HA.row w_36' 5 1 l_7'.length (l_7'.flatMap j5)] _
       generalize γ 9 = b_39'
       obtain ⟨o_87', h⟩ := h
       refine WL.append (f := j5) (ms := [92, 120, (([48, 49, 50, 51, 52, 53, 54, 55, 56, 57, 97, 98, 99, 100, 101, 102] : List UInt8).getD (((s.getD i_1'.toNat 0).toNat : Int) / 16).toNat 0), (([48, 49, 50, 51, 52, 53, 54, 55, 56, 57, 97, 98, 99, 100, 101, 102] : List UInt8).getD (((s.getD i_1'.toNat 0).toNat : Int) % 16).toNat 0)]) 1 0 rfl rfl rfl rfl rfl rfl m4 (by decide) rfl f6 m8 rfl o_87' rfl rfl (fun w_49' => ?_)
       refine wA ?_
       refine WL.nil ?_
       exact kh (hK_70' (w_49', l_7' ++ [92, 120, (([48, 49, 50, 51, 52, 53, 54, 55, 56, 57, 97, 98, 99, 100, 101, 102] : List UInt8).getD (((s.getD i_1'.toNat 0).toNat : Int) / 16).toNat 0), (([48, 49, 50, 51, 52, 53, 54, 55, 56, 57, 97, 98, 99, 100, 101, 102] : List UInt8).getD (((s.getD i_1'.toNat 0).toNat : Int) % 16).toNat 0)]) h) [1]
      ·replace h := d9 h hb
       obtain ⟨J0_8', hJ_8', h⟩ := h
       refine l4 (X := Value × (List UInt8)) (fun σ => J0_8' σ.2) (fun σ => [(0, st s), (3, σ.1), (4, st ([48, 49, 50, 51, 52, 53, 54, 55, 56, 57, 97, 98, 99, 100, 101, 102] : List UInt8)), (5, zI i_1'), (6, zU ((s.getD i_1'.toNat 0).toNat : Int))]) (fun σ => [HA.row σ.1 5 1 σ.2.length (σ.2.flatMap j5)]) ?_ (fun K0_79' hK_79' => ?_)
       ·rintro ⟨w_51', l_10'⟩ hj
        replace h := hJ_8' l_10' hj
        show WC _ _ _ _ [(0, st s), (3, w_51'), (4, st ([48, 49, 50, 51, 52, 53, 54, 55, 56, 57, 97, 98, 99, 100, 101, 102] : List UInt8)), (5, zI i_1'), (6, zU ((s.getD i_1'.toNat 0).toNat : Int))] [HA.row w_51' 5 1 l_10'.length (l_10'.flatMap j5)]
        refine a6 ?_
        refine wm ?_
        refine wm ?_
        refine WL.make (MV.buildSlice (cs := [zU ((s.getD i_1'.toNat 0).toNat : Int)]) rfl f6 (by kernel_rfl)) rfl rfl rfl (fun b_41' => ?_)
        obtain ⟨o_90', h⟩ := h
        refine WL.append (f := j5) (ms := [(s.getD i_1'.toNat 0)]) 1 0 rfl rfl rfl rfl rfl rfl m4 (by decide) rfl f6 m8 rfl o_90' rfl rfl (fun w_52' => ?_)
        refine wA ?_
        refine WL.nil ?_
        exact kh (hK_70' (w_52', l_10' ++ [(s.getD i_1'.toNat 0)]) h) [1]
       ·skip
        refine a7 (fun _ hK_80' => ?_)
        refine a6 ?_
        refine wm ?_
        refine wv (OV.eql rfl rfl) ?_
        refine wm ?_
        refine WL.cut 3 [(0, st s), (3, w_36'), (4, st ([48, 49, 50, 51, 52, 53, 54, 55, 56, 57, 97, 98, 99, 100, 101, 102] : List UInt8)), (5, zI i_1'), (6, zU ((s.getD i_1'.toNat 0).toNat : Int)), (56, zB ((decide (((s.getD i_1'.toNat 0).toNat : Int) = 34)) || (decide (((s.getD i_1'.toNat 0).toNat : Int) = 92))))] ?_ (fun K0_81' hK_81' => ?_)
        rotate_left
        ·refine WL.split (decide (((s.getD i_1'.toNat 0).toNat : Int) = 34)) (fun hb => ?_) (fun hb => ?_)
         ·refine WL.set 53 rfl (congrArg zB hb) ?_
          refine wk ?_
          refine wk ?_
          refine wv (OV.pickT rfl rfl) ?_
          refine WL.set 56 rfl (oT (v := decide (((s.getD i_1'.toNat 0).toNat : Int) = 92)) hb) ?_
          exact WL.end_ (kg hK_81')
         ·refine WL.set 53 rfl (congrArg zB hb) ?_
          refine wm ?_
          refine wv (OV.eql rfl rfl) ?_
          refine wv (OV.pickF rfl rfl) ?_
          refine WL.set 56 rfl (oF (v := decide (((s.getD i_1'.toNat 0).toNat : Int) = 92)) hb) ?_
          exact WL.end_ (kg hK_81')
        refine WL.nil ?_
        refine kg (hK_80' [(0, st s), (3, w_36'), (4, st ([48, 49, 50, 51, 52, 53, 54, 55, 56, 57, 97, 98, 99, 100, 101, 102] : List UInt8)), (5, zI i_1'), (6, zU ((s.getD i_1'.toNat 0).toNat : Int)), (56, zB ((decide (((s.getD i_1'.toNat 0).toNat : Int) = 34)) || (decide (((s.getD i_1'.toNat 0).toNat : Int) = 92))))] _ ?_)
        refine a8 (b := (decide (((s.getD i_1'.toNat 0).toNat : Int) = 34)) || (decide (((s.getD i_1'.toNat 0).toNat : Int) = 92))) rfl (fun hb => ?_) (fun hb => ?_)
        ·replace h := e6 h hb
         refine a6 ?_
         refine wm ?_
         refine WL.make (MV.buildSlice (cs := [zU 92]) rfl f6 (by kernel_rfl)) rfl rfl rfl (fun b_42' => ?_)
         obtain ⟨o_92', h⟩ := h
         refine WL.append (f := j5) (ms := [92]) 1 0 rfl rfl rfl rfl rfl rfl m4 (by decide) rfl f6 m8 rfl o_92' rfl rfl (fun w_53' => ?_)
         refine wA ?_
         refine WL.nil ?_
         exact kh (hK_79' (w_53', l_7' ++ [92]) h) [1]
        ·replace h := d9 h hb
         refine b5 ?_
         exact kh (hK_79' (w_36', l_7') h) [0]
 ·replace h := d9 h hb
  refine k9 ?_
  refine kg (hK_4' [(3, w_36')] _ ?_)
  refine a7 (fun _ hK_82' => ?_)
  refine a6 ?_
  refine wm ?_
  refine WL.make (MV.buildSlice (cs := [zU 34]) rfl f6 (by kernel_rfl)) rfl rfl rfl (fun b_43' => ?_)
  obtain ⟨o_93', h⟩ := h
  refine WL.append (f := j5) (ms := [34]) 1 0 rfl rfl rfl rfl rfl rfl m4 (by decide) rfl f6 m8 rfl o_93' rfl rfl (fun w_54' => ?_)
  refine wA ?_
  refine WL.nil ?_
  refine kg (hK_82' [(3, w_54')] _ ?_)
  refine a7 (fun _ hK_83' => ?_)
  refine a6 ?_
  refine wm ?_
  refine wv (OV.bytesRow (l := l_7' ++ [34]) 1 rfl rfl f6 Tryd.underlying5 c8) ?_
  refine wA ?_
  refine WL.nil ?_
  refine kg (hK_83' [(2, st (l_7' ++ [34]))] _ ?_)
  refine b8 ?_
  exact hE.ret [] rfl rfl (.inl ⟨_, h, rfl⟩) (d6.of1 rfl (RV.tmp rfl))
def hx (n : Nat) : UInt8 := ([48, 49, 50, 51, 52, 53, 54, 55, 56, 57, 97, 98, 99, 100, 101, 102] : List UInt8).getD n 0
def qb (c : UInt8) : List UInt8 :=
 if c = 34 ∨ c = 92 then [92, c] else if 32 ≤ c.toNat ∧ c.toNat ≤ 126 then [c] else if c = 10 then [92, 110] else if c = 13 then [92, 114] else if c = 9 then [92, 116] else [92, 120, hx (c.toNat / 16), hx (c.toNat % 16)]
def abc (s : List UInt8) : List UInt8 := [34] ++ s.flatMap qb ++ [34]
theorem axb (c : UInt8) : (qb c).length ≤ 4 := by
 unfold qb
 repeat' split
 all_goals simp
theorem ai1 : ∀ s : List UInt8, (s.flatMap qb).length ≤ 4 * s.length
 | [] => by simp
 | c :: s => by
  have h1 := axb c
  have h2 := ai1 s
  rw [List.flatMap_cons, List.length_append, List.length_cons]; omega
theorem arq {s : List UInt8} {i : Int} (h : 0 ≤ i ∧ i < s.length) : (s.take (i + 1).toNat).flatMap qb = (s.take i.toNat).flatMap qb ++ qb (s.getD i.toNat 0) := by
 have hlt : i.toNat < s.length := by omega
 rw [show (i + 1).toNat = i.toNat + 1 by omega, List.take_add_one, List.flatMap_append, List.getElem?_eq_getElem hlt, List.getD_eq_getElem?_getD, List.getElem?_eq_getElem hlt]
 simp
theorem agc {c : UInt8} (n : UInt8) : ((c.toNat : Int) = (n.toNat : Int)) ↔ c = n := ⟨fun h => UInt8.toNat_inj.1 (by omega), fun h => by rw [h]⟩
theorem axx : ∀ n : Nat, n < 256 → bits .and .u8 (n : Int) 15 = ((n % 16 : Nat) : Int) := by decide +kernel
theorem ap7 (s : List UInt8) (h : s.length ≤ 1048576) : d7 Tryd.prog 56 [st s] [] [] (Ret (st (abc s)) []) := by
 refine (avi s (fun r => r = abc s) ?_).weak (by rintro o (⟨v, rfl, rfl⟩ | h) <;> first | rfl | exact h.elim)
 unfold ajx
 refine ⟨fun i out => 0 ≤ i ∧ i ≤ s.length ∧ out = [34] ++ (s.take i.toNat).flatMap qb, fun i _ => (s.length - i).toNat, ⟨by omega, by omega, by simp⟩, ?_⟩
 rintro i out ⟨h0, h1, rfl⟩
 have hl0 := ai1 (s.take i.toNat)
 rw [List.length_take] at hl0
 have hl : ([34] ++ (s.take i.toNat).flatMap qb).length ≤ 4194305 := by rw [List.length_append]; simp only [List.length_cons, List.length_nil]; omega
 by_cases hi : i < s.length
 ·rw [if_pos (by simpa using hi)]
  have ht := arq ⟨h0, hi⟩
  have key : ∀ X, qb (s.getD i.toNat 0) = X → ([34] ++ (s.take i.toNat).flatMap qb) ++ X = [34] ++ (s.take (i + 1).toNat).flatMap qb := fun X hX => by rw [ht, ← hX, List.append_assoc]
  refine ⟨fun l => l = [34] ++ (s.take (i + 1).toNat).flatMap qb, fun l hl2 => ⟨⟨by omega, by omega⟩, ⟨by omega, by omega, hl2⟩, by show (s.length - (i + 1)).toNat < (s.length - i).toNat; omega⟩, ⟨h0, hi⟩, ?_⟩
  generalize s.getD i.toNat 0 = c at key ⊢
  generalize ([34] ++ (s.take i.toNat).flatMap qb) = out at hl key ⊢
  have hc := c.toNat_lt
  have n34 := agc (c := c) 34
  have n92 := agc (c := c) 92
  have n10 := agc (c := c) 10
  have n13 := agc (c := c) 13
  have n9 := agc (c := c) 9
  have v34 : ((34 : UInt8).toNat : Int) = 34 := rfl
  have v92 : ((92 : UInt8).toNat : Int) = 92 := rfl
  have v10 : ((10 : UInt8).toNat : Int) = 10 := rfl
  have v13 : ((13 : UInt8).toNat : Int) = 13 := rfl
  have v9 : ((9 : UInt8).toNat : Int) = 9 := rfl
  rw [v34] at n34
  rw [v92] at n92
  rw [v10] at n10
  rw [v13] at n13
  rw [v9] at n9
  simp only [n34, n92, n10, n13, n9]
  unfold qb at key
  by_cases e1 : c = 34 ∨ c = 92
  ·rw [if_pos (by simpa using e1)]
   exact ⟨⟨by omega, by omega⟩, key _ (by rw [if_pos e1])⟩
  ·rw [if_neg (by simpa using e1)]
   rw [if_neg e1] at key
   by_cases e2 : 32 ≤ c.toNat ∧ c.toNat ≤ 126
   ·rw [if_pos (by simp; omega)]
    exact ⟨⟨by omega, by omega⟩, key _ (by rw [if_pos e2])⟩
   ·rw [if_neg (by simp; omega)]
    rw [if_neg e2] at key
    by_cases e3 : c = 10
    ·rw [if_pos (by simpa using e3)]
     exact ⟨by simp only [List.length_cons, List.length_nil]; omega, key _ (by rw [if_pos e3])⟩
    ·rw [if_neg (by simpa using e3)]
     rw [if_neg e3] at key
     by_cases e4 : c = 13
     ·rw [if_pos (by simpa using e4)]
      exact ⟨by simp only [List.length_cons, List.length_nil]; omega, key _ (by rw [if_pos e4])⟩
     ·rw [if_neg (by simpa using e4)]
      rw [if_neg e4] at key
      by_cases e5 : c = 9
      ·rw [if_pos (by simpa using e5)]
       exact ⟨by simp only [List.length_cons, List.length_nil]; omega, key _ (by rw [if_pos e5])⟩
      ·rw [if_neg (by simpa using e5)]
       rw [if_neg e5] at key
       have hd : ((c.toNat : Int) / 2 ^ (4 : Int).toNat) = ((c.toNat / 16 : Nat) : Int) := by rw [show (2 : Int) ^ (4 : Int).toNat = 16 from rfl]; omega
       rw [hd, axx _ hc]
       refine ⟨⟨by omega, by simp only [List.length_cons, List.length_nil]; omega⟩, ⟨by omega, by simp only [List.length_cons, List.length_nil]; omega⟩, ⟨by omega, by omega⟩, key _ rfl⟩
 ·rw [if_neg (by simpa using hi)]
  refine ⟨⟨by omega, by omega⟩, ?_⟩
  rw [List.take_of_length_le (by omega)]; rfl
theorem alf (s : List UInt8) (h : s.length ≤ 1048576) : d7 Tryd.prog 57 [st s] [] [] (Ret (st (abc s)) []) := by
 refine (apb s (fun r => r = abc s) ?_).weak (by rintro o (⟨v, rfl, rfl⟩ | h) <;> first | rfl | exact h.elim)
 unfold ae4
 refine ⟨⟨by simp, by simp⟩, fun i out => 0 ≤ i ∧ i ≤ s.length ∧ out = [34] ++ (s.take i.toNat).flatMap qb, fun i _ => (s.length - i).toNat, ⟨by omega, by omega, by simp⟩, ?_⟩
 rintro i out ⟨h0, h1, rfl⟩
 have hl0 := ai1 (s.take i.toNat)
 rw [List.length_take] at hl0
 have hl : ([34] ++ (s.take i.toNat).flatMap qb).length ≤ 4194305 := by rw [List.length_append]; simp only [List.length_cons, List.length_nil]; omega
 by_cases hi : i < s.length
 ·rw [if_pos (by simpa using hi)]
  have ht := arq ⟨h0, hi⟩
  have key : ∀ X, qb (s.getD i.toNat 0) = X → ([34] ++ (s.take i.toNat).flatMap qb) ++ X = [34] ++ (s.take (i + 1).toNat).flatMap qb := fun X hX => by rw [ht, ← hX, List.append_assoc]
  refine ⟨fun l => l = [34] ++ (s.take (i + 1).toNat).flatMap qb, fun l hl2 => ⟨⟨by omega, by omega⟩, ⟨by omega, by omega, hl2⟩, by show (s.length - (i + 1)).toNat < (s.length - i).toNat; omega⟩, ⟨h0, hi⟩, ?_⟩
  generalize s.getD i.toNat 0 = c at key ⊢
  generalize ([34] ++ (s.take i.toNat).flatMap qb) = out at hl key ⊢
  have hc := c.toNat_lt
  have n34 := agc (c := c) 34
  have n92 := agc (c := c) 92
  have n10 := agc (c := c) 10
  have n13 := agc (c := c) 13
  have n9 := agc (c := c) 9
  have v34 : ((34 : UInt8).toNat : Int) = 34 := rfl
  have v92 : ((92 : UInt8).toNat : Int) = 92 := rfl
  have v10 : ((10 : UInt8).toNat : Int) = 10 := rfl
  have v13 : ((13 : UInt8).toNat : Int) = 13 := rfl
  have v9 : ((9 : UInt8).toNat : Int) = 9 := rfl
  rw [v34] at n34
  rw [v92] at n92
  rw [v10] at n10
  rw [v13] at n13
  rw [v9] at n9
  simp only [n34, n92, n10, n13, n9]
  unfold qb at key
  have room : ∀ k : Nat, k ≤ 4 → ((out.length + k) + (out.length + k) / 4 + 192) * 1 ≤ 281474976710656 ∧ out.length + k ≤ 9223372036854775807 := fun k hk => ⟨by omega, by omega⟩
  by_cases e3 : c = 10
  ·subst e3
   rw [if_pos (by rfl)]
   exact ⟨room 2 (by omega), key _ rfl⟩
  ·rw [if_neg (by simpa using e3)]
   by_cases e4 : c = 13
   ·subst e4
    rw [if_pos (by rfl)]
    exact ⟨room 2 (by omega), key _ rfl⟩
   ·rw [if_neg (by simpa using e4)]
    by_cases e5 : c = 9
    ·subst e5
     rw [if_pos (by rfl)]
     exact ⟨room 2 (by omega), key _ rfl⟩
    ·rw [if_neg (by simpa using e5)]
     by_cases e2 : 32 ≤ c.toNat ∧ c.toNat ≤ 126
     ·rw [if_neg (by simp; omega)]
      by_cases e1 : c = 34 ∨ c = 92
      ·rw [if_pos e1] at key
       refine ⟨fun l => l = out ++ [92], fun l hl3 => ?_, ?_⟩
       ·subst hl3
        refine ⟨⟨by simp; omega, by simp; omega⟩, ?_⟩
        rw [List.append_assoc]; exact key _ rfl
       ·rw [if_pos (by simpa using e1)]
        exact ⟨room 1 (by omega), rfl⟩
      ·rw [if_neg e1, if_pos e2] at key
       refine ⟨fun l => l = out, fun l hl3 => ?_, ?_⟩
       ·subst hl3
        exact ⟨room 1 (by omega), key _ rfl⟩
       ·rw [if_neg (by simpa using e1)]
     ·rw [if_pos (by simp; omega)]
      have e1 : ¬ (c = 34 ∨ c = 92) := by
       rintro (rfl | rfl) <;> exact e2 ⟨by decide, by decide⟩
      rw [if_neg e1, if_neg e2, if_neg e3, if_neg e4, if_neg e5] at key
      have hd : ((c.toNat : Int) / 16) = ((c.toNat / 16 : Nat) : Int) := by omega
      have hm : ((c.toNat : Int) % 16) = ((c.toNat % 16 : Nat) : Int) := by omega
      rw [hd, hm]
      exact ⟨⟨by omega, by omega, by omega⟩, ⟨by omega, by simp only [List.length_cons, List.length_nil]; omega⟩, ⟨by omega, by omega⟩, ⟨by omega, by simp only [List.length_cons, List.length_nil]; omega⟩, room 4 (by omega), key _ rfl⟩
 ·rw [if_neg (by simpa using hi)]
  refine ⟨⟨by omega, by omega⟩, ?_⟩
  rw [List.take_of_length_le (by omega)]; rfl
end Go.Proofs.YtifajndacnfcbaaDoor
namespace Go.Proofs.YtifajndacnfcbaaDoor
open Go Go.RowKit
instance : Inhabited Ex := ⟨.name 0 []⟩
def rkX : Ex → Int
 | .binary _ o _ _ => c9 o
 | .unary .. => 5
 | _ => 6
def par (r need : Int) (s : Bs) : Bs := if r < need then [40] ++ s ++ [41] else s
mutual
def l5 : Ex → Bs
 | .name _ s => s
 | .text _ s => abc s
 | .regex _ s => [47] ++ s ++ [47]
 | .keyed _ a => [123] ++ par (rkX a) 0 (l5 a) ++ [125]
 | .unary _ o a => par (rkX a) 5 (l5 a) ++ o
 | .binary _ o a b => par (rkX a) (c9 o) (l5 a) ++ ([32] ++ o ++ [32]) ++ par (rkX b) (c9 o + 1) (l5 b)
 | .call _ w l => w ++ [40] ++ abo l ++ [41]
def abo : ExL → Bs
 | .nil => []
 | .cons a r => par (rkX a) 0 (l5 a) ++ ac6 r
def ac6 : ExL → Bs
 | .nil => []
 | .cons a r => [44, 32] ++ par (rkX a) 0 (l5 a) ++ ac6 r
end
def d5 (e : Ex) (need : Int) : Bs := par (rkX e) need (l5 e)
mutual
def OKX : Ex → Prop
 | .name _ s => s.length ≤ 4096
 | .text _ s => s.length ≤ 4096
 | .regex _ s => s.length ≤ 4096
 | .keyed _ a => OKX a
 | .unary _ o a => o.length ≤ 4096 ∧ OKX a
 | .binary _ o a b => (adj o ∧ 0 ≤ c9 o) ∧ OKX a ∧ OKX b
 | .call _ w l => w.length ≤ 4096 ∧ OKL l
def OKL : ExL → Prop
 | .nil => True
 | .cons a r => OKX a ∧ OKL r
end
mutual
def wX : Ex → Nat
 | .name .. => 1
 | .text .. => 1
 | .regex .. => 1
 | .keyed _ a => 1 + wX a
 | .unary _ _ a => 1 + wX a
 | .binary _ _ a b => 1 + wX a + wX b
 | .call _ _ l => 1 + wL l
def wL : ExL → Nat
 | .nil => 0
 | .cons a r => wX a + 1 + wL r
end
theorem aee (r need : Int) (s : Bs) : (par r need s).length ≤ s.length + 2 := by
 unfold par
 split
 ·simp only [List.length_append, List.length_cons, List.length_nil]; omega
 ·omega
theorem akk {o : Bs} (h : adj o) : o.length ≤ 2 := by
 rcases h with rfl | ⟨c, rfl⟩ <;> simp
theorem api (s : Bs) : (abc s).length ≤ 4 * s.length + 2 := by
 have := ai1 s
 unfold abc
 simp only [List.length_append, List.length_cons, List.length_nil]
 omega
mutual
theorem ach : ∀ (e : Ex), OKX e → (l5 e).length + 2 ≤ 20000 * wX e
 | .name _ s, h => by rw [OKX] at h; rw [l5, wX]; omega
 | .text _ s, h => by rw [OKX] at h; have := api s; rw [l5, wX]; omega
 | .regex _ s, h => by rw [OKX] at h; rw [l5, wX]; simp only [List.length_append, List.length_cons, List.length_nil]; omega
 | .keyed _ a, h => by
  rw [OKX] at h
  have h1 := ach a h
  have h2 := aee (rkX a) 0 (l5 a)
  rw [l5, wX]; simp only [List.length_append, List.length_cons, List.length_nil]; omega
 | .unary _ o a, h => by
  rw [OKX] at h
  have h1 := ach a h.2
  have h2 := aee (rkX a) 5 (l5 a)
  rw [l5, wX]; simp only [List.length_append]; omega
 | .binary _ o a b, h => by
  rw [OKX] at h
  have h1 := ach a h.2.1
  have h2 := ach b h.2.2
  have h3 := aee (rkX a) (c9 o) (l5 a)
  have h4 := aee (rkX b) (c9 o + 1) (l5 b)
  have h5 := akk h.1.1
  rw [l5, wX]; simp only [List.length_append, List.length_cons, List.length_nil]; omega
 | .call _ w l, h => by
  rw [OKX] at h
  have h1 := ajm l h.2
  rw [l5, wX]; simp only [List.length_append, List.length_cons, List.length_nil]; omega
theorem ajm : ∀ (l : ExL), OKL l → (abo l).length ≤ 20000 * wL l
 | .nil, _ => by rw [abo, wL]; simp
 | .cons a r, h => by
  rw [OKL] at h
  have h1 := ach a h.1
  have h2 := aom r h.2
  have h3 := aee (rkX a) 0 (l5 a)
  rw [abo, wL]; simp only [List.length_append]; omega
theorem aom : ∀ (l : ExL), OKL l → (ac6 l).length ≤ 20000 * wL l
 | .nil, _ => by rw [ac6, wL]; simp
 | .cons a r, h => by
  rw [OKL] at h
  have h1 := ach a h.1
  have h2 := aom r h.2
  have h3 := aee (rkX a) 0 (l5 a)
  rw [ac6, wL]; simp only [List.length_append, List.length_cons, List.length_nil]; omega
end
theorem r8 (e : Ex) (need : Int) (h : OKX e) : (d5 e need).length ≤ 20000 * wX e := by
 have h1 := ach e h
 have h2 := aee (rkX e) need (l5 e)
 unfold d5; omega
def ExL.toL : ExL → List Ex
 | .nil => []
 | .cons a r => a :: r.toL
def x7 (l : ExL) (i : Nat) : Bs := match i with
 | 0 => abo l
 | i + 1 => ac6 (dropA l (i + 1))
where dropA : ExL → Nat → ExL
 | l, 0 => l
 | .nil, _ + 1 => .nil
 | .cons _ r, i + 1 => dropA r i
theorem akg : ∀ l : ExL, l.len ≤ wL l
 | .nil => Nat.zero_le _
 | .cons a r => by have := akg r; rw [wL]; show r.len + 1 ≤ _; omega
theorem ajq (l : ExL) : x7.dropA l 0 = l := by cases l <;> rfl
theorem aha : ∀ {l : ExL} {i : Nat}, i < l.len → x7.dropA l i = .cons (l.toL.getD i default) (x7.dropA l (i + 1))
 | .cons a r, 0, _ => by
  rw [x7.dropA, x7.dropA]
  ·cases r <;> rfl
 | .cons a r, i + 1, h => by
  rw [x7.dropA, x7.dropA]
  exact aha (Nat.lt_of_succ_lt_succ h)
theorem amj : ∀ {l : ExL} {i : Nat}, l.len ≤ i → x7.dropA l i = .nil
 | .nil, 0, _ => rfl
 | .nil, _ + 1, _ => rfl
 | .cons a r, 0, h => by cases h
 | .cons a r, i + 1, h => by rw [x7.dropA]; exact amj (Nat.le_of_succ_le_succ h)
theorem aof {l : ExL} {i : Nat} (h : i < l.len) : x7 l i = (if 0 < i then [44, 32] else []) ++ d5 (l.toL.getD i default) 0 ++ x7 l (i + 1) := by
 cases i with
 | zero =>
  cases l with
  | nil => cases h
  | cons a r =>
   show abo (.cons a r) = [] ++ par (rkX a) 0 (l5 a) ++ ac6 (x7.dropA (.cons a r) 1)
   rw [abo, x7.dropA]
   have : x7.dropA r 0 = r := by cases r <;> rfl
   rw [this]; rfl
 | succ i =>
  show ac6 (x7.dropA l (i + 1)) = [44, 32] ++ _ ++ ac6 (x7.dropA l (i + 1 + 1))
  rw [aha h, ac6]; rfl
theorem al2 {l : ExL} {i : Nat} (h : l.len ≤ i) (h0 : 0 < l.len) : x7 l i = [] := by
 cases i with
 | zero => omega
 | succ i =>
  show ac6 (x7.dropA l (i + 1)) = []
  rw [amj h, ac6]
theorem OKL.at : ∀ {l : ExL} {i : Nat}, OKL l → i < l.len → OKX (l.toL.getD i default) ∧ wX (l.toL.getD i default) ≤ wL l
 | .cons a r, 0, h, _ => by rw [OKL] at h; rw [wL]; exact ⟨h.1, by show wX a ≤ _; omega⟩
 | .cons a r, i + 1, h, hi => by
  rw [OKL] at h
  have := OKL.at h.2 (Nat.lt_of_succ_lt_succ hi)
  rw [wL]
  exact ⟨this.1, by show wX (r.toL.getD i default) ≤ _; omega⟩
def y8 (v : Value) (B : List (Nat × Obj)) (n : Nat) (xs : List Value) : Prop := ∃ R, aq0 v R n xs ∧ ∀ p ∈ R, p ∈ B
theorem y8.lin {C : Cx} {v : Value} {B : List (Nat × Obj)} {n : Nat} {xs : List Value} (h : y8 v B n xs) (hC : ∀ p ∈ B, p ∈ C.R) : LIn C v n xs := by
 obtain ⟨R, h1, h2⟩ := h
 exact LIn.mk h1 fun p hp => hC p (h2 p hp)
def aa6 (l : Bs) (need : Int) (x : Ex) : Prop := (0 ≤ need ∧ need ≤ 6) ∧ OKX x ∧ l.length + 20000 * wX x ≤ 1099511627776
def aar (B : List (Nat × Obj)) (te : TypeId) (fre : Nat × Nat) (u : Value) (x : Ex) : Prop :=
 ∀ (pb : Nat) (l : List UInt8) (need : Int), aa6 l need x → d7 Tryd.prog 31 [.pointer (some ⟨pb, 0, none⟩), u, .int .i64 need] (B ++ ac5 te fre) [bld 90 5 pb l]
  (Ret (.tuple #[]) [bld 90 5 pb (l ++ d5 x need)])
end Go.Proofs.YtifajndacnfcbaaDoor
