/-
  Merged: SyZ, SyU, SyM, SyO, SyN.
-/
import Derived.Test.YtifajndacnfcbaaDoorSq6
set_option maxRecDepth 100000
namespace Go.Proofs.YtifajndacnfcbaaDoor
open Go Go.RowKit
theorem acq : f6 Tryd.prog 88 0 = some 0 := by kernel_rfl
theorem ahr : aal Tryd.prog 85 = true := by kernel_rfl
theorem apf : ((Tryd.prog.info? 88).map (fun i => i.size != 0)) = some true := by kernel_rfl
theorem amt : (Tryd.prog.info? 88).isSome = true := by kernel_rfl
theorem als : liesAt Tryd.prog Tryd.prog.depth 90 (2 / Tryd.prog.cellsOf 90) 0 88 1 = true := by kernel_rfl
theorem ap1 : o8 Tryd.prog 85 1 = true := by kernel_rfl
theorem agi : k9 Tryd.prog 54 = true := by kernel_rfl
theorem v8 : f6 Tryd.prog 88 1 = some 1 := by kernel_rfl
theorem aey : aal Tryd.prog 86 = true := by kernel_rfl
theorem acf : avp Tryd.prog 5 := by unfold avp; kernel_rfl
theorem aff : o8 Tryd.prog 86 1 = true := by kernel_rfl
def auj (b_1'_1 : Value) (K : Value → Prop) : Prop :=
 K b_1'_1
theorem ax1 (b : Nat) (b_1'_1 : Value) (K : Value → Prop) (h : auj b_1'_1 K) :
  d9 Tryd.prog 54 [zP b] [] [HA.blk b (.cells [Value.pointer none, b_1'_1].toArray 90 (0, 0))] (fun o => (∃ (d : Value), K d ∧ o = .ret (Value.tuple #[]) [HA.blk b (.cells [zP b, d].toArray 90 (0, 0))]) ∨ (False)) := by
 unfold auj at h
 refine c8 (n := 20) (L0 := [(0, zP b)]) Tryd.func54 rfl rfl rfl rfl (fun w0 M Q hE => ?_)
 refine a7 (fun _ hK => ?_)
 refine a6 ?_
 refine wm ?_
 refine wv (OV.nilCheck rfl) ?_
 refine wv (OV.fieldAddr0 rfl acq) ?_
 refine wv (OV.load rfl (At.own 0 rfl) rfl ahr) ?_
 refine wv (OV.eqlPN rfl rfl Tryd.underlying85) ?_
 refine WL.nil ?_
 refine kg (hK [(0, zP b), (6, zB true)] _ ?_)
 refine f7 rfl ?_
 refine a6 ?_
 refine wm ?_
 refine wm ?_
 refine wv (OV.toUnsafe rfl (At.own 0 rfl) Tryd.underlying85 Tryd.underlying119 apf rfl) ?_
 refine wv (OV.noEscape rfl Tryd.func70 (by kernel_rfl) (by kernel_rfl) (by kernel_rfl) (by kernel_rfl)) ?_
 refine wv (OV.fromUnsafe rfl (At.own 0 rfl) Tryd.underlying119 Tryd.underlying85 amt als) ?_
 refine wv (OV.nilCheck rfl) ?_
 refine wv (OV.fieldAddr0 rfl acq) ?_
 refine WL.store (vs := [zP b]) (cs' := [zP b, b_1'_1]) 0 rfl rfl rfl rfl ap1 (Nat.le_of_ble_eq_true rfl) rfl rfl rfl ?_
 refine WL.nil ?_
 exact hE.norm [0] rfl rfl (.inl ⟨_, h, rfl⟩) (d7.none rfl)
def au2 (b_1'_1 : Value) (K : Value → Prop) : Prop :=
 K b_1'_1
theorem axu (b : Nat) (b_1'_1 : Value) (K : Value → Prop) (h : au2 b_1'_1 K) :
  d9 Tryd.prog 54 [zP b] [] [HA.blk b (.cells [zP b, b_1'_1].toArray 90 (0, 0))] (fun o => (∃ (d : Value), K d ∧ o = .ret (Value.tuple #[]) [HA.blk b (.cells [zP b, d].toArray 90 (0, 0))]) ∨ (False)) := by
 unfold au2 at h
 refine c8 (n := 20) (L0 := [(0, zP b)]) Tryd.func54 rfl rfl rfl rfl (fun w0 M Q hE => ?_)
 refine a7 (fun _ hK => ?_)
 refine a6 ?_
 refine wm ?_
 refine wv (OV.nilCheck rfl) ?_
 refine wv (OV.fieldAddr0 rfl acq) ?_
 refine wv (OV.load rfl (At.own 0 rfl) rfl ahr) ?_
 refine wv (OV.eqlPN rfl rfl Tryd.underlying85) ?_
 refine WL.nil ?_
 refine kg (hK [(0, zP b), (6, zB false)] _ ?_)
 refine d5 rfl ?_
 refine a7 (fun _ hK_1' => ?_)
 refine a6 ?_
 refine wm ?_
 refine wv (OV.nilCheck rfl) ?_
 refine wv (OV.fieldAddr0 rfl acq) ?_
 refine wv (OV.load rfl (At.own 0 rfl) rfl ahr) ?_
 refine wm ?_
 refine wv (OV.neqPS rfl rfl Tryd.underlying85 amt) ?_
 refine WL.nil ?_
 refine kg (hK_1' [(19, zB false)] _ ?_)
 refine d5 rfl ?_
 refine b6 ?_
 exact hE.norm [0] rfl rfl (.inl ⟨_, h, rfl⟩) (d7.none rfl)
theorem aoz (b : Nat) (v : Value) : d9 Tryd.prog 54 [.pointer (some ⟨b, 0, none⟩)] [] [.blk b (.cells [.pointer none, v].toArray 90 (0, 0))] (Ret (.tuple #[]) [.blk b (.cells [.pointer (some ⟨b, 0, none⟩), v].toArray 90 (0, 0))]) :=
 (ax1 b v (fun u => u = v) rfl).weak fun o ho => by
  rcases ho with ⟨d, rfl, rfl⟩ | h
  ·rfl
  ·exact h.elim
theorem aon (b : Nat) (v : Value) : d9 Tryd.prog 54 [.pointer (some ⟨b, 0, none⟩)] [] [.blk b (.cells [.pointer (some ⟨b, 0, none⟩), v].toArray 90 (0, 0))] (Ret (.tuple #[]) [.blk b (.cells [.pointer (some ⟨b, 0, none⟩), v].toArray 90 (0, 0))]) :=
 (axu b v (fun u => u = v) rfl).weak fun o ho => by
  rcases ho with ⟨d, rfl, rfl⟩ | h
  ·rfl
  ·exact h.elim
def au5 (bl : List UInt8) (s : List UInt8) (K : Int → Value → (List UInt8) → Prop) : Prop :=
 (bl.length + s.length ≤ 140737488355328) ∧
 K (s.length : Int) Value.nilIface (bl ++ s)
theorem axn (b : Nat) (w : Value) (bl : List UInt8) (s : List UInt8) (K : Int → Value → (List UInt8) → Prop) (h : au5 bl s K) :
  d9 Tryd.prog 30 [zP b, st s] [] [HA.blk b (.cells [Value.pointer none, w].toArray 90 (0, 0)), HA.row w 5 1 bl.length (bl.flatMap k8)] (fun o => (∃ (v : Int) (v_1' : Value) (w_2' : Value) (d : List UInt8), K v v_1' d ∧ o = .ret (Value.tuple #[zI v, v_1']) [HA.blk b (.cells [zP b, w_2'].toArray 90 (0, 0)), HA.row w_2' 5 1 d.length (d.flatMap k8)]) ∨ (False)) := by
 unfold au5 at h
 refine c8 (n := 19) (L0 := [(0, zP b), (1, st s)]) Tryd.func30 rfl rfl rfl rfl (fun w0 M Q hE => ?_)
 refine a7 (fun _ hK => ?_)
 refine a6 ?_
 refine wA ?_
 refine wA ?_
 refine WL.nil ?_
 refine kg (hK [(0, zP b), (1, st s)] _ ?_)
 refine a7 (fun _ hK_1' => ?_)
 refine a6 ?_
 refine wm ?_
 refine WL.call agi rfl (aoz b _) rfl trivial rfl rfl ?_
 refine WL.nil ?_
 refine kg (hK_1' [(0, zP b), (1, st s)] _ ?_)
 refine a7 (fun _ hK_2' => ?_)
 refine a6 ?_
 refine wm ?_
 refine wm ?_
 refine wv (OV.nilCheck rfl) ?_
 refine wv (OV.fieldAddr0 rfl v8) ?_
 refine wv (OV.load rfl (At.own 0 rfl) rfl aey) ?_
 refine wm ?_
 obtain ⟨o, h⟩ := h
 refine WL.appendS (m := s) 1 rfl rfl rfl j6 c9 acf o rfl rfl (fun w_1' => ?_)
 refine wv (OV.nilCheck rfl) ?_
 refine wv (OV.fieldAddr0 rfl v8) ?_
 refine WL.storeSl (cs' := [zP b, w_1']) 0 1 rfl rfl rfl rfl aff (Nat.le_of_ble_eq_true rfl) rfl rfl ?_
 refine WL.nil ?_
 refine kg (hK_2' [(1, st s)] _ ?_)
 refine a7 (fun _ hK_3' => ?_)
 refine a6 ?_
 refine wm ?_
 refine wv (OV.len rfl c9) ?_
 refine wA ?_
 refine wA ?_
 refine WL.nil ?_
 refine kg (hK_3' [(4, zI (s.length : Int)), (5, Value.nilIface)] _ ?_)
 refine b8 ?_
 exact hE.ret [0, 1] rfl rfl (.inl ⟨_, _, _, _, h, rfl⟩) (d7.of2 rfl (RV.tmp rfl) (RV.tmp rfl))
def ave (bl : List UInt8) (s : List UInt8) (K : Int → Value → (List UInt8) → Prop) : Prop :=
 (bl.length + s.length ≤ 140737488355328) ∧
 K (s.length : Int) Value.nilIface (bl ++ s)
theorem axp (b : Nat) (w : Value) (bl : List UInt8) (s : List UInt8) (K : Int → Value → (List UInt8) → Prop) (h : ave bl s K) :
  d9 Tryd.prog 30 [zP b, st s] [] [HA.blk b (.cells [zP b, w].toArray 90 (0, 0)), HA.row w 5 1 bl.length (bl.flatMap k8)] (fun o => (∃ (v : Int) (v_1' : Value) (w_2' : Value) (d : List UInt8), K v v_1' d ∧ o = .ret (Value.tuple #[zI v, v_1']) [HA.blk b (.cells [zP b, w_2'].toArray 90 (0, 0)), HA.row w_2' 5 1 d.length (d.flatMap k8)]) ∨ (False)) := by
 unfold ave at h
 refine c8 (n := 19) (L0 := [(0, zP b), (1, st s)]) Tryd.func30 rfl rfl rfl rfl (fun w0 M Q hE => ?_)
 refine a7 (fun _ hK => ?_)
 refine a6 ?_
 refine wA ?_
 refine wA ?_
 refine WL.nil ?_
 refine kg (hK [(0, zP b), (1, st s)] _ ?_)
 refine a7 (fun _ hK_1' => ?_)
 refine a6 ?_
 refine wm ?_
 refine WL.call agi rfl (aon b _) rfl trivial rfl rfl ?_
 refine WL.nil ?_
 refine kg (hK_1' [(0, zP b), (1, st s)] _ ?_)
 refine a7 (fun _ hK_2' => ?_)
 refine a6 ?_
 refine wm ?_
 refine wm ?_
 refine wv (OV.nilCheck rfl) ?_
 refine wv (OV.fieldAddr0 rfl v8) ?_
 refine wv (OV.load rfl (At.own 0 rfl) rfl aey) ?_
 refine wm ?_
 obtain ⟨o, h⟩ := h
 refine WL.appendS (m := s) 1 rfl rfl rfl j6 c9 acf o rfl rfl (fun w_1' => ?_)
 refine wv (OV.nilCheck rfl) ?_
 refine wv (OV.fieldAddr0 rfl v8) ?_
 refine WL.storeSl (cs' := [zP b, w_1']) 0 1 rfl rfl rfl rfl aff (Nat.le_of_ble_eq_true rfl) rfl rfl ?_
 refine WL.nil ?_
 refine kg (hK_2' [(1, st s)] _ ?_)
 refine a7 (fun _ hK_3' => ?_)
 refine a6 ?_
 refine wm ?_
 refine wv (OV.len rfl c9) ?_
 refine wA ?_
 refine wA ?_
 refine WL.nil ?_
 refine kg (hK_3' [(4, zI (s.length : Int)), (5, Value.nilIface)] _ ?_)
 refine b8 ?_
 exact hE.ret [0, 1] rfl rfl (.inl ⟨_, _, _, _, h, rfl⟩) (d7.of2 rfl (RV.tmp rfl) (RV.tmp rfl))
def au6 (bl : List UInt8) (s : List UInt8) (K : Int → Value → (List UInt8) → Prop) : Prop :=
 (bl.length + s.length ≤ 140737488355328) ∧
 K (s.length : Int) Value.nilIface (bl ++ s)
theorem axk (b : Nat) (w : Value) (bl : List UInt8) (s : List UInt8) (K : Int → Value → (List UInt8) → Prop) (h : au6 bl s K) :
  abf Tryd.prog 30 [zP b, st s] .returning .returning [] [HA.blk b (.cells [Value.pointer none, w].toArray 90 (0, 0)), HA.row w 5 1 bl.length (bl.flatMap k8)] (fun o => (∃ (v : Int) (v_1' : Value) (w_2' : Value) (d : List UInt8), K v v_1' d ∧ o = .ret (Value.tuple #[zI v, v_1']) [HA.blk b (.cells [zP b, w_2'].toArray 90 (0, 0)), HA.row w_2' 5 1 d.length (d.flatMap k8)]) ∨ (False)) := by
 unfold au6 at h
 refine ajg (n := 19) (L0 := [(0, zP b), (1, st s)]) Tryd.func30 rfl rfl rfl rfl (fun w0 M Q hE => ?_)
 refine a7 (fun _ hK => ?_)
 refine a6 ?_
 refine wA ?_
 refine wA ?_
 refine WL.nil ?_
 refine kg (hK [(0, zP b), (1, st s)] _ ?_)
 refine a7 (fun _ hK_1' => ?_)
 refine a6 ?_
 refine wm ?_
 refine WL.call agi rfl (aoz b _) rfl trivial rfl rfl ?_
 refine WL.nil ?_
 refine kg (hK_1' [(0, zP b), (1, st s)] _ ?_)
 refine a7 (fun _ hK_2' => ?_)
 refine a6 ?_
 refine wm ?_
 refine wm ?_
 refine wv (OV.nilCheck rfl) ?_
 refine wv (OV.fieldAddr0 rfl v8) ?_
 refine wv (OV.load rfl (At.own 0 rfl) rfl aey) ?_
 refine wm ?_
 obtain ⟨o, h⟩ := h
 refine WL.appendS (m := s) 1 rfl rfl rfl j6 c9 acf o rfl rfl (fun w_1' => ?_)
 refine wv (OV.nilCheck rfl) ?_
 refine wv (OV.fieldAddr0 rfl v8) ?_
 refine WL.storeSl (cs' := [zP b, w_1']) 0 1 rfl rfl rfl rfl aff (Nat.le_of_ble_eq_true rfl) rfl rfl ?_
 refine WL.nil ?_
 refine kg (hK_2' [(1, st s)] _ ?_)
 refine a7 (fun _ hK_3' => ?_)
 refine a6 ?_
 refine wm ?_
 refine wv (OV.len rfl c9) ?_
 refine wA ?_
 refine wA ?_
 refine WL.nil ?_
 refine kg (hK_3' [(4, zI (s.length : Int)), (5, Value.nilIface)] _ ?_)
 refine b8 ?_
 exact hE.ret [0, 1] rfl rfl (.inl ⟨_, _, _, _, h, rfl⟩) (d7.of2 rfl (RV.tmp rfl) (RV.tmp rfl))
def aun (bl : List UInt8) (s : List UInt8) (K : Int → Value → (List UInt8) → Prop) : Prop :=
 (bl.length + s.length ≤ 140737488355328) ∧
 K (s.length : Int) Value.nilIface (bl ++ s)
theorem axi (b : Nat) (w : Value) (bl : List UInt8) (s : List UInt8) (K : Int → Value → (List UInt8) → Prop) (h : aun bl s K) :
  abf Tryd.prog 30 [zP b, st s] .returning .returning [] [HA.blk b (.cells [zP b, w].toArray 90 (0, 0)), HA.row w 5 1 bl.length (bl.flatMap k8)] (fun o => (∃ (v : Int) (v_1' : Value) (w_2' : Value) (d : List UInt8), K v v_1' d ∧ o = .ret (Value.tuple #[zI v, v_1']) [HA.blk b (.cells [zP b, w_2'].toArray 90 (0, 0)), HA.row w_2' 5 1 d.length (d.flatMap k8)]) ∨ (False)) := by
 unfold aun at h
 refine ajg (n := 19) (L0 := [(0, zP b), (1, st s)]) Tryd.func30 rfl rfl rfl rfl (fun w0 M Q hE => ?_)
 refine a7 (fun _ hK => ?_)
 refine a6 ?_
 refine wA ?_
 refine wA ?_
 refine WL.nil ?_
 refine kg (hK [(0, zP b), (1, st s)] _ ?_)
 refine a7 (fun _ hK_1' => ?_)
 refine a6 ?_
 refine wm ?_
 refine WL.call agi rfl (aon b _) rfl trivial rfl rfl ?_
 refine WL.nil ?_
 refine kg (hK_1' [(0, zP b), (1, st s)] _ ?_)
 refine a7 (fun _ hK_2' => ?_)
 refine a6 ?_
 refine wm ?_
 refine wm ?_
 refine wv (OV.nilCheck rfl) ?_
 refine wv (OV.fieldAddr0 rfl v8) ?_
 refine wv (OV.load rfl (At.own 0 rfl) rfl aey) ?_
 refine wm ?_
 obtain ⟨o, h⟩ := h
 refine WL.appendS (m := s) 1 rfl rfl rfl j6 c9 acf o rfl rfl (fun w_1' => ?_)
 refine wv (OV.nilCheck rfl) ?_
 refine wv (OV.fieldAddr0 rfl v8) ?_
 refine WL.storeSl (cs' := [zP b, w_1']) 0 1 rfl rfl rfl rfl aff (Nat.le_of_ble_eq_true rfl) rfl rfl ?_
 refine WL.nil ?_
 refine kg (hK_2' [(1, st s)] _ ?_)
 refine a7 (fun _ hK_3' => ?_)
 refine a6 ?_
 refine wm ?_
 refine wv (OV.len rfl c9) ?_
 refine wA ?_
 refine wA ?_
 refine WL.nil ?_
 refine kg (hK_3' [(4, zI (s.length : Int)), (5, Value.nilIface)] _ ?_)
 refine b8 ?_
 exact hE.ret [0, 1] rfl rfl (.inl ⟨_, _, _, _, h, rfl⟩) (d7.of2 rfl (RV.tmp rfl) (RV.tmp rfl))
theorem h8 (b : Nat) (l s : List UInt8) (hb : l.length + s.length ≤ 140737488355328) : d9 Tryd.prog 30 [.pointer (some ⟨b, 0, none⟩), st s] [] [bld 90 5 b l]
  (Ret (.tuple #[.int .i64 (s.length : Int), .nilIface]) [bld 90 5 b (l ++ s)]) := by
 refine d9.openBld fun q v hq => d9.closeBld ?_
 rcases hq with rfl | rfl
 ·refine (axn b v l s (fun n u d => n = (s.length : Int) ∧ u = .nilIface ∧ d = l ++ s) ⟨hb, rfl, rfl, rfl⟩).weak fun o ho => ?_
  rcases ho with ⟨n, u, w, d, ⟨rfl, rfl, rfl⟩, rfl⟩ | h
  ·exact ⟨_, w, .inr rfl, rfl⟩
  ·exact h.elim
 ·refine (axp b v l s (fun n u d => n = (s.length : Int) ∧ u = .nilIface ∧ d = l ++ s) ⟨hb, rfl, rfl, rfl⟩).weak fun o ho => ?_
  rcases ho with ⟨n, u, w, d, ⟨rfl, rfl, rfl⟩, rfl⟩ | h
  ·exact ⟨_, w, .inr rfl, rfl⟩
  ·exact h.elim
theorem aow (b : Nat) (l : List UInt8) : d9 Tryd.prog 32 [.pointer (some ⟨b, 0, none⟩)] [] [bld 90 5 b l] (Ret (st l) []) := aox Tryd.lays169 Tryd.Builder_Extra_169 b l
theorem ad7 (b : Nat) (l s : List UInt8) (hb : l.length + s.length ≤ 140737488355328) : abf Tryd.prog 30 [.pointer (some ⟨b, 0, none⟩), st s] .returning .returning [] [bld 90 5 b l]
  (Ret (.tuple #[.int .i64 (s.length : Int), .nilIface]) [bld 90 5 b (l ++ s)]) := by
 refine abf.openBld fun q v hq => abf.closeBld ?_
 rcases hq with rfl | rfl
 ·refine (axk b v l s (fun n u d => n = (s.length : Int) ∧ u = .nilIface ∧ d = l ++ s) ⟨hb, rfl, rfl, rfl⟩).weak fun o ho => ?_
  rcases ho with ⟨n, u, w, d, ⟨rfl, rfl, rfl⟩, rfl⟩ | h
  ·exact ⟨_, w, .inr rfl, rfl⟩
  ·exact h.elim
 ·refine (axi b v l s (fun n u d => n = (s.length : Int) ∧ u = .nilIface ∧ d = l ++ s) ⟨hb, rfl, rfl, rfl⟩).weak fun o ho => ?_
  rcases ho with ⟨n, u, w, d, ⟨rfl, rfl, rfl⟩, rfl⟩ | h
  ·exact ⟨_, w, .inr rfl, rfl⟩
  ·exact h.elim
end Go.Proofs.YtifajndacnfcbaaDoor
set_option maxRecDepth 100000
namespace Go.Proofs.YtifajndacnfcbaaDoor
open Go Go.RowKit
def alj (s : List UInt8) (K : (List UInt8) → Prop) : Prop :=
 ∃ (Inv : Int → (List UInt8) → Prop) (mu : Int → (List UInt8) → Nat),
  Inv 0 [34] ∧ ∀ (t9_1' : Int) (l_3' : List UInt8), Inv t9_1' l_3' →
   (if (decide (t9_1' < (s.length : Int))) = true then
    ∃ (J0_2' : (List UInt8) → Prop),
     (∀ (l_4' : List UInt8), J0_2' l_4' →
      (I64 (t9_1' + 1)) ∧
      Inv (t9_1' + 1) l_4' ∧ mu (t9_1' + 1) l_4' < mu t9_1' l_3') ∧
     (0 ≤ t9_1' ∧ t9_1' < s.length) ∧
     (if ((decide (((s.getD t9_1'.toNat 0).toNat : Int) = 34)) || (decide (((s.getD t9_1'.toNat 0).toNat : Int) = 92))) = true then
      (((l_3'.length + 2) + (l_3'.length + 2) / 4 + 192) * 1 ≤ 281474976710656 ∧ l_3'.length + 2 ≤ 9223372036854775807) ∧
      J0_2' (l_3' ++ [92, (s.getD t9_1'.toNat 0)])
     else
      (if ((decide (32 ≤ ((s.getD t9_1'.toNat 0).toNat : Int))) && (decide (((s.getD t9_1'.toNat 0).toNat : Int) ≤ 126))) = true then
       (((l_3'.length + 1) + (l_3'.length + 1) / 4 + 192) * 1 ≤ 281474976710656 ∧ l_3'.length + 1 ≤ 9223372036854775807) ∧
       J0_2' (l_3' ++ [(s.getD t9_1'.toNat 0)])
      else
       (if (decide (((s.getD t9_1'.toNat 0).toNat : Int) = 10)) = true then
        (l_3'.length + ([92, 110] : List UInt8).length ≤ 140737488355328) ∧
        J0_2' (l_3' ++ ([92, 110] : List UInt8))
       else
        (if (decide (((s.getD t9_1'.toNat 0).toNat : Int) = 13)) = true then
         (l_3'.length + ([92, 114] : List UInt8).length ≤ 140737488355328) ∧
         J0_2' (l_3' ++ ([92, 114] : List UInt8))
        else
         (if (decide (((s.getD t9_1'.toNat 0).toNat : Int) = 9)) = true then
          (l_3'.length + ([92, 116] : List UInt8).length ≤ 140737488355328) ∧
          J0_2' (l_3' ++ ([92, 116] : List UInt8))
         else
          (0 ≤ (((s.getD t9_1'.toNat 0).toNat : Int) / 2 ^ (4 : Int).toNat) ∧ (((s.getD t9_1'.toNat 0).toNat : Int) / 2 ^ (4 : Int).toNat) < ([48, 49, 50, 51, 52, 53, 54, 55, 56, 57, 97, 98, 99, 100, 101, 102] : List UInt8).length) ∧
          (0 ≤ (bits .and .u8 ((s.getD t9_1'.toNat 0).toNat : Int) 15) ∧ (bits .and .u8 ((s.getD t9_1'.toNat 0).toNat : Int) 15) < ([48, 49, 50, 51, 52, 53, 54, 55, 56, 57, 97, 98, 99, 100, 101, 102] : List UInt8).length) ∧
          (((l_3'.length + 4) + (l_3'.length + 4) / 4 + 192) * 1 ≤ 281474976710656 ∧ l_3'.length + 4 ≤ 9223372036854775807) ∧
          J0_2' (l_3' ++ [92, 120, (([48, 49, 50, 51, 52, 53, 54, 55, 56, 57, 97, 98, 99, 100, 101, 102] : List UInt8).getD (((s.getD t9_1'.toNat 0).toNat : Int) / 2 ^ (4 : Int).toNat).toNat 0), (([48, 49, 50, 51, 52, 53, 54, 55, 56, 57, 97, 98, 99, 100, 101, 102] : List UInt8).getD (bits .and .u8 ((s.getD t9_1'.toNat 0).toNat : Int) 15).toNat 0)]))))))
   else
    (((l_3'.length + 1) + (l_3'.length + 1) / 4 + 192) * 1 ≤ 281474976710656 ∧ l_3'.length + 1 ≤ 9223372036854775807) ∧
    K (l_3' ++ [34]))
theorem avf  (s : List UInt8) (K : (List UInt8) → Prop) (h : alj s K) :
  d9 Tryd.prog 56 [st s] [] [] (fun o => (∃ (v : List UInt8), K v ∧ o = .ret (st v) []) ∨ (False)) := by
 unfold alj at h
 refine c8 (n := 66) (L0 := [(0, st s)]) Tryd.func56 rfl rfl rfl rfl (fun w0 M Q hE => ?_)
 refine a7 (fun _ hK => ?_)
 refine a6 ?_
 refine wA ?_
 refine WL.nil ?_
 refine kg (hK [(0, st s)] _ ?_)
 refine a7 (fun _ hK_1' => ?_)
 refine a6 ?_
 refine WL.make (MV.buildSlice (cs := [zU 34]) rfl j6 (by kernel_rfl)) rfl rfl rfl (fun b => ?_)
 refine WL.asRow (f := k8) (ms := [34]) 0 rfl rfl rfl w6 rfl ?_
 refine wA ?_
 refine WL.nil ?_
 refine kg (hK_1' [(0, st s), (3, Value.slice (some ⟨b, 0, none⟩) 1 1)] _ ?_)
 refine a7 (fun _ hK_2' => ?_)
 refine a7 (fun _ hK_3' => ?_)
 refine a6 ?_
 refine wm ?_
 refine wv (OV.len rfl c9) ?_
 refine wm ?_
 refine WL.nil ?_
 refine kg (hK_3' [(0, st s), (3, Value.slice (some ⟨b, 0, none⟩) 1 1), (8, zI (s.length : Int)), (9, zI 0)] _ ?_)
 refine b7 ?_
 obtain ⟨Inv, mu, h0, hr⟩ := h
 refine o7 (S := Int × Value × (List UInt8)) (fun σ => Inv σ.1 σ.2.2) (fun σ => mu σ.1 σ.2.2) (fun σ => [(0, st s), (3, σ.2.1), (8, zI (s.length : Int)), (9, zI σ.1)]) (fun σ => [HA.row σ.2.1 5 1 σ.2.2.length (σ.2.2.flatMap k8)]) (0, Value.slice (some ⟨b, 0, none⟩) 1 1, [34]) h0 ⟨rfl, rfl, rfl, rfl, trivial⟩ rfl ?_
 rintro ⟨t9_1', w_27', l_3'⟩ hi K0_46' hK_46'
 have h := hr t9_1' l_3' hi
 show WC _ _ _ _ [(0, st s), (3, w_27'), (8, zI (s.length : Int)), (9, zI t9_1')] [HA.row w_27' 5 1 l_3'.length (l_3'.flatMap k8)]
 refine a7 (fun _ hK_47' => ?_)
 refine a6 ?_
 refine wv (OV.lss rfl rfl) ?_
 refine WL.nil ?_
 refine kg (hK_47' [(0, st s), (3, w_27'), (8, zI (s.length : Int)), (9, zI t9_1'), (10, zB (decide (t9_1' < (s.length : Int))))] _ ?_)
 refine a7 (fun _ hK_48' => ?_)
 refine b5 (b := decide (t9_1' < (s.length : Int))) rfl (fun hb => ?_) (fun hb => ?_)
 ·replace h := e8 h hb
  refine b6 ?_
  refine kg (hK_48' [(0, st s), (3, w_27'), (8, zI (s.length : Int)), (9, zI t9_1')] _ ?_)
  obtain ⟨J0_2', hJ_2', h⟩ := h
  refine m5 (X := Value × (List UInt8)) (fun σ => J0_2' σ.2) (fun σ => [(0, st s), (3, σ.1), (8, zI (s.length : Int)), (9, zI t9_1')]) (fun σ => [HA.row σ.1 5 1 σ.2.length (σ.2.flatMap k8)]) ?_ (fun K0_58' hK_58' => ?_)
  ·rintro ⟨w_34', l_4'⟩ hj
   replace h := hJ_2' l_4' hj
   show WC _ _ _ _ [(0, st s), (3, w_34'), (8, zI (s.length : Int)), (9, zI t9_1')] [HA.row w_34' 5 1 l_4'.length (l_4'.flatMap k8)]
   refine a6 ?_
   obtain ⟨o_56', h⟩ := h
   refine wv (OV.add rfl rfl o_56') ?_
   refine wm ?_
   refine WL.nil ?_
   exact kh (hK_46' (t9_1' + 1, w_34', l_4') h.1 h.2) [0]
  ·skip
   refine b7 ?_
   refine a7 (fun _ hK_59' => ?_)
   refine a6 ?_
   refine wm ?_
   refine wA ?_
   refine WL.nil ?_
   refine kg (hK_59' [(0, st s), (3, w_27'), (4, zI t9_1'), (8, zI (s.length : Int)), (9, zI t9_1')] _ ?_)
   refine a7 (fun _ hK_60' => ?_)
   refine a6 ?_
   refine wm ?_
   refine wm ?_
   obtain ⟨o_57', h⟩ := h
   refine wv (OV.index rfl rfl c9 o_57') ?_
   refine wA ?_
   refine WL.nil ?_
   refine kg (hK_60' [(0, st s), (3, w_27'), (5, zU ((s.getD t9_1'.toNat 0).toNat : Int)), (8, zI (s.length : Int)), (9, zI t9_1')] _ ?_)
   refine b7 ?_
   refine a7 (fun _ hK_61' => ?_)
   refine a6 ?_
   refine wm ?_
   refine wv (OV.eql rfl rfl) ?_
   refine wm ?_
   refine WL.cut 3 [(0, st s), (3, w_27'), (5, zU ((s.getD t9_1'.toNat 0).toNat : Int)), (8, zI (s.length : Int)), (9, zI t9_1'), (30, zB ((decide (((s.getD t9_1'.toNat 0).toNat : Int) = 34)) || (decide (((s.getD t9_1'.toNat 0).toNat : Int) = 92))))] ?_ (fun K0_62' hK_62' => ?_)
   rotate_left
   ·refine WL.split (decide (((s.getD t9_1'.toNat 0).toNat : Int) = 34)) (fun hb => ?_) (fun hb => ?_)
    ·refine WL.set 27 rfl (congrArg zB hb) ?_
     refine wk ?_
     refine wk ?_
     refine wv (OV.pickT rfl rfl) ?_
     refine WL.set 30 rfl (oT (v := decide (((s.getD t9_1'.toNat 0).toNat : Int) = 92)) hb) ?_
     exact WL.end_ (kg hK_62')
    ·refine WL.set 27 rfl (congrArg zB hb) ?_
     refine wm ?_
     refine wv (OV.eql rfl rfl) ?_
     refine wv (OV.pickF rfl rfl) ?_
     refine WL.set 30 rfl (oF (v := decide (((s.getD t9_1'.toNat 0).toNat : Int) = 92)) hb) ?_
     exact WL.end_ (kg hK_62')
   refine wA ?_
   refine WL.nil ?_
   refine kg (hK_61' [(0, st s), (3, w_27'), (5, zU ((s.getD t9_1'.toNat 0).toNat : Int)), (8, zI (s.length : Int)), (9, zI t9_1'), (24, zB ((decide (((s.getD t9_1'.toNat 0).toNat : Int) = 34)) || (decide (((s.getD t9_1'.toNat 0).toNat : Int) = 92))))] _ ?_)
   refine b5 (b := (decide (((s.getD t9_1'.toNat 0).toNat : Int) = 34)) || (decide (((s.getD t9_1'.toNat 0).toNat : Int) = 92))) rfl (fun hb => ?_) (fun hb => ?_)
   ·replace h := e8 h hb
    refine a6 ?_
    refine wm ?_
    refine wm ?_
    refine WL.make (MV.buildSlice (cs := [zU 92, zU ((s.getD t9_1'.toNat 0).toNat : Int)]) rfl j6 (by kernel_rfl)) rfl rfl rfl (fun b_16' => ?_)
    obtain ⟨o_59', h⟩ := h
    refine WL.append (f := k8) (ms := [92, (s.getD t9_1'.toNat 0)]) 1 0 rfl rfl rfl rfl rfl rfl w6 (by decide) rfl j6 x5 rfl o_59' rfl rfl (fun w_35' => ?_)
    refine wA ?_
    refine WL.nil ?_
    exact kh (hK_58' (w_35', l_3' ++ [92, (s.getD t9_1'.toNat 0)]) h) [1]
   ·replace h := e9 h hb
    refine a7 (fun _ hK_63' => ?_)
    refine a6 ?_
    refine wm ?_
    refine wv (OV.geq rfl rfl) ?_
    refine wm ?_
    refine WL.cut 3 [(0, st s), (3, w_27'), (5, zU ((s.getD t9_1'.toNat 0).toNat : Int)), (8, zI (s.length : Int)), (9, zI t9_1'), (41, zB ((decide (32 ≤ ((s.getD t9_1'.toNat 0).toNat : Int))) && (decide (((s.getD t9_1'.toNat 0).toNat : Int) ≤ 126))))] ?_ (fun K0_64' hK_64' => ?_)
    rotate_left
    ·refine WL.split (decide (32 ≤ ((s.getD t9_1'.toNat 0).toNat : Int))) (fun hb => ?_) (fun hb => ?_)
     ·refine WL.set 38 rfl (congrArg zB hb) ?_
      refine wm ?_
      refine wv (OV.leq rfl rfl) ?_
      refine wv (OV.pickT rfl rfl) ?_
      refine WL.set 41 rfl (bT (v := decide (((s.getD t9_1'.toNat 0).toNat : Int) ≤ 126)) hb) ?_
      exact WL.end_ (kg hK_64')
     ·refine WL.set 38 rfl (congrArg zB hb) ?_
      refine wk ?_
      refine wk ?_
      refine wv (OV.pickF rfl rfl) ?_
      refine WL.set 41 rfl (bF (v := decide (((s.getD t9_1'.toNat 0).toNat : Int) ≤ 126)) hb) ?_
      exact WL.end_ (kg hK_64')
    refine wA ?_
    refine WL.nil ?_
    refine kg (hK_63' [(0, st s), (3, w_27'), (5, zU ((s.getD t9_1'.toNat 0).toNat : Int)), (8, zI (s.length : Int)), (9, zI t9_1'), (35, zB ((decide (32 ≤ ((s.getD t9_1'.toNat 0).toNat : Int))) && (decide (((s.getD t9_1'.toNat 0).toNat : Int) ≤ 126))))] _ ?_)
    refine b5 (b := (decide (32 ≤ ((s.getD t9_1'.toNat 0).toNat : Int))) && (decide (((s.getD t9_1'.toNat 0).toNat : Int) ≤ 126))) rfl (fun hb => ?_) (fun hb => ?_)
    ·replace h := e8 h hb
     refine a6 ?_
     refine wm ?_
     refine wm ?_
     refine WL.make (MV.buildSlice (cs := [zU ((s.getD t9_1'.toNat 0).toNat : Int)]) rfl j6 (by kernel_rfl)) rfl rfl rfl (fun b_17' => ?_)
     obtain ⟨o_61', h⟩ := h
     refine WL.append (f := k8) (ms := [(s.getD t9_1'.toNat 0)]) 1 0 rfl rfl rfl rfl rfl rfl w6 (by decide) rfl j6 x5 rfl o_61' rfl rfl (fun w_36' => ?_)
     refine wA ?_
     refine WL.nil ?_
     exact kh (hK_58' (w_36', l_3' ++ [(s.getD t9_1'.toNat 0)]) h) [1]
    ·replace h := e9 h hb
     refine a7 (fun _ hK_65' => ?_)
     refine a6 ?_
     refine wm ?_
     refine wv (OV.eql rfl rfl) ?_
     refine wA ?_
     refine WL.nil ?_
     refine kg (hK_65' [(0, st s), (3, w_27'), (5, zU ((s.getD t9_1'.toNat 0).toNat : Int)), (8, zI (s.length : Int)), (9, zI t9_1'), (46, zB (decide (((s.getD t9_1'.toNat 0).toNat : Int) = 10)))] _ ?_)
     refine b5 (b := decide (((s.getD t9_1'.toNat 0).toNat : Int) = 10)) rfl (fun hb => ?_) (fun hb => ?_)
     ·replace h := e8 h hb
      refine a6 ?_
      refine wm ?_
      obtain ⟨o_62', h⟩ := h
      refine WL.appendS (m := ([92, 110] : List UInt8)) 0 rfl rfl rfl j6 c9 acf o_62' rfl rfl (fun w_37' => ?_)
      refine wA ?_
      refine WL.nil ?_
      exact kh (hK_58' (w_37', l_3' ++ ([92, 110] : List UInt8)) h) [0]
     ·replace h := e9 h hb
      refine a7 (fun _ hK_66' => ?_)
      refine a6 ?_
      refine wm ?_
      refine wv (OV.eql rfl rfl) ?_
      refine wA ?_
      refine WL.nil ?_
      refine kg (hK_66' [(0, st s), (3, w_27'), (5, zU ((s.getD t9_1'.toNat 0).toNat : Int)), (8, zI (s.length : Int)), (9, zI t9_1'), (51, zB (decide (((s.getD t9_1'.toNat 0).toNat : Int) = 13)))] _ ?_)
      refine b5 (b := decide (((s.getD t9_1'.toNat 0).toNat : Int) = 13)) rfl (fun hb => ?_) (fun hb => ?_)
      ·replace h := e8 h hb
       refine a6 ?_
       refine wm ?_
       obtain ⟨o_63', h⟩ := h
       refine WL.appendS (m := ([92, 114] : List UInt8)) 0 rfl rfl rfl j6 c9 acf o_63' rfl rfl (fun w_38' => ?_)
       refine wA ?_
       refine WL.nil ?_
       exact kh (hK_58' (w_38', l_3' ++ ([92, 114] : List UInt8)) h) [0]
      ·replace h := e9 h hb
       refine a7 (fun _ hK_67' => ?_)
       refine a6 ?_
       refine wm ?_
       refine wv (OV.eql rfl rfl) ?_
       refine wA ?_
       refine WL.nil ?_
       refine kg (hK_67' [(0, st s), (3, w_27'), (5, zU ((s.getD t9_1'.toNat 0).toNat : Int)), (8, zI (s.length : Int)), (9, zI t9_1'), (56, zB (decide (((s.getD t9_1'.toNat 0).toNat : Int) = 9)))] _ ?_)
       refine b5 (b := decide (((s.getD t9_1'.toNat 0).toNat : Int) = 9)) rfl (fun hb => ?_) (fun hb => ?_)
       ·replace h := e8 h hb
        refine a6 ?_
        refine wm ?_
        obtain ⟨o_64', h⟩ := h
        refine WL.appendS (m := ([92, 116] : List UInt8)) 0 rfl rfl rfl j6 c9 acf o_64' rfl rfl (fun w_39' => ?_)
        refine wA ?_
        refine WL.nil ?_
        exact kh (hK_58' (w_39', l_3' ++ ([92, 116] : List UInt8)) h) [0]
       ·replace h := e9 h hb
        refine m0 8 [(7, .cells [zU 92, zU 120, zU ((([48, 49, 50, 51, 52, 53, 54, 55, 56, 57, 97, 98, 99, 100, 101, 102] : List UInt8).getD (((s.getD t9_1'.toNat 0).toNat : Int) / 2 ^ (4 : Int).toNat).toNat 0).toNat : Int), zU ((([48, 49, 50, 51, 52, 53, 54, 55, 56, 57, 97, 98, 99, 100, 101, 102] : List UInt8).getD (bits .and .u8 ((s.getD t9_1'.toNat 0).toNat : Int) 15).toNat 0).toNat : Int)].toArray 5 (0, 0))] f0 (by kernel_rfl) rfl (fun T_5' hT_5' => ?_)
        refine fv (fun _ => OV.move rfl) ?_
        refine fv (fun _ => OV.move rfl) ?_
        refine fv (fun _ => OV.shr rfl rfl ⟨by decide, by decide⟩) ?_
        obtain ⟨o_65', h⟩ := h
        refine fv (fun _ => OV.index rfl rfl c9 o_65') ?_
        refine fv (fun _ => OV.move rfl) ?_
        refine fv (fun _ => OV.bits_and rfl rfl) ?_
        obtain ⟨o_66', h⟩ := h
        refine fv (fun _ => OV.index rfl rfl c9 o_66') ?_
        refine FL.make (fun _ => MV.buildSlice (cs := [zU 92, zU 120, zU ((([48, 49, 50, 51, 52, 53, 54, 55, 56, 57, 97, 98, 99, 100, 101, 102] : List UInt8).getD (((s.getD t9_1'.toNat 0).toNat : Int) / 2 ^ (4 : Int).toNat).toNat 0).toNat : Int), zU ((([48, 49, 50, 51, 52, 53, 54, 55, 56, 57, 97, 98, 99, 100, 101, 102] : List UInt8).getD (bits .and .u8 ((s.getD t9_1'.toNat 0).toNat : Int) 15).toNat 0).toNat : Int)]) rfl j6 (by kernel_rfl)) rfl (fun _ => rfl) rfl rfl ?_
        refine FL.weak (L' := fun γ => [(0, st s), (3, w_27'), (8, zI (s.length : Int)), (9, zI t9_1'), (15, w_27'), (22, Value.slice (some ⟨(γ 7), 0, none⟩) 4 4)]) (fun γ => ⟨rfl, rfl, rfl, rfl, rfl, rfl, trivial⟩) (FL.nil (hT_5' (fun γ => [(0, st s), (3, w_27'), (8, zI (s.length : Int)), (9, zI t9_1'), (15, w_27'), (22, Value.slice (some ⟨(γ 7), 0, none⟩) 4 4)]) (fun γ => ?_)))
        show WL _ _ _ _ [(0, st s), (3, w_27'), (8, zI (s.length : Int)), (9, zI t9_1'), (15, w_27'), (22, Value.slice (some ⟨(γ 7), 0, none⟩) 4 4)] [HA.blk (γ 7) (.cells [zU 92, zU 120, zU ((([48, 49, 50, 51, 52, 53, 54, 55, 56, 57, 97, 98, 99, 100, 101, 102] : List UInt8).getD (((s.getD t9_1'.toNat 0).toNat : Int) / 2 ^ (4 : Int).toNat).toNat 0).toNat : Int), zU ((([48, 49, 50, 51, 52, 53, 54, 55, 56, 57, 97, 98, 99, 100, 101, 102] : List UInt8).getD (bits .and .u8 ((s.getD t9_1'.toNat 0).toNat : Int) 15).toNat 0).toNat : Int)].toArray 5 (0, 0)), HA.row w_27' 5 1 l_3'.length (l_3'.flatMap k8)] _
        generalize γ 7 = b_18'
        obtain ⟨o_67', h⟩ := h
        refine WL.append (f := k8) (ms := [92, 120, (([48, 49, 50, 51, 52, 53, 54, 55, 56, 57, 97, 98, 99, 100, 101, 102] : List UInt8).getD (((s.getD t9_1'.toNat 0).toNat : Int) / 2 ^ (4 : Int).toNat).toNat 0), (([48, 49, 50, 51, 52, 53, 54, 55, 56, 57, 97, 98, 99, 100, 101, 102] : List UInt8).getD (bits .and .u8 ((s.getD t9_1'.toNat 0).toNat : Int) 15).toNat 0)]) 1 0 rfl rfl rfl rfl rfl rfl w6 (by decide) rfl j6 x5 rfl o_67' rfl rfl (fun w_40' => ?_)
        refine wA ?_
        refine WL.nil ?_
        exact kh (hK_58' (w_40', l_3' ++ [92, 120, (([48, 49, 50, 51, 52, 53, 54, 55, 56, 57, 97, 98, 99, 100, 101, 102] : List UInt8).getD (((s.getD t9_1'.toNat 0).toNat : Int) / 2 ^ (4 : Int).toNat).toNat 0), (([48, 49, 50, 51, 52, 53, 54, 55, 56, 57, 97, 98, 99, 100, 101, 102] : List UInt8).getD (bits .and .u8 ((s.getD t9_1'.toNat 0).toNat : Int) 15).toNat 0)]) h) [1]
 ·replace h := e9 h hb
  refine l4 ?_
  refine kg (hK_2' [(3, w_27')] _ ?_)
  refine a7 (fun _ hK_68' => ?_)
  refine a6 ?_
  refine wm ?_
  refine WL.make (MV.buildSlice (cs := [zU 34]) rfl j6 (by kernel_rfl)) rfl rfl rfl (fun b_19' => ?_)
  obtain ⟨o_68', h⟩ := h
  refine WL.append (f := k8) (ms := [34]) 1 0 rfl rfl rfl rfl rfl rfl w6 (by decide) rfl j6 x5 rfl o_68' rfl rfl (fun w_41' => ?_)
  refine wv (OV.bytesRow (l := l_3' ++ [34]) 1 rfl rfl j6 Tryd.underlying5 c9) ?_
  refine wA ?_
  refine WL.nil ?_
  refine kg (hK_68' [(2, st (l_3' ++ [34]))] _ ?_)
  refine b8 ?_
  exact hE.ret [] rfl rfl (.inl ⟨_, h, rfl⟩) (d7.of1 rfl (RV.tmp rfl))
def hx (n : Nat) : UInt8 := ([48, 49, 50, 51, 52, 53, 54, 55, 56, 57, 97, 98, 99, 100, 101, 102] : List UInt8).getD n 0
def qb (c : UInt8) : List UInt8 :=
 if c = 34 ∨ c = 92 then [92, c] else if 32 ≤ c.toNat ∧ c.toNat ≤ 126 then [c] else if c = 10 then [92, 110] else if c = 13 then [92, 114] else if c = 9 then [92, 116] else [92, 120, hx (c.toNat / 16), hx (c.toNat % 16)]
def adm (s : List UInt8) : List UInt8 := [34] ++ s.flatMap qb ++ [34]
theorem axr (c : UInt8) : (qb c).length ≤ 4 := by
 unfold qb
 repeat' split
 all_goals simp
theorem anb : ∀ s : List UInt8, (s.flatMap qb).length ≤ 4 * s.length
 | [] => by simp
 | c :: s => by
  have h1 := axr c
  have h2 := anb s
  rw [List.flatMap_cons, List.length_append, List.length_cons]; omega
theorem awz {s : List UInt8} {i : Int} (h : 0 ≤ i ∧ i < s.length) : (s.take (i + 1).toNat).flatMap qb = (s.take i.toNat).flatMap qb ++ qb (s.getD i.toNat 0) := by
 have hlt : i.toNat < s.length := by omega
 rw [show (i + 1).toNat = i.toNat + 1 by omega, List.take_add_one, List.flatMap_append, List.getElem?_eq_getElem hlt, List.getD_eq_getElem?_getD, List.getElem?_eq_getElem hlt]
 simp
theorem aok {c : UInt8} (n : UInt8) : ((c.toNat : Int) = (n.toNat : Int)) ↔ c = n := ⟨fun h => UInt8.toNat_inj.1 (by omega), fun h => by rw [h]⟩
theorem ax7 : ∀ n : Nat, n < 256 → bits .and .u8 (n : Int) 15 = ((n % 16 : Nat) : Int) := by decide +kernel
theorem ap6 (s : List UInt8) (h : s.length ≤ 1048576) : d9 Tryd.prog 56 [st s] [] [] (Ret (st (adm s)) []) := by
 refine (avf s (fun r => r = adm s) ?_).weak (by rintro o (⟨v, rfl, rfl⟩ | h) <;> first | rfl | exact h.elim)
 unfold alj
 refine ⟨fun i out => 0 ≤ i ∧ i ≤ s.length ∧ out = [34] ++ (s.take i.toNat).flatMap qb, fun i _ => (s.length - i).toNat, ⟨by omega, by omega, by simp⟩, ?_⟩
 rintro i out ⟨h0, h1, rfl⟩
 have hl0 := anb (s.take i.toNat)
 rw [List.length_take] at hl0
 have hl : ([34] ++ (s.take i.toNat).flatMap qb).length ≤ 4194305 := by rw [List.length_append]; simp only [List.length_cons, List.length_nil]; omega
 by_cases hi : i < s.length
 ·rw [if_pos (by simpa using hi)]
  have ht := awz ⟨h0, hi⟩
  have key : ∀ X, qb (s.getD i.toNat 0) = X → ([34] ++ (s.take i.toNat).flatMap qb) ++ X = [34] ++ (s.take (i + 1).toNat).flatMap qb := fun X hX => by rw [ht, ← hX, List.append_assoc]
  refine ⟨fun l => l = [34] ++ (s.take (i + 1).toNat).flatMap qb, fun l hl2 => ⟨⟨by omega, by omega⟩, ⟨by omega, by omega, hl2⟩, by show (s.length - (i + 1)).toNat < (s.length - i).toNat; omega⟩, ⟨h0, hi⟩, ?_⟩
  generalize s.getD i.toNat 0 = c at key ⊢
  generalize ([34] ++ (s.take i.toNat).flatMap qb) = out at hl key ⊢
  have hc := c.toNat_lt
  have n34 := aok (c := c) 34
  have n92 := aok (c := c) 92
  have n10 := aok (c := c) 10
  have n13 := aok (c := c) 13
  have n9 := aok (c := c) 9
  have v34 : ((34 : UInt8).toNat : Int) = 34 := rfl
  have v92 : ((92 : UInt8).toNat : Int) = 92 := rfl
  have v10 : ((10 : UInt8).toNat : Int) = 10 := rfl
  have v13 : ((13 : UInt8).toNat : Int) = 13 := rfl
  have v9 : ((9 : UInt8).toNat : Int) = 9 := rfl
  rw [v34] at n34
  rw [v92] at n92
  rw [v10] at n10
  rw [v13] at n13
  rw [v9] at n9
  simp only [n34, n92, n10, n13, n9]
  unfold qb at key
  by_cases e1 : c = 34 ∨ c = 92
  ·rw [if_pos (by simpa using e1)]
   exact ⟨⟨by omega, by omega⟩, key _ (by rw [if_pos e1])⟩
  ·rw [if_neg (by simpa using e1)]
   rw [if_neg e1] at key
   by_cases e2 : 32 ≤ c.toNat ∧ c.toNat ≤ 126
   ·rw [if_pos (by simp; omega)]
    exact ⟨⟨by omega, by omega⟩, key _ (by rw [if_pos e2])⟩
   ·rw [if_neg (by simp; omega)]
    rw [if_neg e2] at key
    by_cases e3 : c = 10
    ·rw [if_pos (by simpa using e3)]
     exact ⟨by simp only [List.length_cons, List.length_nil]; omega, key _ (by rw [if_pos e3])⟩
    ·rw [if_neg (by simpa using e3)]
     rw [if_neg e3] at key
     by_cases e4 : c = 13
     ·rw [if_pos (by simpa using e4)]
      exact ⟨by simp only [List.length_cons, List.length_nil]; omega, key _ (by rw [if_pos e4])⟩
     ·rw [if_neg (by simpa using e4)]
      rw [if_neg e4] at key
      by_cases e5 : c = 9
      ·rw [if_pos (by simpa using e5)]
       exact ⟨by simp only [List.length_cons, List.length_nil]; omega, key _ (by rw [if_pos e5])⟩
      ·rw [if_neg (by simpa using e5)]
       rw [if_neg e5] at key
       have hd : ((c.toNat : Int) / 2 ^ (4 : Int).toNat) = ((c.toNat / 16 : Nat) : Int) := by rw [show (2 : Int) ^ (4 : Int).toNat = 16 from rfl]; omega
       rw [hd, ax7 _ hc]
       refine ⟨⟨by omega, by simp only [List.length_cons, List.length_nil]; omega⟩, ⟨by omega, by simp only [List.length_cons, List.length_nil]; omega⟩, ⟨by omega, by omega⟩, key _ rfl⟩
 ·rw [if_neg (by simpa using hi)]
  refine ⟨⟨by omega, by omega⟩, ?_⟩
  rw [List.take_of_length_le (by omega)]; rfl
end Go.Proofs.YtifajndacnfcbaaDoor
namespace Go.Proofs.YtifajndacnfcbaaDoor
open Go Go.RowKit
instance : Inhabited Ex := ⟨.name 0 []⟩
def rkX : Ex → Int
 | .binary _ o _ _ => d8 o
 | .unary .. => 5
 | _ => 6
def par (r need : Int) (s : Bs) : Bs := if r < need then [40] ++ s ++ [41] else s
mutual
def v6 : Ex → Bs
 | .name _ s => s
 | .text _ s => adm s
 | .regex _ s => [47] ++ s ++ [47]
 | .keyed _ a => [123] ++ par (rkX a) 0 (v6 a) ++ [125]
 | .unary _ o a => par (rkX a) 5 (v6 a) ++ o
 | .binary _ o a b => par (rkX a) (d8 o) (v6 a) ++ ([32] ++ o ++ [32]) ++ par (rkX b) (d8 o + 1) (v6 b)
 | .call _ w l => w ++ [40] ++ afn l ++ [41]
def afn : ExL → Bs
 | .nil => []
 | .cons a r => par (rkX a) 0 (v6 a) ++ afk r
def afk : ExL → Bs
 | .nil => []
 | .cons a r => [44, 32] ++ par (rkX a) 0 (v6 a) ++ afk r
end
def j8 (e : Ex) (need : Int) : Bs := par (rkX e) need (v6 e)
mutual
def OKX : Ex → Prop
 | .name _ s => s.length ≤ 4096
 | .text _ s => s.length ≤ 4096
 | .regex _ s => s.length ≤ 4096
 | .keyed _ a => OKX a
 | .unary _ o a => o.length ≤ 4096 ∧ OKX a
 | .binary _ o a b => (aeq o ∧ 0 ≤ d8 o) ∧ OKX a ∧ OKX b
 | .call _ w l => w.length ≤ 4096 ∧ OKL l
def OKL : ExL → Prop
 | .nil => True
 | .cons a r => OKX a ∧ OKL r
end
mutual
def wX : Ex → Nat
 | .name .. => 1
 | .text .. => 1
 | .regex .. => 1
 | .keyed _ a => 1 + wX a
 | .unary _ _ a => 1 + wX a
 | .binary _ _ a b => 1 + wX a + wX b
 | .call _ _ l => 1 + wL l
def wL : ExL → Nat
 | .nil => 0
 | .cons a r => wX a + 1 + wL r
end
theorem afg (r need : Int) (s : Bs) : (par r need s).length ≤ s.length + 2 := by
 unfold par
 split
 ·simp only [List.length_append, List.length_cons, List.length_nil]; omega
 ·omega
theorem aoh {o : Bs} (h : aeq o) : o.length ≤ 2 := by
 rcases h with rfl | ⟨c, rfl⟩ <;> simp
theorem aqf (s : Bs) : (adm s).length ≤ 4 * s.length + 2 := by
 have := anb s
 unfold adm
 simp only [List.length_append, List.length_cons, List.length_nil]
 omega
mutual
theorem adz : ∀ (e : Ex), OKX e → (v6 e).length + 2 ≤ 20000 * wX e
 | .name _ s, h => by rw [OKX] at h; rw [v6, wX]; omega
 | .text _ s, h => by rw [OKX] at h; have := aqf s; rw [v6, wX]; omega
 | .regex _ s, h => by rw [OKX] at h; rw [v6, wX]; simp only [List.length_append, List.length_cons, List.length_nil]; omega
 | .keyed _ a, h => by
  rw [OKX] at h
  have h1 := adz a h
  have h2 := afg (rkX a) 0 (v6 a)
  rw [v6, wX]; simp only [List.length_append, List.length_cons, List.length_nil]; omega
 | .unary _ o a, h => by
  rw [OKX] at h
  have h1 := adz a h.2
  have h2 := afg (rkX a) 5 (v6 a)
  rw [v6, wX]; simp only [List.length_append]; omega
 | .binary _ o a b, h => by
  rw [OKX] at h
  have h1 := adz a h.2.1
  have h2 := adz b h.2.2
  have h3 := afg (rkX a) (d8 o) (v6 a)
  have h4 := afg (rkX b) (d8 o + 1) (v6 b)
  have h5 := aoh h.1.1
  rw [v6, wX]; simp only [List.length_append, List.length_cons, List.length_nil]; omega
 | .call _ w l, h => by
  rw [OKX] at h
  have h1 := aoj l h.2
  rw [v6, wX]; simp only [List.length_append, List.length_cons, List.length_nil]; omega
theorem aoj : ∀ (l : ExL), OKL l → (afn l).length ≤ 20000 * wL l
 | .nil, _ => by rw [afn, wL]; simp
 | .cons a r, h => by
  rw [OKL] at h
  have h1 := adz a h.1
  have h2 := apj r h.2
  have h3 := afg (rkX a) 0 (v6 a)
  rw [afn, wL]; simp only [List.length_append]; omega
theorem apj : ∀ (l : ExL), OKL l → (afk l).length ≤ 20000 * wL l
 | .nil, _ => by rw [afk, wL]; simp
 | .cons a r, h => by
  rw [OKL] at h
  have h1 := adz a h.1
  have h2 := apj r h.2
  have h3 := afg (rkX a) 0 (v6 a)
  rw [afk, wL]; simp only [List.length_append, List.length_cons, List.length_nil]; omega
end
theorem aa7 (e : Ex) (need : Int) (h : OKX e) : (j8 e need).length ≤ 20000 * wX e := by
 have h1 := adz e h
 have h2 := afg (rkX e) need (v6 e)
 unfold j8; omega
def ExL.toL : ExL → List Ex
 | .nil => []
 | .cons a r => a :: r.toL
def aa5 (l : ExL) (i : Nat) : Bs := match i with
 | 0 => afn l
 | i + 1 => afk (dropA l (i + 1))
where dropA : ExL → Nat → ExL
 | l, 0 => l
 | .nil, _ + 1 => .nil
 | .cons _ r, i + 1 => dropA r i
theorem akx : ∀ l : ExL, l.len ≤ wL l
 | .nil => Nat.zero_le _
 | .cons a r => by have := akx r; rw [wL]; show r.len + 1 ≤ _; omega
theorem apw (l : ExL) : aa5.dropA l 0 = l := by cases l <;> rfl
theorem alf : ∀ {l : ExL} {i : Nat}, i < l.len → aa5.dropA l i = .cons (l.toL.getD i default) (aa5.dropA l (i + 1))
 | .cons a r, 0, _ => by
  rw [aa5.dropA, aa5.dropA]
  ·cases r <;> rfl
 | .cons a r, i + 1, h => by
  rw [aa5.dropA, aa5.dropA]
  exact alf (Nat.lt_of_succ_lt_succ h)
theorem amd : ∀ {l : ExL} {i : Nat}, l.len ≤ i → aa5.dropA l i = .nil
 | .nil, 0, _ => rfl
 | .nil, _ + 1, _ => rfl
 | .cons a r, 0, h => by cases h
 | .cons a r, i + 1, h => by rw [aa5.dropA]; exact amd (Nat.le_of_succ_le_succ h)
theorem aur {l : ExL} {i : Nat} (h : i < l.len) : aa5 l i = (if 0 < i then [44, 32] else []) ++ j8 (l.toL.getD i default) 0 ++ aa5 l (i + 1) := by
 cases i with
 | zero =>
  cases l with
  | nil => cases h
  | cons a r =>
   show afn (.cons a r) = [] ++ par (rkX a) 0 (v6 a) ++ afk (aa5.dropA (.cons a r) 1)
   rw [afn, aa5.dropA]
   have : aa5.dropA r 0 = r := by cases r <;> rfl
   rw [this]; rfl
 | succ i =>
  show afk (aa5.dropA l (i + 1)) = [44, 32] ++ _ ++ afk (aa5.dropA l (i + 1 + 1))
  rw [alf h, afk]; rfl
theorem at9 {l : ExL} {i : Nat} (h : l.len ≤ i) (h0 : 0 < l.len) : aa5 l i = [] := by
 cases i with
 | zero => omega
 | succ i =>
  show afk (aa5.dropA l (i + 1)) = []
  rw [amd h, afk]
theorem OKL.at : ∀ {l : ExL} {i : Nat}, OKL l → i < l.len → OKX (l.toL.getD i default) ∧ wX (l.toL.getD i default) ≤ wL l
 | .cons a r, 0, h, _ => by rw [OKL] at h; rw [wL]; exact ⟨h.1, by show wX a ≤ _; omega⟩
 | .cons a r, i + 1, h, hi => by
  rw [OKL] at h
  have := OKL.at h.2 (Nat.lt_of_succ_lt_succ hi)
  rw [wL]
  exact ⟨this.1, by show wX (r.toL.getD i default) ≤ _; omega⟩
def s9 (v : Value) (B : List (Nat × Obj)) (n : Nat) (xs : List Value) : Prop := ∃ R, aqu v R n xs ∧ ∀ p ∈ R, p ∈ B
theorem s9.lin {C : Cx} {v : Value} {B : List (Nat × Obj)} {n : Nat} {xs : List Value} (h : s9 v B n xs) (hC : ∀ p ∈ B, p ∈ C.R) : LIn C v n xs := by
 obtain ⟨R, h1, h2⟩ := h
 exact LIn.mk h1 fun p hp => hC p (h2 p hp)
def abj (l : Bs) (need : Int) (x : Ex) : Prop := (0 ≤ need ∧ need ≤ 6) ∧ OKX x ∧ l.length + 20000 * wX x ≤ 1099511627776
def aa2 (B : List (Nat × Obj)) (te : TypeId) (fre : Nat × Nat) (u : Value) (x : Ex) : Prop :=
 ∀ (pb : Nat) (l : List UInt8) (need : Int), abj l need x → d9 Tryd.prog 31 [.pointer (some ⟨pb, 0, none⟩), u, .int .i64 need] (B ++ ad4 te fre) [bld 90 5 pb l]
  (Ret (.tuple #[]) [bld 90 5 pb (l ++ j8 x need)])
end Go.Proofs.YtifajndacnfcbaaDoor
set_option maxRecDepth 100000
namespace Go.Proofs.YtifajndacnfcbaaDoor
open Go Go.RowKit
theorem x8 : af3 Tryd.prog 80 = true := by kernel_rfl
theorem ab7 : aih Tryd.prog 80 = some (Value.agg [zI 0, st [], Value.nilIface, Value.nilIface].toArray) := by kernel_rfl
theorem w9 : af3 Tryd.prog 78 = true := by kernel_rfl
theorem abp : aih Tryd.prog 78 = some (Value.agg [zI 0, st [], Value.nilIface].toArray) := by kernel_rfl
theorem u7 : af3 Tryd.prog 71 = true := by kernel_rfl
theorem alc : ab0 Tryd.prog 71 = some [zI 0, st []] := by kernel_rfl
theorem akb : o8 Tryd.prog 71 2 = true := by kernel_rfl
theorem j0 : f6 Tryd.prog 90 0 = some 0 := by kernel_rfl
theorem agp : f6 Tryd.prog 71 1 = some 1 := by kernel_rfl
theorem n4 : k9 Tryd.prog 30 = true := by kernel_rfl
theorem x6 : aih Tryd.prog 71 = some (Value.agg [zI 0, st []].toArray) := by kernel_rfl
theorem x9 : af3 Tryd.prog 73 = true := by kernel_rfl
theorem ald : ab0 Tryd.prog 73 = some [zI 0, st []] := by kernel_rfl
theorem akt : o8 Tryd.prog 73 2 = true := by kernel_rfl
theorem agt : f6 Tryd.prog 73 1 = some 1 := by kernel_rfl
theorem atl : k9 Tryd.prog 56 = true := by kernel_rfl
theorem aau : aih Tryd.prog 73 = some (Value.agg [zI 0, st []].toArray) := by kernel_rfl
theorem aas : af3 Tryd.prog 74 = true := by kernel_rfl
theorem akq : ab0 Tryd.prog 74 = some [zI 0, st []] := by kernel_rfl
theorem akm : o8 Tryd.prog 74 2 = true := by kernel_rfl
theorem agv : f6 Tryd.prog 74 1 = some 1 := by kernel_rfl
theorem abk : aih Tryd.prog 74 = some (Value.agg [zI 0, st []].toArray) := by kernel_rfl
theorem abl : af3 Tryd.prog 76 = true := by kernel_rfl
theorem alb : ab0 Tryd.prog 76 = some [zI 0, Value.nilIface] := by kernel_rfl
theorem akr : o8 Tryd.prog 76 2 = true := by kernel_rfl
theorem agn : f6 Tryd.prog 76 1 = some 1 := by kernel_rfl
theorem m4 : aal Tryd.prog 37 = true := by kernel_rfl
theorem aa0 : k9 Tryd.prog 31 = true := by kernel_rfl
theorem adq : ab0 Tryd.prog 78 = some [zI 0, st [], Value.nilIface] := by kernel_rfl
theorem adn : o8 Tryd.prog 78 3 = true := by kernel_rfl
theorem ac0 : aih Tryd.prog 76 = some (Value.agg [zI 0, Value.nilIface].toArray) := by kernel_rfl
theorem aei : f6 Tryd.prog 78 2 = some 2 := by kernel_rfl
theorem aek : f6 Tryd.prog 78 1 = some 1 := by kernel_rfl
theorem adj : ab0 Tryd.prog 80 = some [zI 0, st [], Value.nilIface, Value.nilIface] := by kernel_rfl
theorem adr : o8 Tryd.prog 80 4 = true := by kernel_rfl
theorem abm : f6 Tryd.prog 80 1 = some 1 := by kernel_rfl
theorem ael : f6 Tryd.prog 80 2 = some 2 := by kernel_rfl
theorem ad9 : f6 Tryd.prog 80 3 = some 3 := by kernel_rfl
theorem aoa : af3 Tryd.prog 83 = true := by kernel_rfl
theorem agz : f6 Tryd.prog 83 1 = some 1 := by kernel_rfl
def afr (bl : List UInt8) (_ : Int) (s0 : List UInt8) (need : Int) (K : (List UInt8) → Prop) : Prop :=
 ∃ (J0 : Prop),
  (∀ (_ : Unit), J0 →
   ((decide (6 < need)) = false) ∧
   (bl.length + s0.length ≤ 140737488355328) ∧
   K (bl ++ s0)) ∧
  J0
theorem aoi (pb : Nat) (te : TypeId) (fre : Nat × Nat) (B : List (Nat × Obj)) (bl : List UInt8) (p0 : Int) (s0 : List UInt8) (need : Int) (K : (List UInt8) → Prop) (h : afr bl p0 s0 need K) :
  d9 Tryd.prog 31 [zP pb, Value.iface 71 (Value.agg [zI p0, st s0].toArray), zI need] (B ++ [(0, .cells [st ([124] : List UInt8), st ([38, 45] : List UInt8), st ([62, 62] : List UInt8), st ([126] : List UInt8), st ([46] : List UInt8)].toArray te fre)]) [bld 90 5 pb bl] (fun o => (∃ (d : List UInt8), K d ∧ o = .ret (Value.tuple #[]) [bld 90 5 pb d]) ∨ (False)) := by
 unfold afr at h
 refine v7 (n := 151) (L0 := [(0, zP pb), (1, Value.iface 71 (Value.agg [zI p0, st s0].toArray)), (2, zI need)]) Tryd.func31 rfl rfl rfl rfl (fun w0 M Q hE => ?_)
 refine a7 (fun _ hK => ?_)
 refine a6 ?_
 refine wA ?_
 refine WL.nil ?_
 refine kg (hK [(0, zP pb), (1, Value.iface 71 (Value.agg [zI p0, st s0].toArray)), (2, zI need), (6, zI 6)] _ ?_)
 obtain ⟨J0, hJ, h⟩ := h
 refine m5 (X := Unit) (fun _ => J0) (fun _ => [(0, zP pb), (1, Value.iface 71 (Value.agg [zI p0, st s0].toArray)), (2, zI need), (6, zI 6)]) (fun _ => [bld 90 5 pb bl]) ?_ (fun K0_4' hK_4' => ?_)
 ·rintro _ hj
  replace h := hJ () hj
  show WC _ _ _ _ [(0, zP pb), (1, Value.iface 71 (Value.agg [zI p0, st s0].toArray)), (2, zI need), (6, zI 6)] [bld 90 5 pb bl]
  refine a7 (fun _ hK_5' => ?_)
  refine a7 (fun _ hK_6' => ?_)
  refine a6 ?_
  refine wm ?_
  refine wm ?_
  refine wv (OV.lss rfl rfl) ?_
  refine WL.nil ?_
  refine kg (hK_6' [(0, zP pb), (1, Value.iface 71 (Value.agg [zI p0, st s0].toArray)), (6, zI 6), (30, zB (decide (6 < need)))] _ ?_)
  obtain ⟨o, h⟩ := h
  refine b5 (b := decide (6 < need)) rfl (fun hb => ?_) (fun hb => ?_)
  ·rw [o] at hb; cases hb
  refine b6 ?_
  refine kg (hK_5' [(0, zP pb), (1, Value.iface 71 (Value.agg [zI p0, st s0].toArray)), (6, zI 6)] _ ?_)
  refine a7 (fun _ hK_7' => ?_)
  refine a6 ?_
  refine wm ?_
  refine WL.nil ?_
  refine kg (hK_7' [(0, zP pb), (6, zI 6), (38, Value.iface 71 (Value.agg [zI p0, st s0].toArray))] _ ?_)
  refine b7 ?_
  refine a7 (fun _ hK_8' => ?_)
  refine a6 ?_
  refine wv (OV.assertYes (t' := 71) (v := Value.agg [zI p0, st s0].toArray) rfl u7) ?_
  refine wv (OV.extract 1 rfl rfl) ?_
  refine wv (OV.extract 0 rfl rfl) ?_
  refine WL.nil ?_
  refine kg (hK_8' [(0, zP pb), (6, zI 6), (38, Value.iface 71 (Value.agg [zI p0, st s0].toArray)), (40, zB true), (41, Value.agg [zI p0, st s0].toArray)] _ ?_)
  refine f7 rfl ?_
  refine a7 (fun _ hK_9' => ?_)
  refine a6 ?_
  refine WL.make (MV.alloc alc) rfl rfl rfl (fun b => ?_)
  refine WL.storeW (vs := [zI p0, st s0]) 0 rfl rfl rfl rfl rfl akb rfl rfl rfl ?_
  refine WL.nil ?_
  refine kg (hK_9' [(0, zP pb), (9, zP b)] _ ?_)
  refine m0 5 [] f0 (by kernel_rfl) rfl (fun T hT => ?_)
  refine fv (fun _ => OV.move rfl) ?_
  refine fv (fun _ => OV.nilCheck rfl) ?_
  refine fv (fun _ => OV.fieldAddr0 rfl j0) ?_
  refine fv (fun _ => OV.fieldAddr0 rfl agp) ?_
  refine fv (fun _ => OV.load rfl (At.own 0 rfl) rfl c7) ?_
  refine FL.weak (L' := fun γ => [(44, zP pb), (46, st s0)]) (fun γ => ⟨rfl, rfl, trivial⟩) (FL.nil (hT (fun γ => [(44, zP pb), (46, st s0)]) (fun γ => ?_)))
  obtain ⟨o_1', h⟩ := h
  refine WL.pick (H' := [bld 90 5 pb bl, HA.blk b (.cells [zI p0, st s0].toArray 71 (0, 0))]) [1, 0] rfl rfl ?_
  refine WL.call n4 rfl (h8 pb bl s0 o_1') rfl trivial rfl rfl ?_
  refine WL.nil ?_
  exact hE.norm (ad3 [0] rfl rfl (.inl ⟨_, h, rfl⟩) (d7.none rfl))
 ·skip
  refine a7 (fun _ hK_10' => ?_)
  refine a6 ?_
  refine wm ?_
  refine WL.nil ?_
  refine kg (hK_10' [(0, zP pb), (1, Value.iface 71 (Value.agg [zI p0, st s0].toArray)), (2, zI need), (6, zI 6), (18, Value.iface 71 (Value.agg [zI p0, st s0].toArray))] _ ?_)
  refine b7 ?_
  refine a7 (fun _ hK_11' => ?_)
  refine a6 ?_
  refine wv (OV.assertNo (t2 := 71) (v := Value.agg [zI p0, st s0].toArray) rfl x8 ab7 rfl) ?_
  refine wv (OV.extract 1 rfl rfl) ?_
  refine wv (OV.extract 0 rfl rfl) ?_
  refine WL.nil ?_
  refine kg (hK_11' [(0, zP pb), (1, Value.iface 71 (Value.agg [zI p0, st s0].toArray)), (2, zI need), (6, zI 6), (18, Value.iface 71 (Value.agg [zI p0, st s0].toArray)), (20, zB false), (21, Value.agg [zI 0, st [], Value.nilIface, Value.nilIface].toArray)] _ ?_)
  refine d5 rfl ?_
  refine a7 (fun _ hK_12' => ?_)
  refine a6 ?_
  refine wv (OV.assertNo (t2 := 71) (v := Value.agg [zI p0, st s0].toArray) rfl w9 abp rfl) ?_
  refine wv (OV.extract 1 rfl rfl) ?_
  refine wv (OV.extract 0 rfl rfl) ?_
  refine WL.nil ?_
  refine kg (hK_12' [(0, zP pb), (1, Value.iface 71 (Value.agg [zI p0, st s0].toArray)), (2, zI need), (6, zI 6), (26, zB false), (27, Value.agg [zI 0, st [], Value.nilIface].toArray)] _ ?_)
  refine d5 rfl ?_
  refine b6 ?_
  exact kh (hK_4' () h) [0]
def agb (bl : List UInt8) (_ : Int) (s0 : List UInt8) (need : Int) (K : (List UInt8) → Prop) : Prop :=
 ∃ (J0 : Prop),
  (∀ (_ : Unit), J0 →
   ((decide (6 < need)) = false) ∧
   (s0.length ≤ 1048576) ∧
   (bl.length + (adm s0).length ≤ 140737488355328) ∧
   K (bl ++ (adm s0))) ∧
  J0
theorem an9 (pb : Nat) (te : TypeId) (fre : Nat × Nat) (B : List (Nat × Obj)) (bl : List UInt8) (p0 : Int) (s0 : List UInt8) (need : Int) (K : (List UInt8) → Prop) (h : agb bl p0 s0 need K) :
  d9 Tryd.prog 31 [zP pb, Value.iface 73 (Value.agg [zI p0, st s0].toArray), zI need] (B ++ [(0, .cells [st ([124] : List UInt8), st ([38, 45] : List UInt8), st ([62, 62] : List UInt8), st ([126] : List UInt8), st ([46] : List UInt8)].toArray te fre)]) [bld 90 5 pb bl] (fun o => (∃ (d : List UInt8), K d ∧ o = .ret (Value.tuple #[]) [bld 90 5 pb d]) ∨ (False)) := by
 unfold agb at h
 refine v7 (n := 151) (L0 := [(0, zP pb), (1, Value.iface 73 (Value.agg [zI p0, st s0].toArray)), (2, zI need)]) Tryd.func31 rfl rfl rfl rfl (fun w0 M Q hE => ?_)
 refine a7 (fun _ hK => ?_)
 refine a6 ?_
 refine wA ?_
 refine WL.nil ?_
 refine kg (hK [(0, zP pb), (1, Value.iface 73 (Value.agg [zI p0, st s0].toArray)), (2, zI need), (6, zI 6)] _ ?_)
 obtain ⟨J0, hJ, h⟩ := h
 refine m5 (X := Unit) (fun _ => J0) (fun _ => [(0, zP pb), (1, Value.iface 73 (Value.agg [zI p0, st s0].toArray)), (2, zI need), (6, zI 6)]) (fun _ => [bld 90 5 pb bl]) ?_ (fun K0_4' hK_4' => ?_)
 ·rintro _ hj
  replace h := hJ () hj
  show WC _ _ _ _ [(0, zP pb), (1, Value.iface 73 (Value.agg [zI p0, st s0].toArray)), (2, zI need), (6, zI 6)] [bld 90 5 pb bl]
  refine a7 (fun _ hK_5' => ?_)
  refine a7 (fun _ hK_6' => ?_)
  refine a6 ?_
  refine wm ?_
  refine wm ?_
  refine wv (OV.lss rfl rfl) ?_
  refine WL.nil ?_
  refine kg (hK_6' [(0, zP pb), (1, Value.iface 73 (Value.agg [zI p0, st s0].toArray)), (6, zI 6), (30, zB (decide (6 < need)))] _ ?_)
  obtain ⟨o, h⟩ := h
  refine b5 (b := decide (6 < need)) rfl (fun hb => ?_) (fun hb => ?_)
  ·rw [o] at hb; cases hb
  refine b6 ?_
  refine kg (hK_5' [(0, zP pb), (1, Value.iface 73 (Value.agg [zI p0, st s0].toArray)), (6, zI 6)] _ ?_)
  refine a7 (fun _ hK_7' => ?_)
  refine a6 ?_
  refine wm ?_
  refine WL.nil ?_
  refine kg (hK_7' [(0, zP pb), (6, zI 6), (38, Value.iface 73 (Value.agg [zI p0, st s0].toArray))] _ ?_)
  refine b7 ?_
  refine a7 (fun _ hK_8' => ?_)
  refine a6 ?_
  refine wv (OV.assertNo (t2 := 73) (v := Value.agg [zI p0, st s0].toArray) rfl u7 x6 rfl) ?_
  refine wv (OV.extract 1 rfl rfl) ?_
  refine wv (OV.extract 0 rfl rfl) ?_
  refine WL.nil ?_
  refine kg (hK_8' [(0, zP pb), (6, zI 6), (38, Value.iface 73 (Value.agg [zI p0, st s0].toArray)), (40, zB false), (41, Value.agg [zI 0, st []].toArray)] _ ?_)
  refine d5 rfl ?_
  refine a7 (fun _ hK_9' => ?_)
  refine a6 ?_
  refine wv (OV.assertYes (t' := 73) (v := Value.agg [zI p0, st s0].toArray) rfl x9) ?_
  refine wv (OV.extract 1 rfl rfl) ?_
  refine wv (OV.extract 0 rfl rfl) ?_
  refine WL.nil ?_
  refine kg (hK_9' [(0, zP pb), (6, zI 6), (38, Value.iface 73 (Value.agg [zI p0, st s0].toArray)), (49, zB true), (50, Value.agg [zI p0, st s0].toArray)] _ ?_)
  refine f7 rfl ?_
  refine a7 (fun _ hK_10' => ?_)
  refine a6 ?_
  refine WL.make (MV.alloc ald) rfl rfl rfl (fun b => ?_)
  refine WL.storeW (vs := [zI p0, st s0]) 0 rfl rfl rfl rfl rfl akt rfl rfl rfl ?_
  refine WL.nil ?_
  refine kg (hK_10' [(0, zP pb), (10, zP b)] _ ?_)
  refine m0 6 [] f0 (by kernel_rfl) rfl (fun T hT => ?_)
  refine fv (fun _ => OV.move rfl) ?_
  refine fv (fun _ => OV.nilCheck rfl) ?_
  refine fv (fun _ => OV.fieldAddr0 rfl j0) ?_
  refine fv (fun _ => OV.fieldAddr0 rfl agt) ?_
  refine fv (fun _ => OV.load rfl (At.own 0 rfl) rfl c7) ?_
  obtain ⟨o_1', h⟩ := h
  refine FL.call atl (fun _ => rfl) (ap6 s0 o_1') trivial rfl (fun _ => rfl) rfl ?_
  refine FL.weak (L' := fun γ => [(53, zP pb), (56, st (adm s0))]) (fun γ => ⟨rfl, rfl, trivial⟩) (FL.nil (hT (fun γ => [(53, zP pb), (56, st (adm s0))]) (fun γ => ?_)))
  obtain ⟨o_2', h⟩ := h
  refine WL.pick (H' := [bld 90 5 pb bl, HA.blk b (.cells [zI p0, st s0].toArray 73 (0, 0))]) [1, 0] rfl rfl ?_
  refine WL.call n4 rfl (h8 pb bl (adm s0) o_2') rfl trivial rfl rfl ?_
  refine WL.nil ?_
  exact hE.norm (ad3 [0] rfl rfl (.inl ⟨_, h, rfl⟩) (d7.none rfl))
 ·skip
  refine a7 (fun _ hK_11' => ?_)
  refine a6 ?_
  refine wm ?_
  refine WL.nil ?_
  refine kg (hK_11' [(0, zP pb), (1, Value.iface 73 (Value.agg [zI p0, st s0].toArray)), (2, zI need), (6, zI 6), (18, Value.iface 73 (Value.agg [zI p0, st s0].toArray))] _ ?_)
  refine b7 ?_
  refine a7 (fun _ hK_12' => ?_)
  refine a6 ?_
  refine wv (OV.assertNo (t2 := 73) (v := Value.agg [zI p0, st s0].toArray) rfl x8 ab7 rfl) ?_
  refine wv (OV.extract 1 rfl rfl) ?_
  refine wv (OV.extract 0 rfl rfl) ?_
  refine WL.nil ?_
  refine kg (hK_12' [(0, zP pb), (1, Value.iface 73 (Value.agg [zI p0, st s0].toArray)), (2, zI need), (6, zI 6), (18, Value.iface 73 (Value.agg [zI p0, st s0].toArray)), (20, zB false), (21, Value.agg [zI 0, st [], Value.nilIface, Value.nilIface].toArray)] _ ?_)
  refine d5 rfl ?_
  refine a7 (fun _ hK_13' => ?_)
  refine a6 ?_
  refine wv (OV.assertNo (t2 := 73) (v := Value.agg [zI p0, st s0].toArray) rfl w9 abp rfl) ?_
  refine wv (OV.extract 1 rfl rfl) ?_
  refine wv (OV.extract 0 rfl rfl) ?_
  refine WL.nil ?_
  refine kg (hK_13' [(0, zP pb), (1, Value.iface 73 (Value.agg [zI p0, st s0].toArray)), (2, zI need), (6, zI 6), (26, zB false), (27, Value.agg [zI 0, st [], Value.nilIface].toArray)] _ ?_)
  refine d5 rfl ?_
  refine b6 ?_
  exact kh (hK_4' () h) [0]
def afb (bl : List UInt8) (_ : Int) (s0 : List UInt8) (need : Int) (K : (List UInt8) → Prop) : Prop :=
 ∃ (J0 : Prop),
  (∀ (_ : Unit), J0 →
   ((decide (6 < need)) = false) ∧
   (([47] : List UInt8).length + s0.length ≤ 9223372036854775807) ∧
   ((([47] : List UInt8) ++ s0).length + ([47] : List UInt8).length ≤ 9223372036854775807) ∧
   (bl.length + ((([47] : List UInt8) ++ s0) ++ ([47] : List UInt8)).length ≤ 140737488355328) ∧
   K (bl ++ ((([47] : List UInt8) ++ s0) ++ ([47] : List UInt8)))) ∧
  J0
theorem am9 (pb : Nat) (te : TypeId) (fre : Nat × Nat) (B : List (Nat × Obj)) (bl : List UInt8) (p0 : Int) (s0 : List UInt8) (need : Int) (K : (List UInt8) → Prop) (h : afb bl p0 s0 need K) :
  d9 Tryd.prog 31 [zP pb, Value.iface 74 (Value.agg [zI p0, st s0].toArray), zI need] (B ++ [(0, .cells [st ([124] : List UInt8), st ([38, 45] : List UInt8), st ([62, 62] : List UInt8), st ([126] : List UInt8), st ([46] : List UInt8)].toArray te fre)]) [bld 90 5 pb bl] (fun o => (∃ (d : List UInt8), K d ∧ o = .ret (Value.tuple #[]) [bld 90 5 pb d]) ∨ (False)) := by
 unfold afb at h
 refine v7 (n := 151) (L0 := [(0, zP pb), (1, Value.iface 74 (Value.agg [zI p0, st s0].toArray)), (2, zI need)]) Tryd.func31 rfl rfl rfl rfl (fun w0 M Q hE => ?_)
 refine a7 (fun _ hK => ?_)
 refine a6 ?_
 refine wA ?_
 refine WL.nil ?_
 refine kg (hK [(0, zP pb), (1, Value.iface 74 (Value.agg [zI p0, st s0].toArray)), (2, zI need), (6, zI 6)] _ ?_)
 obtain ⟨J0, hJ, h⟩ := h
 refine m5 (X := Unit) (fun _ => J0) (fun _ => [(0, zP pb), (1, Value.iface 74 (Value.agg [zI p0, st s0].toArray)), (2, zI need), (6, zI 6)]) (fun _ => [bld 90 5 pb bl]) ?_ (fun K0_4' hK_4' => ?_)
 ·rintro _ hj
  replace h := hJ () hj
  show WC _ _ _ _ [(0, zP pb), (1, Value.iface 74 (Value.agg [zI p0, st s0].toArray)), (2, zI need), (6, zI 6)] [bld 90 5 pb bl]
  refine a7 (fun _ hK_5' => ?_)
  refine a7 (fun _ hK_6' => ?_)
  refine a6 ?_
  refine wm ?_
  refine wm ?_
  refine wv (OV.lss rfl rfl) ?_
  refine WL.nil ?_
  refine kg (hK_6' [(0, zP pb), (1, Value.iface 74 (Value.agg [zI p0, st s0].toArray)), (6, zI 6), (30, zB (decide (6 < need)))] _ ?_)
  obtain ⟨o, h⟩ := h
  refine b5 (b := decide (6 < need)) rfl (fun hb => ?_) (fun hb => ?_)
  ·rw [o] at hb; cases hb
  refine b6 ?_
  refine kg (hK_5' [(0, zP pb), (1, Value.iface 74 (Value.agg [zI p0, st s0].toArray)), (6, zI 6)] _ ?_)
  refine a7 (fun _ hK_7' => ?_)
  refine a6 ?_
  refine wm ?_
  refine WL.nil ?_
  refine kg (hK_7' [(0, zP pb), (6, zI 6), (38, Value.iface 74 (Value.agg [zI p0, st s0].toArray))] _ ?_)
  refine b7 ?_
  refine a7 (fun _ hK_8' => ?_)
  refine a6 ?_
  refine wv (OV.assertNo (t2 := 74) (v := Value.agg [zI p0, st s0].toArray) rfl u7 x6 rfl) ?_
  refine wv (OV.extract 1 rfl rfl) ?_
  refine wv (OV.extract 0 rfl rfl) ?_
  refine WL.nil ?_
  refine kg (hK_8' [(0, zP pb), (6, zI 6), (38, Value.iface 74 (Value.agg [zI p0, st s0].toArray)), (40, zB false), (41, Value.agg [zI 0, st []].toArray)] _ ?_)
  refine d5 rfl ?_
  refine a7 (fun _ hK_9' => ?_)
  refine a6 ?_
  refine wv (OV.assertNo (t2 := 74) (v := Value.agg [zI p0, st s0].toArray) rfl x9 aau rfl) ?_
  refine wv (OV.extract 1 rfl rfl) ?_
  refine wv (OV.extract 0 rfl rfl) ?_
  refine WL.nil ?_
  refine kg (hK_9' [(0, zP pb), (6, zI 6), (38, Value.iface 74 (Value.agg [zI p0, st s0].toArray)), (49, zB false), (50, Value.agg [zI 0, st []].toArray)] _ ?_)
  refine d5 rfl ?_
  refine a7 (fun _ hK_10' => ?_)
  refine a6 ?_
  refine wv (OV.assertYes (t' := 74) (v := Value.agg [zI p0, st s0].toArray) rfl aas) ?_
  refine wv (OV.extract 1 rfl rfl) ?_
  refine wv (OV.extract 0 rfl rfl) ?_
  refine WL.nil ?_
  refine kg (hK_10' [(0, zP pb), (6, zI 6), (38, Value.iface 74 (Value.agg [zI p0, st s0].toArray)), (59, zB true), (60, Value.agg [zI p0, st s0].toArray)] _ ?_)
  refine f7 rfl ?_
  refine a7 (fun _ hK_11' => ?_)
  refine a6 ?_
  refine WL.make (MV.alloc akq) rfl rfl rfl (fun b => ?_)
  refine WL.storeW (vs := [zI p0, st s0]) 0 rfl rfl rfl rfl rfl akm rfl rfl rfl ?_
  refine WL.nil ?_
  refine kg (hK_11' [(0, zP pb), (11, zP b)] _ ?_)
  refine m0 7 [] f0 (by kernel_rfl) rfl (fun T hT => ?_)
  refine fv (fun _ => OV.move rfl) ?_
  refine fv (fun _ => OV.nilCheck rfl) ?_
  refine fv (fun _ => OV.fieldAddr0 rfl j0) ?_
  refine fv (fun _ => OV.fieldAddr0 rfl agv) ?_
  refine fv (fun _ => OV.load rfl (At.own 0 rfl) rfl c7) ?_
  obtain ⟨o_1', h⟩ := h
  refine fv (fun _ => OV.cat rfl rfl o_1') ?_
  obtain ⟨o_2', h⟩ := h
  refine fv (fun _ => OV.cat rfl rfl o_2') ?_
  refine FL.weak (L' := fun γ => [(63, zP pb), (67, st ((([47] : List UInt8) ++ s0) ++ ([47] : List UInt8)))]) (fun γ => ⟨rfl, rfl, trivial⟩) (FL.nil (hT (fun γ => [(63, zP pb), (67, st ((([47] : List UInt8) ++ s0) ++ ([47] : List UInt8)))]) (fun γ => ?_)))
  obtain ⟨o_3', h⟩ := h
  refine WL.pick (H' := [bld 90 5 pb bl, HA.blk b (.cells [zI p0, st s0].toArray 74 (0, 0))]) [1, 0] rfl rfl ?_
  refine WL.call n4 rfl (h8 pb bl ((([47] : List UInt8) ++ s0) ++ ([47] : List UInt8)) o_3') rfl trivial rfl rfl ?_
  refine WL.nil ?_
  exact hE.norm (ad3 [0] rfl rfl (.inl ⟨_, h, rfl⟩) (d7.none rfl))
 ·skip
  refine a7 (fun _ hK_12' => ?_)
  refine a6 ?_
  refine wm ?_
  refine WL.nil ?_
  refine kg (hK_12' [(0, zP pb), (1, Value.iface 74 (Value.agg [zI p0, st s0].toArray)), (2, zI need), (6, zI 6), (18, Value.iface 74 (Value.agg [zI p0, st s0].toArray))] _ ?_)
  refine b7 ?_
  refine a7 (fun _ hK_13' => ?_)
  refine a6 ?_
  refine wv (OV.assertNo (t2 := 74) (v := Value.agg [zI p0, st s0].toArray) rfl x8 ab7 rfl) ?_
  refine wv (OV.extract 1 rfl rfl) ?_
  refine wv (OV.extract 0 rfl rfl) ?_
  refine WL.nil ?_
  refine kg (hK_13' [(0, zP pb), (1, Value.iface 74 (Value.agg [zI p0, st s0].toArray)), (2, zI need), (6, zI 6), (18, Value.iface 74 (Value.agg [zI p0, st s0].toArray)), (20, zB false), (21, Value.agg [zI 0, st [], Value.nilIface, Value.nilIface].toArray)] _ ?_)
  refine d5 rfl ?_
  refine a7 (fun _ hK_14' => ?_)
  refine a6 ?_
  refine wv (OV.assertNo (t2 := 74) (v := Value.agg [zI p0, st s0].toArray) rfl w9 abp rfl) ?_
  refine wv (OV.extract 1 rfl rfl) ?_
  refine wv (OV.extract 0 rfl rfl) ?_
  refine WL.nil ?_
  refine kg (hK_14' [(0, zP pb), (1, Value.iface 74 (Value.agg [zI p0, st s0].toArray)), (2, zI need), (6, zI 6), (26, zB false), (27, Value.agg [zI 0, st [], Value.nilIface].toArray)] _ ?_)
  refine d5 rfl ?_
  refine b6 ?_
  exact kh (hK_4' () h) [0]
def ae2 (te : TypeId) (fre : Nat × Nat) (B : List (Nat × Obj)) (bl : List UInt8) (_ : Int) (u1 : Value) (need : Int) (x1 : Ex) (K : (List UInt8) → Prop) : Prop :=
 ∃ (J0 : Prop),
  (∀ (_ : Unit), J0 →
   ((decide (6 < need)) = false) ∧
   (u1.oneCell' = true) ∧
   (bl.length + ([123] : List UInt8).length ≤ 140737488355328) ∧
   (aa2 B te fre u1 x1) ∧
   (abj (bl ++ ([123] : List UInt8)) (0 : Int) x1) ∧
   (((bl ++ ([123] : List UInt8)) ++ j8 x1 (0 : Int)).length + ([125] : List UInt8).length ≤ 140737488355328) ∧
   K (((bl ++ ([123] : List UInt8)) ++ j8 x1 (0 : Int)) ++ ([125] : List UInt8))) ∧
  J0
theorem an5 (pb : Nat) (te : TypeId) (fre : Nat × Nat) (B : List (Nat × Obj)) (bl : List UInt8) (p0 : Int) (u1 : Value) (need : Int) (x1 : Ex) (K : (List UInt8) → Prop) (h : ae2 te fre B bl p0 u1 need x1 K) :
  d9 Tryd.prog 31 [zP pb, Value.iface 76 (Value.agg [zI p0, u1].toArray), zI need] (B ++ [(0, .cells [st ([124] : List UInt8), st ([38, 45] : List UInt8), st ([62, 62] : List UInt8), st ([126] : List UInt8), st ([46] : List UInt8)].toArray te fre)]) [bld 90 5 pb bl] (fun o => (∃ (d : List UInt8), K d ∧ o = .ret (Value.tuple #[]) [bld 90 5 pb d]) ∨ (False)) := by
 unfold ae2 at h
 refine v7 (n := 151) (L0 := [(0, zP pb), (1, Value.iface 76 (Value.agg [zI p0, u1].toArray)), (2, zI need)]) Tryd.func31 rfl rfl rfl rfl (fun w0 M Q hE => ?_)
 refine a7 (fun _ hK => ?_)
 refine a6 ?_
 refine wA ?_
 refine WL.nil ?_
 refine kg (hK [(0, zP pb), (1, Value.iface 76 (Value.agg [zI p0, u1].toArray)), (2, zI need), (6, zI 6)] _ ?_)
 obtain ⟨J0, hJ, h⟩ := h
 refine m5 (X := Unit) (fun _ => J0) (fun _ => [(0, zP pb), (1, Value.iface 76 (Value.agg [zI p0, u1].toArray)), (2, zI need), (6, zI 6)]) (fun _ => [bld 90 5 pb bl]) ?_ (fun K0_4' hK_4' => ?_)
 ·rintro _ hj
  replace h := hJ () hj
  show WC _ _ _ _ [(0, zP pb), (1, Value.iface 76 (Value.agg [zI p0, u1].toArray)), (2, zI need), (6, zI 6)] [bld 90 5 pb bl]
  refine a7 (fun _ hK_5' => ?_)
  refine a7 (fun _ hK_6' => ?_)
  refine a6 ?_
  refine wm ?_
  refine wm ?_
  refine wv (OV.lss rfl rfl) ?_
  refine WL.nil ?_
  refine kg (hK_6' [(0, zP pb), (1, Value.iface 76 (Value.agg [zI p0, u1].toArray)), (6, zI 6), (30, zB (decide (6 < need)))] _ ?_)
  obtain ⟨o, h⟩ := h
  refine b5 (b := decide (6 < need)) rfl (fun hb => ?_) (fun hb => ?_)
  ·rw [o] at hb; cases hb
  refine b6 ?_
  refine kg (hK_5' [(0, zP pb), (1, Value.iface 76 (Value.agg [zI p0, u1].toArray)), (6, zI 6)] _ ?_)
  refine a7 (fun _ hK_7' => ?_)
  refine a6 ?_
  refine wm ?_
  refine WL.nil ?_
  refine kg (hK_7' [(0, zP pb), (6, zI 6), (38, Value.iface 76 (Value.agg [zI p0, u1].toArray))] _ ?_)
  refine b7 ?_
  refine a7 (fun _ hK_8' => ?_)
  refine a6 ?_
  refine wv (OV.assertNo (t2 := 76) (v := Value.agg [zI p0, u1].toArray) rfl u7 x6 rfl) ?_
  refine wv (OV.extract 1 rfl rfl) ?_
  refine wv (OV.extract 0 rfl rfl) ?_
  refine WL.nil ?_
  refine kg (hK_8' [(0, zP pb), (6, zI 6), (38, Value.iface 76 (Value.agg [zI p0, u1].toArray)), (40, zB false), (41, Value.agg [zI 0, st []].toArray)] _ ?_)
  refine d5 rfl ?_
  refine a7 (fun _ hK_9' => ?_)
  refine a6 ?_
  refine wv (OV.assertNo (t2 := 76) (v := Value.agg [zI p0, u1].toArray) rfl x9 aau rfl) ?_
  refine wv (OV.extract 1 rfl rfl) ?_
  refine wv (OV.extract 0 rfl rfl) ?_
  refine WL.nil ?_
  refine kg (hK_9' [(0, zP pb), (6, zI 6), (38, Value.iface 76 (Value.agg [zI p0, u1].toArray)), (49, zB false), (50, Value.agg [zI 0, st []].toArray)] _ ?_)
  refine d5 rfl ?_
  refine a7 (fun _ hK_10' => ?_)
  refine a6 ?_
  refine wv (OV.assertNo (t2 := 76) (v := Value.agg [zI p0, u1].toArray) rfl aas abk rfl) ?_
  refine wv (OV.extract 1 rfl rfl) ?_
  refine wv (OV.extract 0 rfl rfl) ?_
  refine WL.nil ?_
  refine kg (hK_10' [(0, zP pb), (6, zI 6), (38, Value.iface 76 (Value.agg [zI p0, u1].toArray)), (59, zB false), (60, Value.agg [zI 0, st []].toArray)] _ ?_)
  refine d5 rfl ?_
  refine a7 (fun _ hK_11' => ?_)
  refine a6 ?_
  refine wv (OV.assertYes (t' := 76) (v := Value.agg [zI p0, u1].toArray) rfl abl) ?_
  refine wv (OV.extract 1 rfl rfl) ?_
  refine wv (OV.extract 0 rfl rfl) ?_
  refine WL.nil ?_
  refine kg (hK_11' [(0, zP pb), (6, zI 6), (38, Value.iface 76 (Value.agg [zI p0, u1].toArray)), (70, zB true), (71, Value.agg [zI p0, u1].toArray)] _ ?_)
  refine f7 rfl ?_
  refine a7 (fun _ hK_12' => ?_)
  refine a6 ?_
  refine WL.make (MV.alloc alb) rfl rfl rfl (fun b => ?_)
  obtain ⟨o_1', h⟩ := h
  refine WL.storeW (vs := [zI p0, u1]) 0 rfl rfl rfl rfl rfl akr rfl (d4 rfl (d4 o_1' o6)) rfl ?_
  refine WL.nil ?_
  refine kg (hK_12' [(0, zP pb), (12, zP b)] _ ?_)
  refine a7 (fun _ hK_13' => ?_)
  refine a6 ?_
  refine wm ?_
  refine wv (OV.nilCheck rfl) ?_
  refine wv (OV.fieldAddr0 rfl j0) ?_
  obtain ⟨o_2', h⟩ := h
  refine WL.pick (H' := [bld 90 5 pb bl, HA.blk b (.cells [zI p0, u1].toArray 76 (0, 0))]) [1, 0] rfl rfl ?_
  refine WL.call n4 rfl (h8 pb bl ([123] : List UInt8) o_2') rfl trivial rfl rfl ?_
  refine WL.nil ?_
  refine kg (hK_13' [(0, zP pb), (12, zP b)] _ ?_)
  refine a7 (fun _ hK_14' => ?_)
  refine a6 ?_
  refine wm ?_
  refine wv (OV.fieldAddr0 rfl agn) ?_
  refine wv (OV.load rfl (At.own 1 rfl) rfl m4) ?_
  obtain ⟨o_3', h⟩ := h
  obtain ⟨o_4', h⟩ := h
  refine WL.call aa0 rfl (o_3' pb (bl ++ ([123] : List UInt8)) (0 : Int) o_4') rfl (ROk.of (fun _ h => h)) rfl rfl ?_
  refine WL.nil ?_
  refine kg (hK_14' [(0, zP pb)] _ ?_)
  refine a6 ?_
  refine wm ?_
  refine wv (OV.nilCheck rfl) ?_
  refine wv (OV.fieldAddr0 rfl j0) ?_
  obtain ⟨o_5', h⟩ := h
  refine WL.call n4 rfl (h8 pb ((bl ++ ([123] : List UInt8)) ++ j8 x1 (0 : Int)) ([125] : List UInt8) o_5') rfl trivial rfl rfl ?_
  refine WL.nil ?_
  exact hE.norm (ad3 [0] rfl rfl (.inl ⟨_, h, rfl⟩) (d7.none rfl))
 ·skip
  refine a7 (fun _ hK_15' => ?_)
  refine a6 ?_
  refine wm ?_
  refine WL.nil ?_
  refine kg (hK_15' [(0, zP pb), (1, Value.iface 76 (Value.agg [zI p0, u1].toArray)), (2, zI need), (6, zI 6), (18, Value.iface 76 (Value.agg [zI p0, u1].toArray))] _ ?_)
  refine b7 ?_
  refine a7 (fun _ hK_16' => ?_)
  refine a6 ?_
  refine wv (OV.assertNo (t2 := 76) (v := Value.agg [zI p0, u1].toArray) rfl x8 ab7 rfl) ?_
  refine wv (OV.extract 1 rfl rfl) ?_
  refine wv (OV.extract 0 rfl rfl) ?_
  refine WL.nil ?_
  refine kg (hK_16' [(0, zP pb), (1, Value.iface 76 (Value.agg [zI p0, u1].toArray)), (2, zI need), (6, zI 6), (18, Value.iface 76 (Value.agg [zI p0, u1].toArray)), (20, zB false), (21, Value.agg [zI 0, st [], Value.nilIface, Value.nilIface].toArray)] _ ?_)
  refine d5 rfl ?_
  refine a7 (fun _ hK_17' => ?_)
  refine a6 ?_
  refine wv (OV.assertNo (t2 := 76) (v := Value.agg [zI p0, u1].toArray) rfl w9 abp rfl) ?_
  refine wv (OV.extract 1 rfl rfl) ?_
  refine wv (OV.extract 0 rfl rfl) ?_
  refine WL.nil ?_
  refine kg (hK_17' [(0, zP pb), (1, Value.iface 76 (Value.agg [zI p0, u1].toArray)), (2, zI need), (6, zI 6), (26, zB false), (27, Value.agg [zI 0, st [], Value.nilIface].toArray)] _ ?_)
  refine d5 rfl ?_
  refine b6 ?_
  exact kh (hK_4' () h) [0]
def ae9 (te : TypeId) (fre : Nat × Nat) (B : List (Nat × Obj)) (bl : List UInt8) (_ : Int) (s0 : List UInt8) (u1 : Value) (need : Int) (x1 : Ex) (K : (List UInt8) → Prop) : Prop :=
 ∃ (J0 : Prop),
  (∀ (_ : Unit), J0 →
   ((decide (5 < need)) = false) ∧
   (u1.oneCell' = true) ∧
   (aa2 B te fre u1 x1) ∧
   (abj bl (5 : Int) x1) ∧
   ((bl ++ j8 x1 (5 : Int)).length + s0.length ≤ 140737488355328) ∧
   K ((bl ++ j8 x1 (5 : Int)) ++ s0)) ∧
  (u1.oneCell' = true) ∧
  J0
theorem ana (pb : Nat) (te : TypeId) (fre : Nat × Nat) (B : List (Nat × Obj)) (bl : List UInt8) (p0 : Int) (s0 : List UInt8) (u1 : Value) (need : Int) (x1 : Ex) (K : (List UInt8) → Prop) (h : ae9 te fre B bl p0 s0 u1 need x1 K) :
  d9 Tryd.prog 31 [zP pb, Value.iface 78 (Value.agg [zI p0, st s0, u1].toArray), zI need] (B ++ [(0, .cells [st ([124] : List UInt8), st ([38, 45] : List UInt8), st ([62, 62] : List UInt8), st ([126] : List UInt8), st ([46] : List UInt8)].toArray te fre)]) [bld 90 5 pb bl] (fun o => (∃ (d : List UInt8), K d ∧ o = .ret (Value.tuple #[]) [bld 90 5 pb d]) ∨ (False)) := by
 unfold ae9 at h
 refine v7 (n := 151) (L0 := [(0, zP pb), (1, Value.iface 78 (Value.agg [zI p0, st s0, u1].toArray)), (2, zI need)]) Tryd.func31 rfl rfl rfl rfl (fun w0 M Q hE => ?_)
 refine a7 (fun _ hK => ?_)
 refine a6 ?_
 refine wA ?_
 refine WL.nil ?_
 refine kg (hK [(0, zP pb), (1, Value.iface 78 (Value.agg [zI p0, st s0, u1].toArray)), (2, zI need), (6, zI 6)] _ ?_)
 obtain ⟨J0, hJ, h⟩ := h
 refine m5 (X := Unit) (fun _ => J0) (fun _ => [(0, zP pb), (1, Value.iface 78 (Value.agg [zI p0, st s0, u1].toArray)), (2, zI need), (6, zI 5)]) (fun _ => [bld 90 5 pb bl]) ?_ (fun K0_5' hK_5' => ?_)
 ·rintro _ hj
  replace h := hJ () hj
  show WC _ _ _ _ [(0, zP pb), (1, Value.iface 78 (Value.agg [zI p0, st s0, u1].toArray)), (2, zI need), (6, zI 5)] [bld 90 5 pb bl]
  refine a7 (fun _ hK_6' => ?_)
  refine a7 (fun _ hK_7' => ?_)
  refine a6 ?_
  refine wm ?_
  refine wm ?_
  refine wv (OV.lss rfl rfl) ?_
  refine WL.nil ?_
  refine kg (hK_7' [(0, zP pb), (1, Value.iface 78 (Value.agg [zI p0, st s0, u1].toArray)), (6, zI 5), (30, zB (decide (5 < need)))] _ ?_)
  obtain ⟨o_1', h⟩ := h
  refine b5 (b := decide (5 < need)) rfl (fun hb => ?_) (fun hb => ?_)
  ·rw [o_1'] at hb; cases hb
  refine b6 ?_
  refine kg (hK_6' [(0, zP pb), (1, Value.iface 78 (Value.agg [zI p0, st s0, u1].toArray)), (6, zI 5)] _ ?_)
  refine a7 (fun _ hK_8' => ?_)
  refine a6 ?_
  refine wm ?_
  refine WL.nil ?_
  refine kg (hK_8' [(0, zP pb), (6, zI 5), (38, Value.iface 78 (Value.agg [zI p0, st s0, u1].toArray))] _ ?_)
  refine b7 ?_
  refine a7 (fun _ hK_9' => ?_)
  refine a6 ?_
  refine wv (OV.assertNo (t2 := 78) (v := Value.agg [zI p0, st s0, u1].toArray) rfl u7 x6 rfl) ?_
  refine wv (OV.extract 1 rfl rfl) ?_
  refine wv (OV.extract 0 rfl rfl) ?_
  refine WL.nil ?_
  refine kg (hK_9' [(0, zP pb), (6, zI 5), (38, Value.iface 78 (Value.agg [zI p0, st s0, u1].toArray)), (40, zB false), (41, Value.agg [zI 0, st []].toArray)] _ ?_)
  refine d5 rfl ?_
  refine a7 (fun _ hK_10' => ?_)
  refine a6 ?_
  refine wv (OV.assertNo (t2 := 78) (v := Value.agg [zI p0, st s0, u1].toArray) rfl x9 aau rfl) ?_
  refine wv (OV.extract 1 rfl rfl) ?_
  refine wv (OV.extract 0 rfl rfl) ?_
  refine WL.nil ?_
  refine kg (hK_10' [(0, zP pb), (6, zI 5), (38, Value.iface 78 (Value.agg [zI p0, st s0, u1].toArray)), (49, zB false), (50, Value.agg [zI 0, st []].toArray)] _ ?_)
  refine d5 rfl ?_
  refine a7 (fun _ hK_11' => ?_)
  refine a6 ?_
  refine wv (OV.assertNo (t2 := 78) (v := Value.agg [zI p0, st s0, u1].toArray) rfl aas abk rfl) ?_
  refine wv (OV.extract 1 rfl rfl) ?_
  refine wv (OV.extract 0 rfl rfl) ?_
  refine WL.nil ?_
  refine kg (hK_11' [(0, zP pb), (6, zI 5), (38, Value.iface 78 (Value.agg [zI p0, st s0, u1].toArray)), (59, zB false), (60, Value.agg [zI 0, st []].toArray)] _ ?_)
  refine d5 rfl ?_
  refine a7 (fun _ hK_12' => ?_)
  refine a6 ?_
  refine wv (OV.assertNo (t2 := 78) (v := Value.agg [zI p0, st s0, u1].toArray) rfl abl ac0 rfl) ?_
  refine wv (OV.extract 1 rfl rfl) ?_
  refine wv (OV.extract 0 rfl rfl) ?_
  refine WL.nil ?_
  refine kg (hK_12' [(0, zP pb), (6, zI 5), (38, Value.iface 78 (Value.agg [zI p0, st s0, u1].toArray)), (70, zB false), (71, Value.agg [zI 0, Value.nilIface].toArray)] _ ?_)
  refine d5 rfl ?_
  refine a7 (fun _ hK_13' => ?_)
  refine a6 ?_
  refine wv (OV.assertYes (t' := 78) (v := Value.agg [zI p0, st s0, u1].toArray) rfl w9) ?_
  refine wv (OV.extract 1 rfl rfl) ?_
  refine wv (OV.extract 0 rfl rfl) ?_
  refine WL.nil ?_
  refine kg (hK_13' [(0, zP pb), (6, zI 5), (38, Value.iface 78 (Value.agg [zI p0, st s0, u1].toArray)), (85, zB true), (86, Value.agg [zI p0, st s0, u1].toArray)] _ ?_)
  refine f7 rfl ?_
  refine a7 (fun _ hK_14' => ?_)
  refine a6 ?_
  refine WL.make (MV.alloc adq) rfl rfl rfl (fun b_1' => ?_)
  obtain ⟨o_2', h⟩ := h
  refine WL.storeW (vs := [zI p0, st s0, u1]) 0 rfl rfl rfl rfl rfl adn rfl (d4 rfl (d4 rfl (d4 o_2' o6))) rfl ?_
  refine WL.nil ?_
  refine kg (hK_14' [(0, zP pb), (13, zP b_1')] _ ?_)
  refine a7 (fun _ hK_15' => ?_)
  refine a6 ?_
  refine wm ?_
  refine wv (OV.fieldAddr0 rfl aei) ?_
  refine wv (OV.load rfl (At.own 0 rfl) rfl m4) ?_
  obtain ⟨o_3', h⟩ := h
  obtain ⟨o_4', h⟩ := h
  refine WL.pick (H' := [bld 90 5 pb bl, HA.blk b_1' (.cells [zI p0, st s0, u1].toArray 78 (0, 0))]) [1, 0] rfl rfl ?_
  refine WL.call aa0 rfl (o_3' pb bl (5 : Int) o_4') rfl (ROk.of (fun _ h => h)) rfl rfl ?_
  refine WL.nil ?_
  refine kg (hK_15' [(0, zP pb), (13, zP b_1')] _ ?_)
  refine m0 5 [] f0 (by kernel_rfl) rfl (fun T hT => ?_)
  refine fv (fun _ => OV.move rfl) ?_
  refine fv (fun _ => OV.nilCheck rfl) ?_
  refine fv (fun _ => OV.fieldAddr0 rfl j0) ?_
  refine fv (fun _ => OV.fieldAddr0 rfl aek) ?_
  refine fv (fun _ => OV.load rfl (At.own 1 rfl) rfl c7) ?_
  refine FL.weak (L' := fun γ => [(93, zP pb), (95, st s0)]) (fun γ => ⟨rfl, rfl, trivial⟩) (FL.nil (hT (fun γ => [(93, zP pb), (95, st s0)]) (fun γ => ?_)))
  obtain ⟨o_5', h⟩ := h
  refine WL.call n4 rfl (h8 pb (bl ++ j8 x1 (5 : Int)) s0 o_5') rfl trivial rfl rfl ?_
  refine WL.nil ?_
  exact hE.norm (ad3 [0] rfl rfl (.inl ⟨_, h, rfl⟩) (d7.none rfl))
 ·skip
  refine a7 (fun _ hK_16' => ?_)
  refine a6 ?_
  refine wm ?_
  refine WL.nil ?_
  refine kg (hK_16' [(0, zP pb), (1, Value.iface 78 (Value.agg [zI p0, st s0, u1].toArray)), (2, zI need), (6, zI 6), (18, Value.iface 78 (Value.agg [zI p0, st s0, u1].toArray))] _ ?_)
  refine b7 ?_
  refine a7 (fun _ hK_17' => ?_)
  refine a6 ?_
  refine wv (OV.assertNo (t2 := 78) (v := Value.agg [zI p0, st s0, u1].toArray) rfl x8 ab7 rfl) ?_
  refine wv (OV.extract 1 rfl rfl) ?_
  refine wv (OV.extract 0 rfl rfl) ?_
  refine WL.nil ?_
  refine kg (hK_17' [(0, zP pb), (1, Value.iface 78 (Value.agg [zI p0, st s0, u1].toArray)), (2, zI need), (6, zI 6), (18, Value.iface 78 (Value.agg [zI p0, st s0, u1].toArray)), (20, zB false), (21, Value.agg [zI 0, st [], Value.nilIface, Value.nilIface].toArray)] _ ?_)
  refine d5 rfl ?_
  refine a7 (fun _ hK_18' => ?_)
  refine a6 ?_
  refine wv (OV.assertYes (t' := 78) (v := Value.agg [zI p0, st s0, u1].toArray) rfl w9) ?_
  refine wv (OV.extract 1 rfl rfl) ?_
  refine wv (OV.extract 0 rfl rfl) ?_
  refine WL.nil ?_
  refine kg (hK_18' [(0, zP pb), (1, Value.iface 78 (Value.agg [zI p0, st s0, u1].toArray)), (2, zI need), (6, zI 6), (26, zB true), (27, Value.agg [zI p0, st s0, u1].toArray)] _ ?_)
  refine f7 rfl ?_
  refine a7 (fun _ hK_19' => ?_)
  refine a6 ?_
  refine WL.make (MV.alloc adq) rfl rfl rfl (fun b_2' => ?_)
  obtain ⟨o_6', h⟩ := h
  refine WL.storeW (vs := [zI p0, st s0, u1]) 0 rfl rfl rfl rfl rfl adn rfl (d4 rfl (d4 rfl (d4 o_6' o6))) rfl ?_
  refine WL.nil ?_
  refine kg (hK_19' [(0, zP pb), (1, Value.iface 78 (Value.agg [zI p0, st s0, u1].toArray)), (2, zI need)] _ ?_)
  refine a6 ?_
  refine wA ?_
  refine WL.nil ?_
  exact kh (hK_5' () h) [1]
def aeb (te : TypeId) (fre : Nat × Nat) (B : List (Nat × Obj)) (bl : List UInt8) (_ : Int) (s0 : List UInt8) (u1 : Value) (u2 : Value) (need : Int) (x1 : Ex) (x2 : Ex) (K : (List UInt8) → Prop) : Prop :=
 ∃ (J0 : Prop),
  (∀ (_ : Unit), J0 →
   ((decide (d8 s0 < need)) = false) ∧
   (u1.oneCell' = true) ∧
   (u2.oneCell' = true) ∧
   (aa2 B te fre u1 x1) ∧
   (abj bl (d8 s0) x1) ∧
   (([32] : List UInt8).length + s0.length ≤ 9223372036854775807) ∧
   ((([32] : List UInt8) ++ s0).length + ([32] : List UInt8).length ≤ 9223372036854775807) ∧
   ((bl ++ j8 x1 (d8 s0)).length + ((([32] : List UInt8) ++ s0) ++ ([32] : List UInt8)).length ≤ 140737488355328) ∧
   (I64 ((d8 s0) + 1)) ∧
   (aa2 B te fre u2 x2) ∧
   (abj ((bl ++ j8 x1 (d8 s0)) ++ ((([32] : List UInt8) ++ s0) ++ ([32] : List UInt8))) ((d8 s0) + 1) x2) ∧
   K (((bl ++ j8 x1 (d8 s0)) ++ ((([32] : List UInt8) ++ s0) ++ ([32] : List UInt8))) ++ j8 x2 ((d8 s0) + 1))) ∧
  (u1.oneCell' = true) ∧
  (u2.oneCell' = true) ∧
  (aeq s0) ∧
  J0
theorem alt (pb : Nat) (te : TypeId) (fre : Nat × Nat) (B : List (Nat × Obj)) (bl : List UInt8) (p0 : Int) (s0 : List UInt8) (u1 : Value) (u2 : Value) (need : Int) (x1 : Ex) (x2 : Ex) (K : (List UInt8) → Prop) (h : aeb te fre B bl p0 s0 u1 u2 need x1 x2 K) :
  d9 Tryd.prog 31 [zP pb, Value.iface 80 (Value.agg [zI p0, st s0, u1, u2].toArray), zI need] (B ++ [(0, .cells [st ([124] : List UInt8), st ([38, 45] : List UInt8), st ([62, 62] : List UInt8), st ([126] : List UInt8), st ([46] : List UInt8)].toArray te fre)]) [bld 90 5 pb bl] (fun o => (∃ (d : List UInt8), K d ∧ o = .ret (Value.tuple #[]) [bld 90 5 pb d]) ∨ (False)) := by
 unfold aeb at h
 refine v7 (n := 151) (L0 := [(0, zP pb), (1, Value.iface 80 (Value.agg [zI p0, st s0, u1, u2].toArray)), (2, zI need)]) Tryd.func31 rfl rfl rfl rfl (fun w0 M Q hE => ?_)
 refine a7 (fun _ hK => ?_)
 refine a6 ?_
 refine wA ?_
 refine WL.nil ?_
 refine kg (hK [(0, zP pb), (1, Value.iface 80 (Value.agg [zI p0, st s0, u1, u2].toArray)), (2, zI need), (6, zI 6)] _ ?_)
 obtain ⟨J0, hJ, h⟩ := h
 refine m5 (X := Unit) (fun _ => J0) (fun _ => [(0, zP pb), (1, Value.iface 80 (Value.agg [zI p0, st s0, u1, u2].toArray)), (2, zI need), (6, zI (d8 s0))]) (fun _ => [bld 90 5 pb bl]) ?_ (fun K0_4' hK_4' => ?_)
 ·rintro _ hj
  replace h := hJ () hj
  show WC _ _ _ _ [(0, zP pb), (1, Value.iface 80 (Value.agg [zI p0, st s0, u1, u2].toArray)), (2, zI need), (6, zI (d8 s0))] [bld 90 5 pb bl]
  refine a7 (fun _ hK_5' => ?_)
  refine a7 (fun _ hK_6' => ?_)
  refine a6 ?_
  refine wm ?_
  refine wm ?_
  refine wv (OV.lss rfl rfl) ?_
  refine WL.nil ?_
  refine kg (hK_6' [(0, zP pb), (1, Value.iface 80 (Value.agg [zI p0, st s0, u1, u2].toArray)), (6, zI (d8 s0)), (30, zB (decide (d8 s0 < need)))] _ ?_)
  obtain ⟨o_3', h⟩ := h
  refine b5 (b := decide (d8 s0 < need)) rfl (fun hb => ?_) (fun hb => ?_)
  ·rw [o_3'] at hb; cases hb
  refine b6 ?_
  refine kg (hK_5' [(0, zP pb), (1, Value.iface 80 (Value.agg [zI p0, st s0, u1, u2].toArray)), (6, zI (d8 s0))] _ ?_)
  refine a7 (fun _ hK_7' => ?_)
  refine a6 ?_
  refine wm ?_
  refine WL.nil ?_
  refine kg (hK_7' [(0, zP pb), (6, zI (d8 s0)), (38, Value.iface 80 (Value.agg [zI p0, st s0, u1, u2].toArray))] _ ?_)
  refine b7 ?_
  refine a7 (fun _ hK_8' => ?_)
  refine a6 ?_
  refine wv (OV.assertNo (t2 := 80) (v := Value.agg [zI p0, st s0, u1, u2].toArray) rfl u7 x6 rfl) ?_
  refine wv (OV.extract 1 rfl rfl) ?_
  refine wv (OV.extract 0 rfl rfl) ?_
  refine WL.nil ?_
  refine kg (hK_8' [(0, zP pb), (6, zI (d8 s0)), (38, Value.iface 80 (Value.agg [zI p0, st s0, u1, u2].toArray)), (40, zB false), (41, Value.agg [zI 0, st []].toArray)] _ ?_)
  refine d5 rfl ?_
  refine a7 (fun _ hK_9' => ?_)
  refine a6 ?_
  refine wv (OV.assertNo (t2 := 80) (v := Value.agg [zI p0, st s0, u1, u2].toArray) rfl x9 aau rfl) ?_
  refine wv (OV.extract 1 rfl rfl) ?_
  refine wv (OV.extract 0 rfl rfl) ?_
  refine WL.nil ?_
  refine kg (hK_9' [(0, zP pb), (6, zI (d8 s0)), (38, Value.iface 80 (Value.agg [zI p0, st s0, u1, u2].toArray)), (49, zB false), (50, Value.agg [zI 0, st []].toArray)] _ ?_)
  refine d5 rfl ?_
  refine a7 (fun _ hK_10' => ?_)
  refine a6 ?_
  refine wv (OV.assertNo (t2 := 80) (v := Value.agg [zI p0, st s0, u1, u2].toArray) rfl aas abk rfl) ?_
  refine wv (OV.extract 1 rfl rfl) ?_
  refine wv (OV.extract 0 rfl rfl) ?_
  refine WL.nil ?_
  refine kg (hK_10' [(0, zP pb), (6, zI (d8 s0)), (38, Value.iface 80 (Value.agg [zI p0, st s0, u1, u2].toArray)), (59, zB false), (60, Value.agg [zI 0, st []].toArray)] _ ?_)
  refine d5 rfl ?_
  refine a7 (fun _ hK_11' => ?_)
  refine a6 ?_
  refine wv (OV.assertNo (t2 := 80) (v := Value.agg [zI p0, st s0, u1, u2].toArray) rfl abl ac0 rfl) ?_
  refine wv (OV.extract 1 rfl rfl) ?_
  refine wv (OV.extract 0 rfl rfl) ?_
  refine WL.nil ?_
  refine kg (hK_11' [(0, zP pb), (6, zI (d8 s0)), (38, Value.iface 80 (Value.agg [zI p0, st s0, u1, u2].toArray)), (70, zB false), (71, Value.agg [zI 0, Value.nilIface].toArray)] _ ?_)
  refine d5 rfl ?_
  refine a7 (fun _ hK_12' => ?_)
  refine a6 ?_
  refine wv (OV.assertNo (t2 := 80) (v := Value.agg [zI p0, st s0, u1, u2].toArray) rfl w9 abp rfl) ?_
  refine wv (OV.extract 1 rfl rfl) ?_
  refine wv (OV.extract 0 rfl rfl) ?_
  refine WL.nil ?_
  refine kg (hK_12' [(0, zP pb), (6, zI (d8 s0)), (38, Value.iface 80 (Value.agg [zI p0, st s0, u1, u2].toArray)), (85, zB false), (86, Value.agg [zI 0, st [], Value.nilIface].toArray)] _ ?_)
  refine d5 rfl ?_
  refine a7 (fun _ hK_13' => ?_)
  refine a6 ?_
  refine wv (OV.assertYes (t' := 80) (v := Value.agg [zI p0, st s0, u1, u2].toArray) rfl x8) ?_
  refine wv (OV.extract 1 rfl rfl) ?_
  refine wv (OV.extract 0 rfl rfl) ?_
  refine WL.nil ?_
  refine kg (hK_13' [(0, zP pb), (6, zI (d8 s0)), (38, Value.iface 80 (Value.agg [zI p0, st s0, u1, u2].toArray)), (98, zB true), (99, Value.agg [zI p0, st s0, u1, u2].toArray)] _ ?_)
  refine f7 rfl ?_
  refine a7 (fun _ hK_14' => ?_)
  refine a6 ?_
  refine WL.make (MV.alloc adj) rfl rfl rfl (fun b_1' => ?_)
  obtain ⟨o_4', h⟩ := h
  obtain ⟨o_5', h⟩ := h
  refine WL.storeW (vs := [zI p0, st s0, u1, u2]) 0 rfl rfl rfl rfl rfl adr rfl (d4 rfl (d4 rfl (d4 o_4' (d4 o_5' o6)))) rfl ?_
  refine WL.nil ?_
  refine kg (hK_14' [(0, zP pb), (6, zI (d8 s0)), (14, zP b_1')] _ ?_)
  refine a7 (fun _ hK_15' => ?_)
  refine a6 ?_
  refine wm ?_
  refine wv (OV.fieldAddr0 rfl ael) ?_
  refine wv (OV.load rfl (At.own 0 rfl) rfl m4) ?_
  refine wm ?_
  obtain ⟨o_6', h⟩ := h
  obtain ⟨o_7', h⟩ := h
  refine WL.pick (H' := [bld 90 5 pb bl, HA.blk b_1' (.cells [zI p0, st s0, u1, u2].toArray 80 (0, 0))]) [1, 0] rfl rfl ?_
  refine WL.call aa0 rfl (o_6' pb bl (d8 s0) o_7') rfl (ROk.of (fun _ h => h)) rfl rfl ?_
  refine WL.nil ?_
  refine kg (hK_15' [(0, zP pb), (6, zI (d8 s0)), (14, zP b_1')] _ ?_)
  refine a7 (fun _ hK_16' => ?_)
  refine m0 7 [] f0 (by kernel_rfl) rfl (fun T hT => ?_)
  refine fv (fun _ => OV.move rfl) ?_
  refine fv (fun _ => OV.nilCheck rfl) ?_
  refine fv (fun _ => OV.fieldAddr0 rfl j0) ?_
  refine fv (fun _ => OV.fieldAddr0 rfl abm) ?_
  refine fv (fun _ => OV.load rfl (At.own 1 rfl) rfl c7) ?_
  obtain ⟨o_8', h⟩ := h
  refine fv (fun _ => OV.cat rfl rfl o_8') ?_
  obtain ⟨o_9', h⟩ := h
  refine fv (fun _ => OV.cat rfl rfl o_9') ?_
  refine FL.weak (L' := fun γ => [(0, zP pb), (6, zI (d8 s0)), (14, zP b_1'), (107, zP pb), (111, st ((([32] : List UInt8) ++ s0) ++ ([32] : List UInt8)))]) (fun γ => ⟨rfl, rfl, rfl, rfl, rfl, trivial⟩) (FL.nil (hT (fun γ => [(0, zP pb), (6, zI (d8 s0)), (14, zP b_1'), (107, zP pb), (111, st ((([32] : List UInt8) ++ s0) ++ ([32] : List UInt8)))]) (fun γ => ?_)))
  obtain ⟨o_10', h⟩ := h
  refine WL.call n4 rfl (h8 pb (bl ++ j8 x1 (d8 s0)) ((([32] : List UInt8) ++ s0) ++ ([32] : List UInt8)) o_10') rfl trivial rfl rfl ?_
  refine WL.nil ?_
  refine kg (hK_16' [(0, zP pb), (6, zI (d8 s0)), (14, zP b_1')] _ ?_)
  refine a6 ?_
  refine wm ?_
  refine wv (OV.fieldAddr0 rfl ad9) ?_
  refine wv (OV.load rfl (At.own 1 rfl) rfl m4) ?_
  refine wm ?_
  obtain ⟨o_11', h⟩ := h
  refine wv (OV.add rfl rfl o_11') ?_
  obtain ⟨o_12', h⟩ := h
  obtain ⟨o_13', h⟩ := h
  refine WL.call aa0 rfl (o_12' pb ((bl ++ j8 x1 (d8 s0)) ++ ((([32] : List UInt8) ++ s0) ++ ([32] : List UInt8))) ((d8 s0) + 1) o_13') rfl (ROk.of (fun _ h => h)) rfl rfl ?_
  refine WL.nil ?_
  exact hE.norm (ad3 [0] rfl rfl (.inl ⟨_, h, rfl⟩) (d7.none rfl))
 ·skip
  refine a7 (fun _ hK_17' => ?_)
  refine a6 ?_
  refine wm ?_
  refine WL.nil ?_
  refine kg (hK_17' [(0, zP pb), (1, Value.iface 80 (Value.agg [zI p0, st s0, u1, u2].toArray)), (2, zI need), (6, zI 6), (18, Value.iface 80 (Value.agg [zI p0, st s0, u1, u2].toArray))] _ ?_)
  refine b7 ?_
  refine a7 (fun _ hK_18' => ?_)
  refine a6 ?_
  refine wv (OV.assertYes (t' := 80) (v := Value.agg [zI p0, st s0, u1, u2].toArray) rfl x8) ?_
  refine wv (OV.extract 1 rfl rfl) ?_
  refine wv (OV.extract 0 rfl rfl) ?_
  refine WL.nil ?_
  refine kg (hK_18' [(0, zP pb), (1, Value.iface 80 (Value.agg [zI p0, st s0, u1, u2].toArray)), (2, zI need), (6, zI 6), (18, Value.iface 80 (Value.agg [zI p0, st s0, u1, u2].toArray)), (20, zB true), (21, Value.agg [zI p0, st s0, u1, u2].toArray)] _ ?_)
  refine f7 rfl ?_
  refine a7 (fun _ hK_19' => ?_)
  refine a6 ?_
  refine WL.make (MV.alloc adj) rfl rfl rfl (fun b_2' => ?_)
  obtain ⟨o_14', h⟩ := h
  obtain ⟨o_15', h⟩ := h
  refine WL.storeW (vs := [zI p0, st s0, u1, u2]) 0 rfl rfl rfl rfl rfl adr rfl (d4 rfl (d4 rfl (d4 o_14' (d4 o_15' o6)))) rfl ?_
  refine WL.nil ?_
  refine kg (hK_19' [(0, zP pb), (1, Value.iface 80 (Value.agg [zI p0, st s0, u1, u2].toArray)), (2, zI need), (7, zP b_2')] _ ?_)
  refine a6 ?_
  refine wv (OV.fieldAddr0 rfl abm) ?_
  refine wv (OV.load rfl (At.own 0 rfl) rfl c7) ?_
  obtain ⟨o_16', h⟩ := h
  refine WL.call (A := []) aij rfl (aiq te fre s0 o_16') rfl ⟨.inr (List.mem_append_right _ (List.mem_of_getElem? (i := 0) rfl)), trivial⟩ rfl rfl ?_
  refine wA ?_
  refine WL.nil ?_
  exact kh (hK_4' () h) [1]
def af4 (te : TypeId) (fre : Nat × Nat) (B : List (Nat × Obj)) (bl : List UInt8) (_ : Int) (s0 : List UInt8) (us : List Value) (need : Int) (xs : List Ex) (K : (List UInt8) → Prop) : Prop :=
 ∃ (J0 : Prop),
  (∀ (_ : Unit), J0 →
   ((decide (6 < need)) = false) ∧
   (s0.length + ([40] : List UInt8).length ≤ 9223372036854775807) ∧
   (bl.length + (s0 ++ ([40] : List UInt8)).length ≤ 140737488355328) ∧
   ∃ (Inv : Int → (List UInt8) → Prop) (mu : Int → (List UInt8) → Nat),
    Inv 0 (bl ++ (s0 ++ ([40] : List UInt8))) ∧ ∀ (t132_1' : Int) (c_2' : List UInt8), Inv t132_1' c_2' →
     (if (decide (t132_1' < (us.length : Int))) = true then
      (0 ≤ t132_1' ∧ t132_1' < (us.length : Int)) ∧
      ∃ (J0_3' : (List UInt8) → Prop),
       (∀ (c_3' : List UInt8), J0_3' c_3' →
        (aa2 B te fre (us.getD (t132_1').toNat default) (xs.getD (t132_1').toNat default)) ∧
        (abj c_3' (0 : Int) (xs.getD (t132_1').toNat default)) ∧
        (I64 (t132_1' + 1)) ∧
        Inv (t132_1' + 1) (c_3' ++ j8 (xs.getD (t132_1').toNat default) (0 : Int)) ∧ mu (t132_1' + 1) (c_3' ++ j8 (xs.getD (t132_1').toNat default) (0 : Int)) < mu t132_1' c_2') ∧
       (if (decide (0 < t132_1')) = true then
        (c_2'.length + ([44, 32] : List UInt8).length ≤ 140737488355328) ∧
        J0_3' (c_2' ++ ([44, 32] : List UInt8))
       else
        J0_3' c_2')
     else
      (c_2'.length + ([41] : List UInt8).length ≤ 140737488355328) ∧
      K (c_2' ++ ([41] : List UInt8)))) ∧
  J0
theorem apk (pb : Nat) (ua : Value) (te : TypeId) (fre : Nat × Nat) (B : List (Nat × Obj)) (bl : List UInt8) (p0 : Int) (s0 : List UInt8) (us : List Value) (need : Int) (xs : List Ex) (hRi1 : s9 ua B us.length (us.flatMap acz)) (K : (List UInt8) → Prop) (h : af4 te fre B bl p0 s0 us need xs K) :
  d9 Tryd.prog 31 [zP pb, Value.iface 83 (Value.agg [zI p0, st s0, ua].toArray), zI need] (B ++ [(0, .cells [st ([124] : List UInt8), st ([38, 45] : List UInt8), st ([62, 62] : List UInt8), st ([126] : List UInt8), st ([46] : List UInt8)].toArray te fre)]) [bld 90 5 pb bl] (fun o => (∃ (d : List UInt8), K d ∧ o = .ret (Value.tuple #[]) [bld 90 5 pb d]) ∨ (False)) := by
 unfold af4 at h
 refine v7 (n := 151) (L0 := [(0, zP pb), (1, Value.iface 83 (Value.agg [zI p0, st s0, ua].toArray)), (2, zI need)]) Tryd.func31 rfl rfl rfl rfl (fun w0 M Q hE => ?_)
 have hi1 : LIn ⟨151, [], w0, M, (B ++ [(0, .cells [st ([124] : List UInt8), st ([38, 45] : List UInt8), st ([62, 62] : List UInt8), st ([126] : List UInt8), st ([46] : List UInt8)].toArray te fre)])⟩ ua us.length (us.flatMap acz) := s9.lin hRi1 (fun p hp => List.mem_append_left _ hp)
 refine a7 (fun _ hK => ?_)
 refine a6 ?_
 refine wA ?_
 refine WL.nil ?_
 refine kg (hK [(0, zP pb), (1, Value.iface 83 (Value.agg [zI p0, st s0, ua].toArray)), (2, zI need), (6, zI 6)] _ ?_)
 obtain ⟨J0, hJ, h⟩ := h
 refine m5 (X := Unit) (fun _ => J0) (fun _ => [(0, zP pb), (1, Value.iface 83 (Value.agg [zI p0, st s0, ua].toArray)), (2, zI need), (6, zI 6)]) (fun _ => [bld 90 5 pb bl]) ?_ (fun K0_4' hK_4' => ?_)
 ·rintro _ hj
  replace h := hJ () hj
  show WC _ _ _ _ [(0, zP pb), (1, Value.iface 83 (Value.agg [zI p0, st s0, ua].toArray)), (2, zI need), (6, zI 6)] [bld 90 5 pb bl]
  refine a7 (fun _ hK_5' => ?_)
  refine a7 (fun _ hK_6' => ?_)
  refine a6 ?_
  refine wm ?_
  refine wm ?_
  refine wv (OV.lss rfl rfl) ?_
  refine WL.nil ?_
  refine kg (hK_6' [(0, zP pb), (1, Value.iface 83 (Value.agg [zI p0, st s0, ua].toArray)), (6, zI 6), (30, zB (decide (6 < need)))] _ ?_)
  obtain ⟨o, h⟩ := h
  refine b5 (b := decide (6 < need)) rfl (fun hb => ?_) (fun hb => ?_)
  ·rw [o] at hb; cases hb
  refine b6 ?_
  refine kg (hK_5' [(0, zP pb), (1, Value.iface 83 (Value.agg [zI p0, st s0, ua].toArray)), (6, zI 6)] _ ?_)
  refine a7 (fun _ hK_7' => ?_)
  refine a6 ?_
  refine wm ?_
  refine WL.nil ?_
  refine kg (hK_7' [(0, zP pb), (6, zI 6), (38, Value.iface 83 (Value.agg [zI p0, st s0, ua].toArray))] _ ?_)
  refine b7 ?_
  refine a7 (fun _ hK_8' => ?_)
  refine a6 ?_
  refine wv (OV.assertNo (t2 := 83) (v := Value.agg [zI p0, st s0, ua].toArray) rfl u7 x6 rfl) ?_
  refine wv (OV.extract 1 rfl rfl) ?_
  refine wv (OV.extract 0 rfl rfl) ?_
  refine WL.nil ?_
  refine kg (hK_8' [(0, zP pb), (6, zI 6), (38, Value.iface 83 (Value.agg [zI p0, st s0, ua].toArray)), (40, zB false), (41, Value.agg [zI 0, st []].toArray)] _ ?_)
  refine d5 rfl ?_
  refine a7 (fun _ hK_9' => ?_)
  refine a6 ?_
  refine wv (OV.assertNo (t2 := 83) (v := Value.agg [zI p0, st s0, ua].toArray) rfl x9 aau rfl) ?_
  refine wv (OV.extract 1 rfl rfl) ?_
  refine wv (OV.extract 0 rfl rfl) ?_
  refine WL.nil ?_
  refine kg (hK_9' [(0, zP pb), (6, zI 6), (38, Value.iface 83 (Value.agg [zI p0, st s0, ua].toArray)), (49, zB false), (50, Value.agg [zI 0, st []].toArray)] _ ?_)
  refine d5 rfl ?_
  refine a7 (fun _ hK_10' => ?_)
  refine a6 ?_
  refine wv (OV.assertNo (t2 := 83) (v := Value.agg [zI p0, st s0, ua].toArray) rfl aas abk rfl) ?_
  refine wv (OV.extract 1 rfl rfl) ?_
  refine wv (OV.extract 0 rfl rfl) ?_
  refine WL.nil ?_
  refine kg (hK_10' [(0, zP pb), (6, zI 6), (38, Value.iface 83 (Value.agg [zI p0, st s0, ua].toArray)), (59, zB false), (60, Value.agg [zI 0, st []].toArray)] _ ?_)
  refine d5 rfl ?_
  refine a7 (fun _ hK_11' => ?_)
  refine a6 ?_
  refine wv (OV.assertNo (t2 := 83) (v := Value.agg [zI p0, st s0, ua].toArray) rfl abl ac0 rfl) ?_
  refine wv (OV.extract 1 rfl rfl) ?_
  refine wv (OV.extract 0 rfl rfl) ?_
  refine WL.nil ?_
  refine kg (hK_11' [(0, zP pb), (6, zI 6), (38, Value.iface 83 (Value.agg [zI p0, st s0, ua].toArray)), (70, zB false), (71, Value.agg [zI 0, Value.nilIface].toArray)] _ ?_)
  refine d5 rfl ?_
  refine a7 (fun _ hK_12' => ?_)
  refine a6 ?_
  refine wv (OV.assertNo (t2 := 83) (v := Value.agg [zI p0, st s0, ua].toArray) rfl w9 abp rfl) ?_
  refine wv (OV.extract 1 rfl rfl) ?_
  refine wv (OV.extract 0 rfl rfl) ?_
  refine WL.nil ?_
  refine kg (hK_12' [(0, zP pb), (6, zI 6), (38, Value.iface 83 (Value.agg [zI p0, st s0, ua].toArray)), (85, zB false), (86, Value.agg [zI 0, st [], Value.nilIface].toArray)] _ ?_)
  refine d5 rfl ?_
  refine a7 (fun _ hK_13' => ?_)
  refine a6 ?_
  refine wv (OV.assertNo (t2 := 83) (v := Value.agg [zI p0, st s0, ua].toArray) rfl x8 ab7 rfl) ?_
  refine wv (OV.extract 1 rfl rfl) ?_
  refine wv (OV.extract 0 rfl rfl) ?_
  refine WL.nil ?_
  refine kg (hK_13' [(0, zP pb), (6, zI 6), (38, Value.iface 83 (Value.agg [zI p0, st s0, ua].toArray)), (98, zB false), (99, Value.agg [zI 0, st [], Value.nilIface, Value.nilIface].toArray)] _ ?_)
  refine d5 rfl ?_
  refine a7 (fun _ hK_14' => ?_)
  refine a6 ?_
  refine wv (OV.assertYes (t' := 83) (v := Value.agg [zI p0, st s0, ua].toArray) rfl aoa) ?_
  refine wv (OV.extract 1 rfl rfl) ?_
  refine wv (OV.extract 0 rfl rfl) ?_
  refine WL.nil ?_
  refine kg (hK_14' [(0, zP pb), (120, zB true), (121, Value.agg [zI p0, st s0, ua].toArray)] _ ?_)
  refine f7 rfl ?_
  refine a7 (fun _ hK_15' => ?_)
  refine a6 ?_
  refine WL.make (MV.alloc ahx) rfl rfl rfl (fun b => ?_)
  refine WL.nilRow 37 1 acz ?_
  have hone := hi1.one
  refine WL.storeW (vs := [zI p0, st s0, ua]) 1 rfl rfl rfl rfl rfl ahw rfl (d4 rfl (d4 rfl (d4 hone o6))) rfl ?_
  refine WL.nil ?_
  refine kg (hK_15' [(0, zP pb), (15, zP b)] _ ?_)
  refine a7 (fun _ hK_16' => ?_)
  refine m0 6 [] f0 (by kernel_rfl) rfl (fun T hT => ?_)
  refine fv (fun _ => OV.move rfl) ?_
  refine fv (fun _ => OV.nilCheck rfl) ?_
  refine fv (fun _ => OV.fieldAddr0 rfl j0) ?_
  refine fv (fun _ => OV.fieldAddr0 rfl agz) ?_
  refine fv (fun _ => OV.load rfl (At.own 1 rfl) rfl c7) ?_
  obtain ⟨o_1', h⟩ := h
  refine fv (fun _ => OV.cat rfl rfl o_1') ?_
  refine FL.weak (L' := fun γ => [(0, zP pb), (15, zP b), (124, zP pb), (127, st (s0 ++ ([40] : List UInt8)))]) (fun γ => ⟨rfl, rfl, rfl, rfl, trivial⟩) (FL.nil (hT (fun γ => [(0, zP pb), (15, zP b), (124, zP pb), (127, st (s0 ++ ([40] : List UInt8)))]) (fun γ => ?_)))
  obtain ⟨o_2', h⟩ := h
  refine WL.pick (H' := [bld 90 5 pb bl, HA.row (Value.slice none 0 0) 37 1 ([] : List Value).length (([] : List Value).flatMap acz), HA.blk b (.cells [zI p0, st s0, ua].toArray 83 (0, 0))]) [2, 0, 1] rfl rfl ?_
  refine WL.call n4 rfl (h8 pb bl (s0 ++ ([40] : List UInt8)) o_2') rfl trivial rfl rfl ?_
  refine WL.nil ?_
  refine kg (hK_16' [(0, zP pb), (15, zP b)] _ ?_)
  refine a7 (fun _ hK_17' => ?_)
  refine a7 (fun _ hK_18' => ?_)
  refine a6 ?_
  refine wv (OV.fieldAddr0 rfl abt) ?_
  refine wv (OV.load rfl (At.own 2 rfl) rfl afa) ?_
  refine wv (OV.lenIn hi1 rfl aeo) ?_
  refine wm ?_
  refine WL.nil ?_
  refine kg (hK_18' [(0, zP pb), (130, ua), (131, zI (us.length : Int)), (132, zI 0)] _ ?_)
  refine b7 ?_
  refine WC.pick (H' := [bld 90 5 pb (bl ++ (s0 ++ ([40] : List UInt8)))]) [0] rfl rfl ?_
  obtain ⟨Inv, mu, h0, hr⟩ := h
  refine o7 (S := Int × (List UInt8)) (fun σ => Inv σ.1 σ.2) (fun σ => mu σ.1 σ.2) (fun σ => [(0, zP pb), (130, ua), (131, zI (us.length : Int)), (132, zI σ.1)]) (fun σ => [bld 90 5 pb σ.2]) (0, bl ++ (s0 ++ ([40] : List UInt8))) h0 ⟨rfl, rfl, rfl, rfl, trivial⟩ rfl ?_
  rintro ⟨t132_1', c_2'⟩ hi K0_33' hK_33'
  have h := hr t132_1' c_2' hi
  show WC _ _ _ _ [(0, zP pb), (130, ua), (131, zI (us.length : Int)), (132, zI t132_1')] [bld 90 5 pb c_2']
  refine a7 (fun _ hK_34' => ?_)
  refine a6 ?_
  refine wv (OV.lss rfl rfl) ?_
  refine WL.nil ?_
  refine kg (hK_34' [(0, zP pb), (130, ua), (131, zI (us.length : Int)), (132, zI t132_1'), (133, zB (decide (t132_1' < (us.length : Int))))] _ ?_)
  refine a7 (fun _ hK_35' => ?_)
  refine b5 (b := decide (t132_1' < (us.length : Int))) rfl (fun hb => ?_) (fun hb => ?_)
  ·replace h := e8 h hb
   refine b6 ?_
   refine kg (hK_35' [(0, zP pb), (130, ua), (131, zI (us.length : Int)), (132, zI t132_1')] _ ?_)
   refine a7 (fun _ hK_36' => ?_)
   refine b7 ?_
   refine a7 (fun _ hK_37' => ?_)
   refine a6 ?_
   refine wm ?_
   obtain ⟨o_12', h⟩ := h
   refine wv (OV.indexIn hi1 rfl rfl aeo o_12') ?_
   refine wv (OV.loadInE1 (f := acz) hi1 rfl af9 (by omega) rfl m4) ?_
   refine wA ?_
   refine wA ?_
   refine WL.nil ?_
   refine kg (hK_37' [(0, zP pb), (16, zI t132_1'), (17, (us.getD (t132_1').toNat default)), (130, ua), (131, zI (us.length : Int)), (132, zI t132_1')] _ ?_)
   obtain ⟨J0_3', hJ_3', h⟩ := h
   refine m5 (X := (List UInt8)) (fun σ => J0_3' σ) (fun σ => [(0, zP pb), (17, (us.getD (t132_1').toNat default)), (130, ua), (131, zI (us.length : Int)), (132, zI t132_1')]) (fun σ => [bld 90 5 pb σ]) ?_ (fun K0_39' hK_39' => ?_)
   ·rintro c_3' hj
    replace h := hJ_3' c_3' hj
    show WC _ _ _ _ [(0, zP pb), (17, (us.getD (t132_1').toNat default)), (130, ua), (131, zI (us.length : Int)), (132, zI t132_1')] [bld 90 5 pb c_3']
    refine a6 ?_
    refine wm ?_
    refine wm ?_
    obtain ⟨o_14', h⟩ := h
    obtain ⟨o_15', h⟩ := h
    refine WL.call aa0 rfl (o_14' pb c_3' (0 : Int) o_15') rfl (ROk.of (fun _ h => h)) rfl rfl ?_
    refine WL.nil ?_
    refine kg (hK_36' [(0, zP pb), (130, ua), (131, zI (us.length : Int)), (132, zI t132_1')] _ ?_)
    refine a6 ?_
    obtain ⟨o_16', h⟩ := h
    refine wv (OV.add rfl rfl o_16') ?_
    refine wm ?_
    refine WL.nil ?_
    exact kh (hK_33' (t132_1' + 1, c_3' ++ j8 (xs.getD (t132_1').toNat default) (0 : Int)) h.1 h.2) [0]
   ·skip
    refine a7 (fun _ hK_40' => ?_)
    refine a6 ?_
    refine wm ?_
    refine wv (OV.gtr rfl rfl) ?_
    refine WL.nil ?_
    refine kg (hK_40' [(0, zP pb), (17, (us.getD (t132_1').toNat default)), (130, ua), (131, zI (us.length : Int)), (132, zI t132_1'), (138, zB (decide (0 < t132_1')))] _ ?_)
    refine b5 (b := decide (0 < t132_1')) rfl (fun hb => ?_) (fun hb => ?_)
    ·replace h := e8 h hb
     refine a6 ?_
     refine wm ?_
     refine wv (OV.nilCheck rfl) ?_
     refine wv (OV.fieldAddr0 rfl j0) ?_
     obtain ⟨o_17', h⟩ := h
     refine WL.call n4 rfl (h8 pb c_2' ([44, 32] : List UInt8) o_17') rfl trivial rfl rfl ?_
     refine WL.nil ?_
     exact kh (hK_39' (c_2' ++ ([44, 32] : List UInt8)) h) [0]
    ·replace h := e9 h hb
     refine b6 ?_
     exact kh (hK_39' c_2' h) [0]
  ·replace h := e9 h hb
   refine l4 ?_
   refine kg (hK_17' [(0, zP pb)] _ ?_)
   refine a6 ?_
   refine wm ?_
   refine wv (OV.nilCheck rfl) ?_
   refine wv (OV.fieldAddr0 rfl j0) ?_
   obtain ⟨o_18', h⟩ := h
   refine WL.call n4 rfl (h8 pb c_2' ([41] : List UInt8) o_18') rfl trivial rfl rfl ?_
   refine WL.nil ?_
   exact hE.norm (ad3 [0] rfl rfl (.inl ⟨_, h, rfl⟩) (d7.none rfl))
 ·skip
  refine a7 (fun _ hK_41' => ?_)
  refine a6 ?_
  refine wm ?_
  refine WL.nil ?_
  refine kg (hK_41' [(0, zP pb), (1, Value.iface 83 (Value.agg [zI p0, st s0, ua].toArray)), (2, zI need), (6, zI 6), (18, Value.iface 83 (Value.agg [zI p0, st s0, ua].toArray))] _ ?_)
  refine b7 ?_
  refine a7 (fun _ hK_42' => ?_)
  refine a6 ?_
  refine wv (OV.assertNo (t2 := 83) (v := Value.agg [zI p0, st s0, ua].toArray) rfl x8 ab7 rfl) ?_
  refine wv (OV.extract 1 rfl rfl) ?_
  refine wv (OV.extract 0 rfl rfl) ?_
  refine WL.nil ?_
  refine kg (hK_42' [(0, zP pb), (1, Value.iface 83 (Value.agg [zI p0, st s0, ua].toArray)), (2, zI need), (6, zI 6), (18, Value.iface 83 (Value.agg [zI p0, st s0, ua].toArray)), (20, zB false), (21, Value.agg [zI 0, st [], Value.nilIface, Value.nilIface].toArray)] _ ?_)
  refine d5 rfl ?_
  refine a7 (fun _ hK_43' => ?_)
  refine a6 ?_
  refine wv (OV.assertNo (t2 := 83) (v := Value.agg [zI p0, st s0, ua].toArray) rfl w9 abp rfl) ?_
  refine wv (OV.extract 1 rfl rfl) ?_
  refine wv (OV.extract 0 rfl rfl) ?_
  refine WL.nil ?_
  refine kg (hK_43' [(0, zP pb), (1, Value.iface 83 (Value.agg [zI p0, st s0, ua].toArray)), (2, zI need), (6, zI 6), (26, zB false), (27, Value.agg [zI 0, st [], Value.nilIface].toArray)] _ ?_)
  refine d5 rfl ?_
  refine b6 ?_
  exact kh (hK_4' () h) [0]
def aeg (te : TypeId) (fre : Nat × Nat) (B : List (Nat × Obj)) (bl : List UInt8) (_ : Int) (s0 : List UInt8) (u1 : Value) (need : Int) (x1 : Ex) (K : (List UInt8) → Prop) : Prop :=
 ∃ (J0 : Prop),
  (∀ (_ : Unit), J0 →
   ((decide (5 < need)) = true) ∧
   (bl.length + ([40] : List UInt8).length ≤ 140737488355328) ∧
   (u1.oneCell' = true) ∧
   (aa2 B te fre u1 x1) ∧
   (abj (bl ++ ([40] : List UInt8)) (5 : Int) x1) ∧
   (((bl ++ ([40] : List UInt8)) ++ j8 x1 (5 : Int)).length + s0.length ≤ 140737488355328) ∧
   ((((bl ++ ([40] : List UInt8)) ++ j8 x1 (5 : Int)) ++ s0).length + ([41] : List UInt8).length ≤ 140737488355328) ∧
   K ((((bl ++ ([40] : List UInt8)) ++ j8 x1 (5 : Int)) ++ s0) ++ ([41] : List UInt8))) ∧
  (u1.oneCell' = true) ∧
  J0
theorem alq (pb : Nat) (te : TypeId) (fre : Nat × Nat) (B : List (Nat × Obj)) (bl : List UInt8) (p0 : Int) (s0 : List UInt8) (u1 : Value) (need : Int) (x1 : Ex) (K : (List UInt8) → Prop) (h : aeg te fre B bl p0 s0 u1 need x1 K) :
  d9 Tryd.prog 31 [zP pb, Value.iface 78 (Value.agg [zI p0, st s0, u1].toArray), zI need] (B ++ [(0, .cells [st ([124] : List UInt8), st ([38, 45] : List UInt8), st ([62, 62] : List UInt8), st ([126] : List UInt8), st ([46] : List UInt8)].toArray te fre)]) [bld 90 5 pb bl] (fun o => (∃ (d : List UInt8), K d ∧ o = .ret (Value.tuple #[]) [bld 90 5 pb d]) ∨ (False)) := by
 unfold aeg at h
 refine v7 (n := 151) (L0 := [(0, zP pb), (1, Value.iface 78 (Value.agg [zI p0, st s0, u1].toArray)), (2, zI need)]) Tryd.func31 rfl rfl rfl rfl (fun w0 M Q hE => ?_)
 refine a7 (fun _ hK => ?_)
 refine a6 ?_
 refine wA ?_
 refine WL.nil ?_
 refine kg (hK [(0, zP pb), (1, Value.iface 78 (Value.agg [zI p0, st s0, u1].toArray)), (2, zI need), (6, zI 6)] _ ?_)
 obtain ⟨J0, hJ, h⟩ := h
 refine m5 (X := Unit) (fun _ => J0) (fun _ => [(0, zP pb), (1, Value.iface 78 (Value.agg [zI p0, st s0, u1].toArray)), (2, zI need), (6, zI 5)]) (fun _ => [bld 90 5 pb bl]) ?_ (fun K0_5' hK_5' => ?_)
 ·rintro _ hj
  replace h := hJ () hj
  show WC _ _ _ _ [(0, zP pb), (1, Value.iface 78 (Value.agg [zI p0, st s0, u1].toArray)), (2, zI need), (6, zI 5)] [bld 90 5 pb bl]
  refine an7 (fun K0_6' hK_6' => ?_)
  refine a7 (fun _ hK_7' => ?_)
  refine a6 ?_
  refine wm ?_
  refine wm ?_
  refine wv (OV.lss rfl rfl) ?_
  refine WL.nil ?_
  refine kg (hK_7' [(0, zP pb), (1, Value.iface 78 (Value.agg [zI p0, st s0, u1].toArray)), (6, zI 5), (30, zB (decide (5 < need)))] _ ?_)
  obtain ⟨o_1', h⟩ := h
  refine b5 (b := decide (5 < need)) rfl (fun hb => ?_) (fun hb => ?_)
  rotate_left
  ·rw [o_1'] at hb; cases hb
  refine a7 (fun _ hK_8' => ?_)
  refine a6 ?_
  refine wm ?_
  refine wv (OV.nilCheck rfl) ?_
  refine wv (OV.fieldAddr0 rfl j0) ?_
  obtain ⟨o_2', h⟩ := h
  refine WL.call n4 rfl (h8 pb bl ([40] : List UInt8) o_2') rfl trivial rfl rfl ?_
  refine WL.nil ?_
  refine kg (hK_8' [(0, zP pb), (1, Value.iface 78 (Value.agg [zI p0, st s0, u1].toArray)), (6, zI 5)] _ ?_)
  refine a6 ?_
  refine wm ?_
  refine wv (OV.nilCheck rfl) ?_
  refine wv (OV.fieldAddr0 rfl j0) ?_
  refine WL.deferA rfl ?_
  refine WL.nil ?_
  refine kg (hK_6' _ [(0, zP pb), (1, Value.iface 78 (Value.agg [zI p0, st s0, u1].toArray)), (6, zI 5)] _ ?_)
  refine a7 (fun _ hK_9' => ?_)
  refine a6 ?_
  refine wm ?_
  refine WL.nil ?_
  refine kg (hK_9' [(0, zP pb), (6, zI 5), (38, Value.iface 78 (Value.agg [zI p0, st s0, u1].toArray))] _ ?_)
  refine b7 ?_
  refine a7 (fun _ hK_10' => ?_)
  refine a6 ?_
  refine wv (OV.assertNo (t2 := 78) (v := Value.agg [zI p0, st s0, u1].toArray) rfl u7 x6 rfl) ?_
  refine wv (OV.extract 1 rfl rfl) ?_
  refine wv (OV.extract 0 rfl rfl) ?_
  refine WL.nil ?_
  refine kg (hK_10' [(0, zP pb), (6, zI 5), (38, Value.iface 78 (Value.agg [zI p0, st s0, u1].toArray)), (40, zB false), (41, Value.agg [zI 0, st []].toArray)] _ ?_)
  refine d5 rfl ?_
  refine a7 (fun _ hK_11' => ?_)
  refine a6 ?_
  refine wv (OV.assertNo (t2 := 78) (v := Value.agg [zI p0, st s0, u1].toArray) rfl x9 aau rfl) ?_
  refine wv (OV.extract 1 rfl rfl) ?_
  refine wv (OV.extract 0 rfl rfl) ?_
  refine WL.nil ?_
  refine kg (hK_11' [(0, zP pb), (6, zI 5), (38, Value.iface 78 (Value.agg [zI p0, st s0, u1].toArray)), (49, zB false), (50, Value.agg [zI 0, st []].toArray)] _ ?_)
  refine d5 rfl ?_
  refine a7 (fun _ hK_12' => ?_)
  refine a6 ?_
  refine wv (OV.assertNo (t2 := 78) (v := Value.agg [zI p0, st s0, u1].toArray) rfl aas abk rfl) ?_
  refine wv (OV.extract 1 rfl rfl) ?_
  refine wv (OV.extract 0 rfl rfl) ?_
  refine WL.nil ?_
  refine kg (hK_12' [(0, zP pb), (6, zI 5), (38, Value.iface 78 (Value.agg [zI p0, st s0, u1].toArray)), (59, zB false), (60, Value.agg [zI 0, st []].toArray)] _ ?_)
  refine d5 rfl ?_
  refine a7 (fun _ hK_13' => ?_)
  refine a6 ?_
  refine wv (OV.assertNo (t2 := 78) (v := Value.agg [zI p0, st s0, u1].toArray) rfl abl ac0 rfl) ?_
  refine wv (OV.extract 1 rfl rfl) ?_
  refine wv (OV.extract 0 rfl rfl) ?_
  refine WL.nil ?_
  refine kg (hK_13' [(0, zP pb), (6, zI 5), (38, Value.iface 78 (Value.agg [zI p0, st s0, u1].toArray)), (70, zB false), (71, Value.agg [zI 0, Value.nilIface].toArray)] _ ?_)
  refine d5 rfl ?_
  refine a7 (fun _ hK_14' => ?_)
  refine a6 ?_
  refine wv (OV.assertYes (t' := 78) (v := Value.agg [zI p0, st s0, u1].toArray) rfl w9) ?_
  refine wv (OV.extract 1 rfl rfl) ?_
  refine wv (OV.extract 0 rfl rfl) ?_
  refine WL.nil ?_
  refine kg (hK_14' [(0, zP pb), (6, zI 5), (38, Value.iface 78 (Value.agg [zI p0, st s0, u1].toArray)), (85, zB true), (86, Value.agg [zI p0, st s0, u1].toArray)] _ ?_)
  refine f7 rfl ?_
  refine a7 (fun _ hK_15' => ?_)
  refine a6 ?_
  refine WL.make (MV.alloc adq) rfl rfl rfl (fun b_1' => ?_)
  obtain ⟨o_3', h⟩ := h
  refine WL.storeW (vs := [zI p0, st s0, u1]) 0 rfl rfl rfl rfl rfl adn rfl (d4 rfl (d4 rfl (d4 o_3' o6))) rfl ?_
  refine WL.nil ?_
  refine kg (hK_15' [(0, zP pb), (13, zP b_1')] _ ?_)
  refine a7 (fun _ hK_16' => ?_)
  refine a6 ?_
  refine wm ?_
  refine wv (OV.fieldAddr0 rfl aei) ?_
  refine wv (OV.load rfl (At.own 0 rfl) rfl m4) ?_
  obtain ⟨o_4', h⟩ := h
  obtain ⟨o_5', h⟩ := h
  refine WL.pick (H' := [bld 90 5 pb (bl ++ ([40] : List UInt8)), HA.blk b_1' (.cells [zI p0, st s0, u1].toArray 78 (0, 0))]) [1, 0] rfl rfl ?_
  refine WL.call aa0 rfl (o_4' pb (bl ++ ([40] : List UInt8)) (5 : Int) o_5') rfl (ROk.of (fun _ h => h)) rfl rfl ?_
  refine WL.nil ?_
  refine kg (hK_16' [(0, zP pb), (13, zP b_1')] _ ?_)
  refine m0 5 [] f0 (by kernel_rfl) rfl (fun T hT => ?_)
  refine fv (fun _ => OV.move rfl) ?_
  refine fv (fun _ => OV.nilCheck rfl) ?_
  refine fv (fun _ => OV.fieldAddr0 rfl j0) ?_
  refine fv (fun _ => OV.fieldAddr0 rfl aek) ?_
  refine fv (fun _ => OV.load rfl (At.own 1 rfl) rfl c7) ?_
  refine FL.weak (L' := fun γ => [(93, zP pb), (95, st s0)]) (fun γ => ⟨rfl, rfl, trivial⟩) (FL.nil (hT (fun γ => [(93, zP pb), (95, st s0)]) (fun γ => ?_)))
  obtain ⟨o_6', h⟩ := h
  refine WL.call n4 rfl (h8 pb ((bl ++ ([40] : List UInt8)) ++ j8 x1 (5 : Int)) s0 o_6') rfl trivial rfl rfl ?_
  refine WL.nil ?_
  obtain ⟨o_7', h⟩ := h
  exact hE.norm (ard (A := [bld 90 5 pb (((bl ++ ([40] : List UInt8)) ++ j8 x1 (5 : Int)) ++ s0)]) (A' := [bld 90 5 pb ((((bl ++ ([40] : List UInt8)) ++ j8 x1 (5 : Int)) ++ s0) ++ ([41] : List UInt8))]) (Rest := [HA.blk b_1' (.cells [zI p0, st s0, u1].toArray 78 (0, 0))]) [0, 1] rfl rfl n4 (ad7 pb (((bl ++ ([40] : List UInt8)) ++ j8 x1 (5 : Int)) ++ s0) ([41] : List UInt8) o_7') trivial [0] rfl rfl (.inl ⟨_, h, rfl⟩) (d7.none rfl))
 ·skip
  refine a7 (fun _ hK_17' => ?_)
  refine a6 ?_
  refine wm ?_
  refine WL.nil ?_
  refine kg (hK_17' [(0, zP pb), (1, Value.iface 78 (Value.agg [zI p0, st s0, u1].toArray)), (2, zI need), (6, zI 6), (18, Value.iface 78 (Value.agg [zI p0, st s0, u1].toArray))] _ ?_)
  refine b7 ?_
  refine a7 (fun _ hK_18' => ?_)
  refine a6 ?_
  refine wv (OV.assertNo (t2 := 78) (v := Value.agg [zI p0, st s0, u1].toArray) rfl x8 ab7 rfl) ?_
  refine wv (OV.extract 1 rfl rfl) ?_
  refine wv (OV.extract 0 rfl rfl) ?_
  refine WL.nil ?_
  refine kg (hK_18' [(0, zP pb), (1, Value.iface 78 (Value.agg [zI p0, st s0, u1].toArray)), (2, zI need), (6, zI 6), (18, Value.iface 78 (Value.agg [zI p0, st s0, u1].toArray)), (20, zB false), (21, Value.agg [zI 0, st [], Value.nilIface, Value.nilIface].toArray)] _ ?_)
  refine d5 rfl ?_
  refine a7 (fun _ hK_19' => ?_)
  refine a6 ?_
  refine wv (OV.assertYes (t' := 78) (v := Value.agg [zI p0, st s0, u1].toArray) rfl w9) ?_
  refine wv (OV.extract 1 rfl rfl) ?_
  refine wv (OV.extract 0 rfl rfl) ?_
  refine WL.nil ?_
  refine kg (hK_19' [(0, zP pb), (1, Value.iface 78 (Value.agg [zI p0, st s0, u1].toArray)), (2, zI need), (6, zI 6), (26, zB true), (27, Value.agg [zI p0, st s0, u1].toArray)] _ ?_)
  refine f7 rfl ?_
  refine a7 (fun _ hK_20' => ?_)
  refine a6 ?_
  refine WL.make (MV.alloc adq) rfl rfl rfl (fun b_2' => ?_)
  obtain ⟨o_8', h⟩ := h
  refine WL.storeW (vs := [zI p0, st s0, u1]) 0 rfl rfl rfl rfl rfl adn rfl (d4 rfl (d4 rfl (d4 o_8' o6))) rfl ?_
  refine WL.nil ?_
  refine kg (hK_20' [(0, zP pb), (1, Value.iface 78 (Value.agg [zI p0, st s0, u1].toArray)), (2, zI need)] _ ?_)
  refine a6 ?_
  refine wA ?_
  refine WL.nil ?_
  exact kh (hK_5' () h) [1]
def adk (te : TypeId) (fre : Nat × Nat) (B : List (Nat × Obj)) (bl : List UInt8) (_ : Int) (s0 : List UInt8) (u1 : Value) (u2 : Value) (need : Int) (x1 : Ex) (x2 : Ex) (K : (List UInt8) → Prop) : Prop :=
 ∃ (J0 : Prop),
  (∀ (_ : Unit), J0 →
   ((decide (d8 s0 < need)) = true) ∧
   (bl.length + ([40] : List UInt8).length ≤ 140737488355328) ∧
   (u1.oneCell' = true) ∧
   (u2.oneCell' = true) ∧
   (aa2 B te fre u1 x1) ∧
   (abj (bl ++ ([40] : List UInt8)) (d8 s0) x1) ∧
   (([32] : List UInt8).length + s0.length ≤ 9223372036854775807) ∧
   ((([32] : List UInt8) ++ s0).length + ([32] : List UInt8).length ≤ 9223372036854775807) ∧
   (((bl ++ ([40] : List UInt8)) ++ j8 x1 (d8 s0)).length + ((([32] : List UInt8) ++ s0) ++ ([32] : List UInt8)).length ≤ 140737488355328) ∧
   (I64 ((d8 s0) + 1)) ∧
   (aa2 B te fre u2 x2) ∧
   (abj (((bl ++ ([40] : List UInt8)) ++ j8 x1 (d8 s0)) ++ ((([32] : List UInt8) ++ s0) ++ ([32] : List UInt8))) ((d8 s0) + 1) x2) ∧
   (((((bl ++ ([40] : List UInt8)) ++ j8 x1 (d8 s0)) ++ ((([32] : List UInt8) ++ s0) ++ ([32] : List UInt8))) ++ j8 x2 ((d8 s0) + 1)).length + ([41] : List UInt8).length ≤ 140737488355328) ∧
   K (((((bl ++ ([40] : List UInt8)) ++ j8 x1 (d8 s0)) ++ ((([32] : List UInt8) ++ s0) ++ ([32] : List UInt8))) ++ j8 x2 ((d8 s0) + 1)) ++ ([41] : List UInt8))) ∧
  (u1.oneCell' = true) ∧
  (u2.oneCell' = true) ∧
  (aeq s0) ∧
  J0
theorem ak9 (pb : Nat) (te : TypeId) (fre : Nat × Nat) (B : List (Nat × Obj)) (bl : List UInt8) (p0 : Int) (s0 : List UInt8) (u1 : Value) (u2 : Value) (need : Int) (x1 : Ex) (x2 : Ex) (K : (List UInt8) → Prop) (h : adk te fre B bl p0 s0 u1 u2 need x1 x2 K) :
  d9 Tryd.prog 31 [zP pb, Value.iface 80 (Value.agg [zI p0, st s0, u1, u2].toArray), zI need] (B ++ [(0, .cells [st ([124] : List UInt8), st ([38, 45] : List UInt8), st ([62, 62] : List UInt8), st ([126] : List UInt8), st ([46] : List UInt8)].toArray te fre)]) [bld 90 5 pb bl] (fun o => (∃ (d : List UInt8), K d ∧ o = .ret (Value.tuple #[]) [bld 90 5 pb d]) ∨ (False)) := by
 unfold adk at h
 refine v7 (n := 151) (L0 := [(0, zP pb), (1, Value.iface 80 (Value.agg [zI p0, st s0, u1, u2].toArray)), (2, zI need)]) Tryd.func31 rfl rfl rfl rfl (fun w0 M Q hE => ?_)
 refine a7 (fun _ hK => ?_)
 refine a6 ?_
 refine wA ?_
 refine WL.nil ?_
 refine kg (hK [(0, zP pb), (1, Value.iface 80 (Value.agg [zI p0, st s0, u1, u2].toArray)), (2, zI need), (6, zI 6)] _ ?_)
 obtain ⟨J0, hJ, h⟩ := h
 refine m5 (X := Unit) (fun _ => J0) (fun _ => [(0, zP pb), (1, Value.iface 80 (Value.agg [zI p0, st s0, u1, u2].toArray)), (2, zI need), (6, zI (d8 s0))]) (fun _ => [bld 90 5 pb bl]) ?_ (fun K0_4' hK_4' => ?_)
 ·rintro _ hj
  replace h := hJ () hj
  show WC _ _ _ _ [(0, zP pb), (1, Value.iface 80 (Value.agg [zI p0, st s0, u1, u2].toArray)), (2, zI need), (6, zI (d8 s0))] [bld 90 5 pb bl]
  refine an7 (fun K0_5' hK_5' => ?_)
  refine a7 (fun _ hK_6' => ?_)
  refine a6 ?_
  refine wm ?_
  refine wm ?_
  refine wv (OV.lss rfl rfl) ?_
  refine WL.nil ?_
  refine kg (hK_6' [(0, zP pb), (1, Value.iface 80 (Value.agg [zI p0, st s0, u1, u2].toArray)), (6, zI (d8 s0)), (30, zB (decide (d8 s0 < need)))] _ ?_)
  obtain ⟨o_3', h⟩ := h
  refine b5 (b := decide (d8 s0 < need)) rfl (fun hb => ?_) (fun hb => ?_)
  rotate_left
  ·rw [o_3'] at hb; cases hb
  refine a7 (fun _ hK_7' => ?_)
  refine a6 ?_
  refine wm ?_
  refine wv (OV.nilCheck rfl) ?_
  refine wv (OV.fieldAddr0 rfl j0) ?_
  obtain ⟨o_4', h⟩ := h
  refine WL.call n4 rfl (h8 pb bl ([40] : List UInt8) o_4') rfl trivial rfl rfl ?_
  refine WL.nil ?_
  refine kg (hK_7' [(0, zP pb), (1, Value.iface 80 (Value.agg [zI p0, st s0, u1, u2].toArray)), (6, zI (d8 s0))] _ ?_)
  refine a6 ?_
  refine wm ?_
  refine wv (OV.nilCheck rfl) ?_
  refine wv (OV.fieldAddr0 rfl j0) ?_
  refine WL.deferA rfl ?_
  refine WL.nil ?_
  refine kg (hK_5' _ [(0, zP pb), (1, Value.iface 80 (Value.agg [zI p0, st s0, u1, u2].toArray)), (6, zI (d8 s0))] _ ?_)
  refine a7 (fun _ hK_8' => ?_)
  refine a6 ?_
  refine wm ?_
  refine WL.nil ?_
  refine kg (hK_8' [(0, zP pb), (6, zI (d8 s0)), (38, Value.iface 80 (Value.agg [zI p0, st s0, u1, u2].toArray))] _ ?_)
  refine b7 ?_
  refine a7 (fun _ hK_9' => ?_)
  refine a6 ?_
  refine wv (OV.assertNo (t2 := 80) (v := Value.agg [zI p0, st s0, u1, u2].toArray) rfl u7 x6 rfl) ?_
  refine wv (OV.extract 1 rfl rfl) ?_
  refine wv (OV.extract 0 rfl rfl) ?_
  refine WL.nil ?_
  refine kg (hK_9' [(0, zP pb), (6, zI (d8 s0)), (38, Value.iface 80 (Value.agg [zI p0, st s0, u1, u2].toArray)), (40, zB false), (41, Value.agg [zI 0, st []].toArray)] _ ?_)
  refine d5 rfl ?_
  refine a7 (fun _ hK_10' => ?_)
  refine a6 ?_
  refine wv (OV.assertNo (t2 := 80) (v := Value.agg [zI p0, st s0, u1, u2].toArray) rfl x9 aau rfl) ?_
  refine wv (OV.extract 1 rfl rfl) ?_
  refine wv (OV.extract 0 rfl rfl) ?_
  refine WL.nil ?_
  refine kg (hK_10' [(0, zP pb), (6, zI (d8 s0)), (38, Value.iface 80 (Value.agg [zI p0, st s0, u1, u2].toArray)), (49, zB false), (50, Value.agg [zI 0, st []].toArray)] _ ?_)
  refine d5 rfl ?_
  refine a7 (fun _ hK_11' => ?_)
  refine a6 ?_
  refine wv (OV.assertNo (t2 := 80) (v := Value.agg [zI p0, st s0, u1, u2].toArray) rfl aas abk rfl) ?_
  refine wv (OV.extract 1 rfl rfl) ?_
  refine wv (OV.extract 0 rfl rfl) ?_
  refine WL.nil ?_
  refine kg (hK_11' [(0, zP pb), (6, zI (d8 s0)), (38, Value.iface 80 (Value.agg [zI p0, st s0, u1, u2].toArray)), (59, zB false), (60, Value.agg [zI 0, st []].toArray)] _ ?_)
  refine d5 rfl ?_
  refine a7 (fun _ hK_12' => ?_)
  refine a6 ?_
  refine wv (OV.assertNo (t2 := 80) (v := Value.agg [zI p0, st s0, u1, u2].toArray) rfl abl ac0 rfl) ?_
  refine wv (OV.extract 1 rfl rfl) ?_
  refine wv (OV.extract 0 rfl rfl) ?_
  refine WL.nil ?_
  refine kg (hK_12' [(0, zP pb), (6, zI (d8 s0)), (38, Value.iface 80 (Value.agg [zI p0, st s0, u1, u2].toArray)), (70, zB false), (71, Value.agg [zI 0, Value.nilIface].toArray)] _ ?_)
  refine d5 rfl ?_
  refine a7 (fun _ hK_13' => ?_)
  refine a6 ?_
  refine wv (OV.assertNo (t2 := 80) (v := Value.agg [zI p0, st s0, u1, u2].toArray) rfl w9 abp rfl) ?_
  refine wv (OV.extract 1 rfl rfl) ?_
  refine wv (OV.extract 0 rfl rfl) ?_
  refine WL.nil ?_
  refine kg (hK_13' [(0, zP pb), (6, zI (d8 s0)), (38, Value.iface 80 (Value.agg [zI p0, st s0, u1, u2].toArray)), (85, zB false), (86, Value.agg [zI 0, st [], Value.nilIface].toArray)] _ ?_)
  refine d5 rfl ?_
  refine a7 (fun _ hK_14' => ?_)
  refine a6 ?_
  refine wv (OV.assertYes (t' := 80) (v := Value.agg [zI p0, st s0, u1, u2].toArray) rfl x8) ?_
  refine wv (OV.extract 1 rfl rfl) ?_
  refine wv (OV.extract 0 rfl rfl) ?_
  refine WL.nil ?_
  refine kg (hK_14' [(0, zP pb), (6, zI (d8 s0)), (38, Value.iface 80 (Value.agg [zI p0, st s0, u1, u2].toArray)), (98, zB true), (99, Value.agg [zI p0, st s0, u1, u2].toArray)] _ ?_)
  refine f7 rfl ?_
  refine a7 (fun _ hK_15' => ?_)
  refine a6 ?_
  refine WL.make (MV.alloc adj) rfl rfl rfl (fun b_1' => ?_)
  obtain ⟨o_5', h⟩ := h
  obtain ⟨o_6', h⟩ := h
  refine WL.storeW (vs := [zI p0, st s0, u1, u2]) 0 rfl rfl rfl rfl rfl adr rfl (d4 rfl (d4 rfl (d4 o_5' (d4 o_6' o6)))) rfl ?_
  refine WL.nil ?_
  refine kg (hK_15' [(0, zP pb), (6, zI (d8 s0)), (14, zP b_1')] _ ?_)
  refine a7 (fun _ hK_16' => ?_)
  refine a6 ?_
  refine wm ?_
  refine wv (OV.fieldAddr0 rfl ael) ?_
  refine wv (OV.load rfl (At.own 0 rfl) rfl m4) ?_
  refine wm ?_
  obtain ⟨o_7', h⟩ := h
  obtain ⟨o_8', h⟩ := h
  refine WL.pick (H' := [bld 90 5 pb (bl ++ ([40] : List UInt8)), HA.blk b_1' (.cells [zI p0, st s0, u1, u2].toArray 80 (0, 0))]) [1, 0] rfl rfl ?_
  refine WL.call aa0 rfl (o_7' pb (bl ++ ([40] : List UInt8)) (d8 s0) o_8') rfl (ROk.of (fun _ h => h)) rfl rfl ?_
  refine WL.nil ?_
  refine kg (hK_16' [(0, zP pb), (6, zI (d8 s0)), (14, zP b_1')] _ ?_)
  refine a7 (fun _ hK_17' => ?_)
  refine m0 7 [] f0 (by kernel_rfl) rfl (fun T hT => ?_)
  refine fv (fun _ => OV.move rfl) ?_
  refine fv (fun _ => OV.nilCheck rfl) ?_
  refine fv (fun _ => OV.fieldAddr0 rfl j0) ?_
  refine fv (fun _ => OV.fieldAddr0 rfl abm) ?_
  refine fv (fun _ => OV.load rfl (At.own 1 rfl) rfl c7) ?_
  obtain ⟨o_9', h⟩ := h
  refine fv (fun _ => OV.cat rfl rfl o_9') ?_
  obtain ⟨o_10', h⟩ := h
  refine fv (fun _ => OV.cat rfl rfl o_10') ?_
  refine FL.weak (L' := fun γ => [(0, zP pb), (6, zI (d8 s0)), (14, zP b_1'), (107, zP pb), (111, st ((([32] : List UInt8) ++ s0) ++ ([32] : List UInt8)))]) (fun γ => ⟨rfl, rfl, rfl, rfl, rfl, trivial⟩) (FL.nil (hT (fun γ => [(0, zP pb), (6, zI (d8 s0)), (14, zP b_1'), (107, zP pb), (111, st ((([32] : List UInt8) ++ s0) ++ ([32] : List UInt8)))]) (fun γ => ?_)))
  obtain ⟨o_11', h⟩ := h
  refine WL.call n4 rfl (h8 pb ((bl ++ ([40] : List UInt8)) ++ j8 x1 (d8 s0)) ((([32] : List UInt8) ++ s0) ++ ([32] : List UInt8)) o_11') rfl trivial rfl rfl ?_
  refine WL.nil ?_
  refine kg (hK_17' [(0, zP pb), (6, zI (d8 s0)), (14, zP b_1')] _ ?_)
  refine a6 ?_
  refine wm ?_
  refine wv (OV.fieldAddr0 rfl ad9) ?_
  refine wv (OV.load rfl (At.own 1 rfl) rfl m4) ?_
  refine wm ?_
  obtain ⟨o_12', h⟩ := h
  refine wv (OV.add rfl rfl o_12') ?_
  obtain ⟨o_13', h⟩ := h
  obtain ⟨o_14', h⟩ := h
  refine WL.call aa0 rfl (o_13' pb (((bl ++ ([40] : List UInt8)) ++ j8 x1 (d8 s0)) ++ ((([32] : List UInt8) ++ s0) ++ ([32] : List UInt8))) ((d8 s0) + 1) o_14') rfl (ROk.of (fun _ h => h)) rfl rfl ?_
  refine WL.nil ?_
  obtain ⟨o_15', h⟩ := h
  exact hE.norm (ard (A := [bld 90 5 pb ((((bl ++ ([40] : List UInt8)) ++ j8 x1 (d8 s0)) ++ ((([32] : List UInt8) ++ s0) ++ ([32] : List UInt8))) ++ j8 x2 ((d8 s0) + 1))]) (A' := [bld 90 5 pb (((((bl ++ ([40] : List UInt8)) ++ j8 x1 (d8 s0)) ++ ((([32] : List UInt8) ++ s0) ++ ([32] : List UInt8))) ++ j8 x2 ((d8 s0) + 1)) ++ ([41] : List UInt8))]) (Rest := [HA.blk b_1' (.cells [zI p0, st s0, u1, u2].toArray 80 (0, 0))]) [0, 1] rfl rfl n4 (ad7 pb ((((bl ++ ([40] : List UInt8)) ++ j8 x1 (d8 s0)) ++ ((([32] : List UInt8) ++ s0) ++ ([32] : List UInt8))) ++ j8 x2 ((d8 s0) + 1)) ([41] : List UInt8) o_15') trivial [0] rfl rfl (.inl ⟨_, h, rfl⟩) (d7.none rfl))
 ·skip
  refine a7 (fun _ hK_18' => ?_)
  refine a6 ?_
  refine wm ?_
  refine WL.nil ?_
  refine kg (hK_18' [(0, zP pb), (1, Value.iface 80 (Value.agg [zI p0, st s0, u1, u2].toArray)), (2, zI need), (6, zI 6), (18, Value.iface 80 (Value.agg [zI p0, st s0, u1, u2].toArray))] _ ?_)
  refine b7 ?_
  refine a7 (fun _ hK_19' => ?_)
  refine a6 ?_
  refine wv (OV.assertYes (t' := 80) (v := Value.agg [zI p0, st s0, u1, u2].toArray) rfl x8) ?_
  refine wv (OV.extract 1 rfl rfl) ?_
  refine wv (OV.extract 0 rfl rfl) ?_
  refine WL.nil ?_
  refine kg (hK_19' [(0, zP pb), (1, Value.iface 80 (Value.agg [zI p0, st s0, u1, u2].toArray)), (2, zI need), (6, zI 6), (18, Value.iface 80 (Value.agg [zI p0, st s0, u1, u2].toArray)), (20, zB true), (21, Value.agg [zI p0, st s0, u1, u2].toArray)] _ ?_)
  refine f7 rfl ?_
  refine a7 (fun _ hK_20' => ?_)
  refine a6 ?_
  refine WL.make (MV.alloc adj) rfl rfl rfl (fun b_2' => ?_)
  obtain ⟨o_16', h⟩ := h
  obtain ⟨o_17', h⟩ := h
  refine WL.storeW (vs := [zI p0, st s0, u1, u2]) 0 rfl rfl rfl rfl rfl adr rfl (d4 rfl (d4 rfl (d4 o_16' (d4 o_17' o6)))) rfl ?_
  refine WL.nil ?_
  refine kg (hK_20' [(0, zP pb), (1, Value.iface 80 (Value.agg [zI p0, st s0, u1, u2].toArray)), (2, zI need), (7, zP b_2')] _ ?_)
  refine a6 ?_
  refine wv (OV.fieldAddr0 rfl abm) ?_
  refine wv (OV.load rfl (At.own 0 rfl) rfl c7) ?_
  obtain ⟨o_18', h⟩ := h
  refine WL.call (A := []) aij rfl (aiq te fre s0 o_18') rfl ⟨.inr (List.mem_append_right _ (List.mem_of_getElem? (i := 0) rfl)), trivial⟩ rfl rfl ?_
  refine wA ?_
  refine WL.nil ?_
  exact kh (hK_4' () h) [1]
section
variable {te : TypeId} {fre : Nat × Nat} {B : List (Nat × Obj)}
theorem ac4 {pb : Nat} {l : List UInt8} {x : Out} (h : (∃ d : List UInt8, d = l ∧ x = .ret (.tuple #[]) [bld 90 5 pb d]) ∨ False) : x = .ret (.tuple #[]) [bld 90 5 pb l] := by
 rcases h with ⟨d, rfl, rfl⟩ | h
 ·rfl
 ·exact h.elim
theorem ahp {r need : Int} {s : Bs} (h : ¬ r < need) : par r need s = s := if_neg h
theorem arl {r need : Int} {s : Bs} (h : r < need) : par r need s = [40] ++ s ++ [41] := if_pos h
theorem no6 {need : Int} (h : need ≤ 6) : (decide ((6 : Int) < need)) = false := by rw [decide_eq_false_iff_not]; omega
theorem au1 (p : Int) (s : Bs) : aa2 B te fre (.iface 71 (.agg [.int .i64 p, st s].toArray)) (.name p s) := by
 intro pb l need hb
 obtain ⟨hn, hk, hl⟩ := hb
 have hlen := aa7 (.name p s) need hk
 rw [j8, ahp (r := rkX (.name p s)) (show ¬ (6 : Int) < need by omega), v6] at hlen ⊢
 refine (aoi pb te fre B l p s need (fun d => d = l ++ s) ?_).weak fun x h => ac4 h
 unfold afr
 exact ⟨True, fun _ _ => ⟨no6 hn.2, by omega, rfl⟩, trivial⟩
theorem avb (p : Int) (s : Bs) : aa2 B te fre (.iface 73 (.agg [.int .i64 p, st s].toArray)) (.text p s) := by
 intro pb l need hb
 obtain ⟨hn, hk, hl⟩ := hb
 have hlen := aa7 (.text p s) need hk
 rw [OKX] at hk
 rw [j8, ahp (r := rkX (.text p s)) (show ¬ (6 : Int) < need by omega), v6] at hlen ⊢
 refine (an9 pb te fre B l p s need (fun d => d = l ++ adm s) ?_).weak fun x h => ac4 h
 unfold agb
 exact ⟨True, fun _ _ => ⟨no6 hn.2, by omega, by omega, rfl⟩, trivial⟩
theorem atx (p : Int) (s : Bs) : aa2 B te fre (.iface 74 (.agg [.int .i64 p, st s].toArray)) (.regex p s) := by
 intro pb l need hb
 obtain ⟨hn, hk, hl⟩ := hb
 have hlen := aa7 (.regex p s) need hk
 rw [OKX] at hk
 rw [j8, ahp (r := rkX (.regex p s)) (show ¬ (6 : Int) < need by omega), v6] at hlen ⊢
 refine (am9 pb te fre B l p s need (fun d => d = l ++ ([47] ++ s ++ [47])) ?_).weak fun x h => ac4 h
 unfold afb
 refine ⟨True, fun _ _ => ⟨no6 hn.2, ?_⟩, trivial⟩
 simp only [List.length_append, List.length_cons, List.length_nil] at hlen ⊢
 exact ⟨by omega, by omega, by omega, trivial⟩
theorem atd (p : Int) (a : Ex) (u : Value) (h1 : u.oneCell' = true) (h : aa2 B te fre u a) : aa2 B te fre (.iface 76 (.agg [.int .i64 p, u].toArray)) (.keyed p a) := by
 intro pb l need hb
 obtain ⟨hn, hk, hl⟩ := hb
 rw [OKX] at hk
 rw [wX] at hl
 have hlen := aa7 a 0 hk
 rw [j8, ahp (r := rkX (.keyed p a)) (show ¬ (6 : Int) < need by omega), v6]
 refine (an5 pb te fre B l p u need a (fun d => d = l ++ ([123] ++ j8 a 0 ++ [125])) ?_).weak fun x h => ac4 h
 unfold ae2 abj
 simp only [List.length_append, List.length_cons, List.length_nil]
 exact ⟨True, fun _ _ => ⟨no6 hn.2, h1, by omega, h, ⟨by decide, hk, by omega⟩, by omega, by simp only [List.append_assoc]⟩, trivial⟩
theorem atz (p : Int) (o : Bs) (a : Ex) (u : Value) (h1 : u.oneCell' = true) (h : aa2 B te fre u a) : aa2 B te fre (.iface 78 (.agg [.int .i64 p, st o, u].toArray)) (.unary p o a) := by
 intro pb l need hb
 obtain ⟨hn, hk, hl⟩ := hb
 rw [OKX] at hk
 rw [wX] at hl
 have hlen := aa7 a 5 hk.2
 by_cases h5 : (5 : Int) < need
 ·rw [j8, arl (show rkX (.unary p o a) < need from h5), v6]
  refine (alq pb te fre B l p o u need a (fun d => d = l ++ ([40] ++ (j8 a 5 ++ o) ++ [41])) ?_).weak fun x h => ac4 h
  unfold aeg abj
  simp only [List.length_append, List.length_cons, List.length_nil]
  exact ⟨True, fun _ _ => ⟨decide_eq_true h5, by omega, h1, h, ⟨by decide, hk.2, by omega⟩, by omega, by omega, by simp only [List.append_assoc]⟩, h1, trivial⟩
 ·rw [j8, ahp (show ¬ rkX (.unary p o a) < need from h5), v6]
  refine (ana pb te fre B l p o u need a (fun d => d = l ++ (j8 a 5 ++ o)) ?_).weak fun x h => ac4 h
  unfold ae9 abj
  simp only [List.length_append]
  exact ⟨True, fun _ _ => ⟨decide_eq_false h5, h1, h, ⟨by decide, hk.2, by omega⟩, by omega, by simp only [List.append_assoc]⟩, h1, trivial⟩
theorem aq7 (p : Int) (o : Bs) (a b : Ex) (u1 u2 : Value) (h1 : u1.oneCell' = true) (h2 : u2.oneCell' = true) (g1 : aa2 B te fre u1 a) (g2 : aa2 B te fre u2 b) : aa2 B te fre (.iface 80 (.agg [.int .i64 p, st o, u1, u2].toArray)) (.binary p o a b) := by
 intro pb l need hb
 obtain ⟨hn, hk, hl⟩ := hb
 rw [OKX] at hk
 rw [wX] at hl
 obtain ⟨⟨hm, hr⟩, ka, kb⟩ := hk
 have hr4 := (am7 o).2
 have hlen := aa7 a (d8 o) ka
 have hlen2 := aa7 b (d8 o + 1) kb
 have hol := aoh hm
 have hi : I64 (d8 o + 1) := by unfold I64; omega
 by_cases h5 : d8 o < need
 ·rw [j8, arl (show rkX (.binary p o a b) < need from h5), v6]
  refine (ak9 pb te fre B l p o u1 u2 need a b (fun d => d = l ++ ([40] ++ (j8 a (d8 o) ++ ([32] ++ o ++ [32]) ++ j8 b (d8 o + 1)) ++ [41])) ?_).weak fun x h => ac4 h
  unfold adk abj
  simp only [List.length_append, List.length_cons, List.length_nil]
  exact ⟨True, fun _ _ => ⟨decide_eq_true h5, by omega, h1, h2, g1, ⟨by omega, ka, by omega⟩, by omega, by omega, by omega, hi, g2, ⟨by omega, kb, by omega⟩, by omega, by simp only [List.append_assoc]⟩, h1, h2, hm, trivial⟩
 ·rw [j8, ahp (show ¬ rkX (.binary p o a b) < need from h5), v6]
  refine (alt pb te fre B l p o u1 u2 need a b (fun d => d = l ++ (j8 a (d8 o) ++ ([32] ++ o ++ [32]) ++ j8 b (d8 o + 1))) ?_).weak fun x h => ac4 h
  unfold aeb abj
  simp only [List.length_append, List.length_cons, List.length_nil]
  exact ⟨True, fun _ _ => ⟨decide_eq_false h5, h1, h2, g1, ⟨by omega, ka, by omega⟩, by omega, by omega, by omega, hi, g2, ⟨by omega, kb, by omega⟩, by simp only [List.append_assoc]⟩, h1, h2, hm, trivial⟩
theorem au4 (p : Int) (w : Bs) (l : ExL) (us : List Value) (ua : Value) (hI : s9 ua B us.length (us.flatMap acz)) (hlen : us.length = l.len) (g : ∀ i, i < l.len → aa2 B te fre (us.getD i default) (l.toL.getD i default)) : aa2 B te fre (.iface 83 (.agg [.int .i64 p, st w, ua].toArray)) (.call p w l) := by
 intro pb b need hb
 obtain ⟨hn, hk, hl⟩ := hb
 rw [OKX] at hk
 rw [wX] at hl
 have ha := aoj l hk.2
 have hll := akx l
 rw [j8, ahp (r := rkX (.call p w l)) (show ¬ (6 : Int) < need by omega), v6]
 refine (apk pb ua te fre B b p w us need l.toL hI (fun d => d = b ++ (w ++ [40] ++ afn l ++ [41])) ?_).weak fun x h => ac4 h
 unfold af4
 simp only [List.length_append, List.length_cons, List.length_nil]
 refine ⟨True, fun _ _ => ⟨no6 hn.2, by omega, by omega, fun i c => 0 ≤ i ∧ i ≤ us.length ∧ (i.toNat < l.len → c ++ aa5 l i.toNat = b ++ (w ++ [40]) ++ afn l) ∧ (l.len ≤ i.toNat → c = b ++ (w ++ [40]) ++ afn l) ∧ c.length + 20000 * wL (aa5.dropA l i.toNat) ≤ b.length + 4097 + 20000 * wL l, fun i _ => (us.length - i).toNat, ⟨Int.le_refl _, by omega, fun _ => rfl, fun h => ?_, ?_⟩, ?_⟩, trivial⟩
 ·cases l with
  | nil => rw [afn]; simp
  | cons a r => exact absurd h (by show ¬ r.len + 1 ≤ 0; omega)
 ·rw [show (0 : Int).toNat = 0 from rfl, apw]
  simp only [List.length_append, List.length_cons, List.length_nil]
  omega
 ·rintro i c ⟨i0, i1, i2, i3, i4⟩
  by_cases hi : i < us.length
  ·rw [if_pos (decide_eq_true hi)]
   have hil : i.toNat < l.len := by omega
   have i2 := i2 hil
   have ok := hk.2.at hil
   have hw : wL (aa5.dropA l i.toNat) = wX (l.toL.getD i.toNat default) + 1 + wL (aa5.dropA l (i.toNat + 1)) := by rw [alf hil, wL]
   have hc2 : (if 0 < i.toNat then ([44, 32] : Bs) else []).length ≤ 2 := by split <;> decide
   have hpl := aa7 (l.toL.getD i.toNat default) 0 ok.1
   rw [aur hil] at i2
   refine ⟨⟨i0, hi⟩, fun c3 => c3 = c ++ (if 0 < i.toNat then [44, 32] else []), ?_, ?_⟩
   ·rintro c3 rfl
    refine ⟨g _ hil, ⟨by decide, ok.1, ?_⟩, by unfold I64; omega, ⟨by omega, by omega, fun _ => ?_, fun h => ?_, ?_⟩, by show (us.length - (i + 1)).toNat < (us.length - i).toNat; omega⟩
    ·rw [List.length_append]; omega
    ·rw [show (i + 1).toNat = i.toNat + 1 by omega, ← i2]; simp only [List.append_assoc]
    ·have he : aa5 l (i.toNat + 1) = [] := at9 (by omega) (by omega)
     rw [he, List.append_nil] at i2
     rw [← i2]; simp only [List.append_assoc]
    ·rw [show (i + 1).toNat = i.toNat + 1 by omega, List.length_append, List.length_append]; omega
   ·by_cases h0 : 0 < i
    ·rw [if_pos (decide_eq_true h0)]
     rw [if_pos (show 0 < i.toNat by omega)]
     exact ⟨by omega, rfl⟩
    ·rw [if_neg (by rw [decide_eq_true_eq]; exact h0), if_neg (show ¬ 0 < i.toNat by omega), List.append_nil]
  ·rw [if_neg (by rw [decide_eq_true_eq]; exact hi)]
   have h3 := i3 (by omega)
   subst h3
   simp only [List.length_append, List.length_cons, List.length_nil]
   exact ⟨by omega, by simp only [List.append_assoc]⟩
end
mutual
theorem adv {te : TypeId} {fre : Nat × Nat} {B : List (Nat × Obj)} : ∀ (e : Ex) (u : Value), TV B e u → aa2 B te fre u e
 | .name p s, u, h => by rw [TV] at h; subst h; exact au1 p s
 | .text p s, u, h => by rw [TV] at h; subst h; exact avb p s
 | .regex p s, u, h => by rw [TV] at h; subst h; exact atx p s
 | .keyed p a, u, h => by rw [TV] at h; obtain ⟨u1, h1, rfl⟩ := h; exact atd p a u1 h1.one (adv a u1 h1)
 | .unary p o a, u, h => by rw [TV] at h; obtain ⟨u1, h1, rfl⟩ := h; exact atz p o a u1 h1.one (adv a u1 h1)
 | .binary p o a b, u, h => by rw [TV] at h; obtain ⟨u1, u2, h1, h2, rfl⟩ := h; exact aq7 p o a b u1 u2 h1.one h2.one (adv a u1 h1) (adv b u2 h2)
 | .call p w l, u, h => by
  rw [TV] at h
  obtain ⟨us, ua, b, cs, h1, h2, h3, rfl⟩ := h
  exact au4 p w l us ua ⟨_, h2.inSl (aag af9 us), fun p hp => by rw [List.mem_singleton.1 hp]; exact h3⟩ h1.len (aod l us h1)
theorem aod {te : TypeId} {fre : Nat × Nat} {B : List (Nat × Obj)} : ∀ (l : ExL) (us : List Value), TVL B l us → ∀ i, i < l.len → aa2 B te fre (us.getD i default) (l.toL.getD i default)
 | .nil, us, h, i, hi => absurd hi (Nat.not_lt_zero _)
 | .cons a r, us, h, i, hi => by
  rw [TVL] at h
  obtain ⟨u, vs, h1, h2, rfl⟩ := h
  cases i with
  | zero => exact adv a u h1
  | succ i => exact aod r vs h2 i (Nat.lt_of_succ_lt_succ hi)
end
end Go.Proofs.YtifajndacnfcbaaDoor
set_option maxRecDepth 100000
namespace Go.Proofs.YtifajndacnfcbaaDoor
open Go Go.RowKit
theorem asv : RowT Tryd.prog 41 3 := ⟨by kernel_rfl, by kernel_rfl⟩
theorem aps : ab0 Tryd.prog 41 = some [zI 0, st [], Value.nilIface] := by kernel_rfl
theorem apq : o8 Tryd.prog 41 3 = true := by kernel_rfl
theorem ag7 : f6 Tryd.prog 41 1 = some 1 := by kernel_rfl
theorem agr : f6 Tryd.prog 41 2 = some 2 := by kernel_rfl
theorem ath : k9 Tryd.prog 32 = true := by kernel_rfl
def ai2 (te : TypeId) (fre : Nat × Nat) (B : List (Nat × Obj)) (ds : List ac7) (mv : Value) (xm : Ex) (dx : List Ex) (K : (List UInt8) → Prop) : Prop :=
 ∃ (Inv : Int → (List UInt8) → Prop) (mu : Int → (List UInt8) → Nat),
  Inv 0 [] ∧ ∀ (t15_1' : Int) (c_1' : List UInt8), Inv t15_1' c_1' →
   (if (decide (t15_1' < (ds.length : Int))) = true then
    (0 ≤ t15_1' ∧ t15_1' < (ds.length : Int)) ∧
    (((ds.getD (t15_1').toNat default).2.2).oneCell' = true) ∧
    (([108, 101, 116, 32] : List UInt8).length + ((ds.getD (t15_1').toNat default).2.1).length ≤ 9223372036854775807) ∧
    ((([108, 101, 116, 32] : List UInt8) ++ ((ds.getD (t15_1').toNat default).2.1)).length + ([32, 61, 32] : List UInt8).length ≤ 9223372036854775807) ∧
    (c_1'.length + ((([108, 101, 116, 32] : List UInt8) ++ ((ds.getD (t15_1').toNat default).2.1)) ++ ([32, 61, 32] : List UInt8)).length ≤ 140737488355328) ∧
    (aa2 B te fre ((ds.getD (t15_1').toNat default).2.2) (dx.getD (t15_1').toNat default)) ∧
    (abj (c_1' ++ ((([108, 101, 116, 32] : List UInt8) ++ ((ds.getD (t15_1').toNat default).2.1)) ++ ([32, 61, 32] : List UInt8))) (0 : Int) (dx.getD (t15_1').toNat default)) ∧
    (((c_1' ++ ((([108, 101, 116, 32] : List UInt8) ++ ((ds.getD (t15_1').toNat default).2.1)) ++ ([32, 61, 32] : List UInt8))) ++ j8 (dx.getD (t15_1').toNat default) (0 : Int)).length + ([59, 10] : List UInt8).length ≤ 140737488355328) ∧
    (I64 (t15_1' + 1)) ∧
    Inv (t15_1' + 1) (((c_1' ++ ((([108, 101, 116, 32] : List UInt8) ++ ((ds.getD (t15_1').toNat default).2.1)) ++ ([32, 61, 32] : List UInt8))) ++ j8 (dx.getD (t15_1').toNat default) (0 : Int)) ++ ([59, 10] : List UInt8)) ∧ mu (t15_1' + 1) (((c_1' ++ ((([108, 101, 116, 32] : List UInt8) ++ ((ds.getD (t15_1').toNat default).2.1)) ++ ([32, 61, 32] : List UInt8))) ++ j8 (dx.getD (t15_1').toNat default) (0 : Int)) ++ ([59, 10] : List UInt8)) < mu t15_1' c_1'
   else
    (aa2 B te fre mv xm) ∧
    (abj c_1' (0 : Int) xm) ∧
    ((c_1' ++ j8 xm (0 : Int)).length + ([10] : List UInt8).length ≤ 140737488355328) ∧
    K ((c_1' ++ j8 xm (0 : Int)) ++ ([10] : List UInt8)))
theorem ar5 (qb : Nat) (wd : Value) (te : TypeId) (fre : Nat × Nat) (B : List (Nat × Obj)) (ds : List ac7) (mv : Value) (xm : Ex) (dx : List Ex) (hRi1 : s9 wd B ds.length (ds.flatMap aca)) (hqb : (qb, .cells [wd, mv].toArray 39 (0, 0)) ∈ B) (K : (List UInt8) → Prop) (h : ai2 te fre B ds mv xm dx K) :
  d9 Tryd.prog 12 [zP qb] (B ++ [(0, .cells [st ([124] : List UInt8), st ([38, 45] : List UInt8), st ([62, 62] : List UInt8), st ([126] : List UInt8), st ([46] : List UInt8)].toArray te fre)]) [] (fun o => (∃ (v : List UInt8), K v ∧ o = .ret (st v) []) ∨ (False)) := by
 unfold ai2 at h
 refine c8 (n := 50) (L0 := [(0, zP qb)]) Tryd.func12 rfl rfl rfl rfl (fun w0 M Q hE => ?_)
 have hi1 : LIn ⟨50, [], w0, M, (B ++ [(0, .cells [st ([124] : List UInt8), st ([38, 45] : List UInt8), st ([62, 62] : List UInt8), st ([126] : List UInt8), st ([46] : List UInt8)].toArray te fre)])⟩ wd ds.length (ds.flatMap aca) := s9.lin hRi1 (fun p hp => List.mem_append_left _ hp)
 refine a7 (fun _ hK => ?_)
 refine a6 ?_
 refine wA ?_
 refine WL.nil ?_
 refine kg (hK [(0, zP qb)] _ ?_)
 refine a7 (fun _ hK_1' => ?_)
 refine a7 (fun _ hK_2' => ?_)
 refine a6 ?_
 refine wm ?_
 refine wv (OV.eqlPN rfl rfl Tryd.underlying23) ?_
 refine WL.nil ?_
 refine kg (hK_2' [(0, zP qb), (7, zB false)] _ ?_)
 refine d5 rfl ?_
 refine b6 ?_
 refine kg (hK_1' [(0, zP qb)] _ ?_)
 refine a7 (fun _ hK_3' => ?_)
 refine a6 ?_
 refine wv (OV.build rfl (cs := [Value.pointer none, Value.slice none 0 0]) rfl) ?_
 refine WL.make (MV.box (cs := [Value.pointer none, Value.slice none 0 0]) rfl rfl) rfl rfl rfl (fun b => ?_)
 refine WL.asBld 5 ?_
 refine wA ?_
 refine WL.nil ?_
 refine kg (hK_3' [(0, zP qb), (3, zP b)] _ ?_)
 refine a7 (fun _ hK_4' => ?_)
 refine a7 (fun _ hK_5' => ?_)
 refine a6 ?_
 refine wm ?_
 refine wv (OV.nilCheck rfl) ?_
 refine wv (OV.fieldAddr0 rfl aac) ?_
 refine wv (OV.load rfl (At.old (List.mem_append_left _ hqb)) rfl ace) ?_
 refine wv (OV.lenIn hi1 rfl acx) ?_
 refine wm ?_
 refine WL.nil ?_
 refine kg (hK_5' [(0, zP qb), (3, zP b), (13, wd), (14, zI (ds.length : Int)), (15, zI 0)] _ ?_)
 refine b7 ?_
 obtain ⟨Inv, mu, h0, hr⟩ := h
 refine o7 (S := Int × (List UInt8)) (fun σ => Inv σ.1 σ.2) (fun σ => mu σ.1 σ.2) (fun σ => [(0, zP qb), (3, zP b), (13, wd), (14, zI (ds.length : Int)), (15, zI σ.1)]) (fun σ => [bld 90 5 b σ.2]) (0, []) h0 ⟨rfl, rfl, rfl, rfl, rfl, trivial⟩ rfl ?_
 rintro ⟨t15_1', c_1'⟩ hi K0_18' hK_18'
 have h := hr t15_1' c_1' hi
 show WC _ _ _ _ [(0, zP qb), (3, zP b), (13, wd), (14, zI (ds.length : Int)), (15, zI t15_1')] [bld 90 5 b c_1']
 refine a7 (fun _ hK_19' => ?_)
 refine a6 ?_
 refine wv (OV.lss rfl rfl) ?_
 refine WL.nil ?_
 refine kg (hK_19' [(0, zP qb), (3, zP b), (13, wd), (14, zI (ds.length : Int)), (15, zI t15_1'), (16, zB (decide (t15_1' < (ds.length : Int))))] _ ?_)
 refine a7 (fun _ hK_20' => ?_)
 refine b5 (b := decide (t15_1' < (ds.length : Int))) rfl (fun hb => ?_) (fun hb => ?_)
 ·replace h := e8 h hb
  refine b6 ?_
  refine kg (hK_20' [(0, zP qb), (3, zP b), (13, wd), (14, zI (ds.length : Int)), (15, zI t15_1')] _ ?_)
  refine a7 (fun _ hK_21' => ?_)
  refine b7 ?_
  refine a7 (fun _ hK_22' => ?_)
  refine a6 ?_
  obtain ⟨o_17', h⟩ := h
  refine wv (OV.indexIn hi1 rfl rfl acx o_17') ?_
  refine wv (OV.loadInE (f := aca) hi1 rfl aem (by decide) (by omega) asv) ?_
  refine WL.make (MV.alloc aps) rfl rfl rfl (fun b_3' => ?_)
  obtain ⟨o_18', h⟩ := h
  refine WL.storeW (vs := [zI ((ds.getD (t15_1').toNat default).1), st ((ds.getD (t15_1').toNat default).2.1), (ds.getD (t15_1').toNat default).2.2]) 0 rfl rfl rfl rfl rfl apq rfl (d4 rfl (d4 rfl (d4 o_18' o6))) rfl ?_
  refine WL.nil ?_
  refine kg (hK_22' [(0, zP qb), (3, zP b), (5, zP b_3'), (13, wd), (14, zI (ds.length : Int)), (15, zI t15_1')] _ ?_)
  refine a7 (fun _ hK_23' => ?_)
  refine m0 7 [] f0 (by kernel_rfl) rfl (fun T_2' hT_2' => ?_)
  refine fv (fun _ => OV.move rfl) ?_
  refine fv (fun _ => OV.nilCheck rfl) ?_
  refine fv (fun _ => OV.fieldAddr0 rfl j0) ?_
  refine fv (fun _ => OV.fieldAddr0 rfl ag7) ?_
  refine fv (fun _ => OV.load rfl (At.own 0 rfl) rfl c7) ?_
  obtain ⟨o_19', h⟩ := h
  refine fv (fun _ => OV.cat rfl rfl o_19') ?_
  obtain ⟨o_20', h⟩ := h
  refine fv (fun _ => OV.cat rfl rfl o_20') ?_
  refine FL.weak (L' := fun γ => [(0, zP qb), (3, zP b), (5, zP b_3'), (13, wd), (14, zI (ds.length : Int)), (15, zI t15_1'), (21, zP b), (25, st ((([108, 101, 116, 32] : List UInt8) ++ ((ds.getD (t15_1').toNat default).2.1)) ++ ([32, 61, 32] : List UInt8)))]) (fun γ => ⟨rfl, rfl, rfl, rfl, rfl, rfl, rfl, rfl, trivial⟩) (FL.nil (hT_2' (fun γ => [(0, zP qb), (3, zP b), (5, zP b_3'), (13, wd), (14, zI (ds.length : Int)), (15, zI t15_1'), (21, zP b), (25, st ((([108, 101, 116, 32] : List UInt8) ++ ((ds.getD (t15_1').toNat default).2.1)) ++ ([32, 61, 32] : List UInt8)))]) (fun γ => ?_)))
  obtain ⟨o_21', h⟩ := h
  refine WL.pick (H' := [bld 90 5 b c_1', HA.blk b_3' (.cells [zI ((ds.getD (t15_1').toNat default).1), st ((ds.getD (t15_1').toNat default).2.1), (ds.getD (t15_1').toNat default).2.2].toArray 41 (0, 0))]) [1, 0] rfl rfl ?_
  refine WL.call n4 rfl (h8 b c_1' ((([108, 101, 116, 32] : List UInt8) ++ ((ds.getD (t15_1').toNat default).2.1)) ++ ([32, 61, 32] : List UInt8)) o_21') rfl trivial rfl rfl ?_
  refine WL.nil ?_
  refine kg (hK_23' [(0, zP qb), (3, zP b), (5, zP b_3'), (13, wd), (14, zI (ds.length : Int)), (15, zI t15_1')] _ ?_)
  refine a7 (fun _ hK_24' => ?_)
  refine a6 ?_
  refine wm ?_
  refine wv (OV.fieldAddr0 rfl agr) ?_
  refine wv (OV.load rfl (At.own 1 rfl) rfl m4) ?_
  obtain ⟨o_22', h⟩ := h
  obtain ⟨o_23', h⟩ := h
  refine WL.call aa0 rfl (o_22' b (c_1' ++ ((([108, 101, 116, 32] : List UInt8) ++ ((ds.getD (t15_1').toNat default).2.1)) ++ ([32, 61, 32] : List UInt8))) (0 : Int) o_23') rfl (ROk.of (fun _ h => h)) rfl rfl ?_
  refine WL.nil ?_
  refine kg (hK_24' [(0, zP qb), (3, zP b), (13, wd), (14, zI (ds.length : Int)), (15, zI t15_1')] _ ?_)
  refine a6 ?_
  refine wm ?_
  refine wv (OV.nilCheck rfl) ?_
  refine wv (OV.fieldAddr0 rfl j0) ?_
  obtain ⟨o_24', h⟩ := h
  refine WL.call n4 rfl (h8 b ((c_1' ++ ((([108, 101, 116, 32] : List UInt8) ++ ((ds.getD (t15_1').toNat default).2.1)) ++ ([32, 61, 32] : List UInt8))) ++ j8 (dx.getD (t15_1').toNat default) (0 : Int)) ([59, 10] : List UInt8) o_24') rfl trivial rfl rfl ?_
  refine WL.nil ?_
  refine kg (hK_21' [(0, zP qb), (3, zP b), (13, wd), (14, zI (ds.length : Int)), (15, zI t15_1')] _ ?_)
  refine a6 ?_
  obtain ⟨o_25', h⟩ := h
  refine wv (OV.add rfl rfl o_25') ?_
  refine wm ?_
  refine WL.nil ?_
  exact kh (hK_18' (t15_1' + 1, ((c_1' ++ ((([108, 101, 116, 32] : List UInt8) ++ ((ds.getD (t15_1').toNat default).2.1)) ++ ([32, 61, 32] : List UInt8))) ++ j8 (dx.getD (t15_1').toNat default) (0 : Int)) ++ ([59, 10] : List UInt8)) h.1 h.2) [0]
 ·replace h := e9 h hb
  refine l4 ?_
  refine kg (hK_4' [(0, zP qb), (3, zP b)] _ ?_)
  refine a7 (fun _ hK_25' => ?_)
  refine a6 ?_
  refine wm ?_
  refine wm ?_
  refine wv (OV.nilCheck rfl) ?_
  refine wv (OV.fieldAddr0 rfl abr) ?_
  refine wv (OV.load rfl (At.old (List.mem_append_left _ hqb)) rfl m4) ?_
  obtain ⟨o_26', h⟩ := h
  obtain ⟨o_27', h⟩ := h
  refine WL.call aa0 rfl (o_26' b c_1' (0 : Int) o_27') rfl (ROk.of (fun _ h => h)) rfl rfl ?_
  refine WL.nil ?_
  refine kg (hK_25' [(3, zP b)] _ ?_)
  refine a7 (fun _ hK_26' => ?_)
  refine a6 ?_
  refine wm ?_
  refine wv (OV.nilCheck rfl) ?_
  refine wv (OV.fieldAddr0 rfl j0) ?_
  obtain ⟨o_28', h⟩ := h
  refine WL.call n4 rfl (h8 b (c_1' ++ j8 xm (0 : Int)) ([10] : List UInt8) o_28') rfl trivial rfl rfl ?_
  refine WL.nil ?_
  refine kg (hK_26' [(3, zP b)] _ ?_)
  refine a7 (fun _ hK_27' => ?_)
  refine a6 ?_
  refine wm ?_
  refine wv (OV.nilCheck rfl) ?_
  refine wv (OV.fieldAddr0 rfl j0) ?_
  refine WL.call ath rfl (aow b ((c_1' ++ j8 xm (0 : Int)) ++ ([10] : List UInt8))) rfl trivial rfl rfl ?_
  refine wA ?_
  refine WL.nil ?_
  refine kg (hK_27' [(2, st ((c_1' ++ j8 xm (0 : Int)) ++ ([10] : List UInt8)))] _ ?_)
  refine b8 ?_
  exact hE.ret [] rfl rfl (.inl ⟨_, h, rfl⟩) (d7.of1 rfl (RV.tmp rfl))
def auo (d : t8) : Bs := [108, 101, 116, 32] ++ d.2.1 ++ [32, 61, 32] ++ j8 d.2.2 0 ++ [59, 10]
def ajy (l : List t8) : Bs := l.flatMap auo
def afq (l : List t8) (a : Ex) : Bs := ajy l ++ j8 a 0 ++ [10]
def wD : List t8 → Nat
 | [] => 0
 | d :: r => 1 + wX d.2.2 + wD r
def OKP (l : List t8) (a : Ex) : Prop := (∀ d ∈ l, d.2.1.length ≤ 4096 ∧ OKX d.2.2) ∧ OKX a ∧ wD l + wX a ≤ 100000
theorem avk {d : t8} (h : d.2.1.length ≤ 4096 ∧ OKX d.2.2) : (auo d).length ≤ 20000 * (1 + wX d.2.2) := by
 have := aa7 d.2.2 0 h.2
 unfold auo
 simp only [List.length_append, List.length_cons, List.length_nil]; omega
theorem ait : ∀ {l : List t8}, (∀ d ∈ l, d.2.1.length ≤ 4096 ∧ OKX d.2.2) → (ajy l).length ≤ 20000 * wD l
 | [], _ => Nat.le_refl _
 | d :: r, h => by
  have h1 := avk (h d List.mem_cons_self)
  have h2 := ait fun x hx => h x (List.mem_cons_of_mem _ hx)
  unfold ajy at h2 ⊢
  rw [List.flatMap_cons, List.length_append, wD]; omega
theorem arn : ∀ (l : List t8) (i : Nat), wD (l.take i) ≤ wD l
 | [], i => by rw [List.take_nil]; exact Nat.le_refl _
 | d :: r, 0 => Nat.zero_le _
 | d :: r, i + 1 => by have := arn r i; rw [List.take_succ_cons, wD, wD]; omega
theorem avl : ∀ {l : List t8} {i : Nat}, i < l.length → 1 + wX (l.getD i default).2.2 ≤ wD l
 | d :: r, 0, _ => by rw [wD]; show 1 + wX d.2.2 ≤ _; omega
 | d :: r, i + 1, h => by have := avl (Nat.lt_of_succ_lt_succ h); rw [wD]; show 1 + wX (r.getD i default).2.2 ≤ _; omega
theorem ai3 : ∀ l : List t8, l.length ≤ wD l
 | [] => Nat.zero_le _
 | d :: r => by have := ai3 r; rw [wD, List.length_cons]; omega
theorem TDs.at {B : List (Nat × Obj)} : ∀ {l : List t8} {ds : List ac7} {i : Nat}, TDs B l ds → i < l.length → (ds.getD i default).1 = (l.getD i default).1 ∧ (ds.getD i default).2.1 = (l.getD i default).2.1 ∧ TV B (l.getD i default).2.2 (ds.getD i default).2.2
 | d :: r, x :: s, 0, h, _ => h.1
 | d :: r, x :: s, i + 1, h, hi => by
  show (s.getD i default).1 = (r.getD i default).1 ∧ (s.getD i default).2.1 = (r.getD i default).2.1 ∧ TV B (r.getD i default).2.2 (s.getD i default).2.2
  exact TDs.at h.2 (Nat.lt_of_succ_lt_succ hi)
 | d :: r, [], _, h, _ => h.elim
theorem aq8 {l : List t8} {i : Nat} (h : i < l.length) : ajy (l.take (i + 1)) = ajy (l.take i) ++ auo (l.getD i default) := by
 unfold ajy
 rw [List.take_add_one, List.flatMap_append, List.getElem?_eq_getElem h, List.getD_eq_getElem?_getD, List.getElem?_eq_getElem h]
 simp
theorem axm {l : List t8} {i : Nat} (h : i < l.length) : (l.map (fun d => d.2.2)).getD i default = (l.getD i default).2.2 := by
 rw [List.getD_eq_getElem?_getD, List.getD_eq_getElem?_getD, List.getElem?_map, List.getElem?_eq_getElem h]; rfl
theorem ax4 {l : List t8} {i : Nat} (h : i < l.length) : l.getD i default ∈ l := by
 rw [List.getD_eq_getElem?_getD, List.getElem?_eq_getElem h]; exact List.getElem_mem h
theorem aqe (te : TypeId) (fre : Nat × Nat) (B : List (Nat × Obj)) (b : Nat) (w m : Value) (ds : List ac7) (B1 : List (Nat × Obj)) (l : List t8) (a : Ex) (h : ag0 B b w m ds B1 l a ∧ OKP l a) :
  d9 Tryd.prog 12 [.pointer (some ⟨b, 0, none⟩)] (B ++ ad4 te fre) [] (Ret (st (afq l a)) []) := by
 obtain ⟨⟨h1, h2, h3, h4, h5⟩, k1, k2, k3⟩ := h
 have hl := h1.len
 have hdl := ait k1
 have hll := ai3 l
 have hal := aa7 a 0 k2
 refine (ar5 b w te fre B ds m a (l.map fun d => d.2.2) ⟨_, h3.inSl (aag aem ds), h4⟩ h5 (fun d => d = afq l a) ?_).weak ?_
 ·unfold ai2
  refine ⟨fun i c => 0 ≤ i ∧ i ≤ ds.length ∧ c = ajy (l.take i.toNat), fun i _ => (ds.length - i).toNat, ⟨Int.le_refl _, by omega, rfl⟩, ?_⟩
  rintro i c ⟨i0, i1, rfl⟩
  have hpl := ait (l := l.take i.toNat) fun d hd => k1 d (List.mem_of_mem_take hd)
  have hpt := arn l i.toNat
  by_cases hi : i < ds.length
  ·rw [if_pos (decide_eq_true hi)]
   have hil : i.toNat < l.length := by omega
   obtain ⟨t1, t2, t3⟩ := h1.at hil
   have hw := avl hil
   have hk := k1 _ (ax4 hil)
   have hp := aa7 _ 0 hk.2
   rw [axm hil, t2]
   simp only [List.length_append, List.length_cons, List.length_nil]
   refine ⟨⟨i0, hi⟩, t3.one, by omega, by omega, by omega, adv _ _ t3, ⟨by decide, hk.2, ?_⟩, by omega, by unfold I64; omega, ⟨by omega, by omega, ?_⟩, by show (ds.length - (i + 1)).toNat < (ds.length - i).toNat; omega⟩
   ·simp only [List.length_append, List.length_cons, List.length_nil]; omega
   ·rw [show (i + 1).toNat = i.toNat + 1 by omega, aq8 hil]
    unfold auo
    simp only [List.append_assoc]
  ·rw [if_neg (by rw [decide_eq_true_eq]; exact hi)]
   rw [List.take_of_length_le (by omega)]
   exact ⟨adv _ _ h2, ⟨by decide, k2, by omega⟩, by simp only [List.length_append, List.length_cons, List.length_nil]; omega, rfl⟩
 ·rintro x (⟨d, rfl, rfl⟩ | h)
  ·rfl
  ·exact h.elim
end Go.Proofs.YtifajndacnfcbaaDoor
