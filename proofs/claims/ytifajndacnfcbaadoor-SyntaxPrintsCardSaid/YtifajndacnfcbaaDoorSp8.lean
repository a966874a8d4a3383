/-
  Merged: SyO, SyN, SyS, SyG, SyH, SyI, SyJ, SyL, SyR.
-/
import Derived.Test.YtifajndacnfcbaaDoorSp7
set_option maxRecDepth 100000
namespace Go.Proofs.YtifajndacnfcbaaDoor
open Go Go.RowKit
theorem aaf : afd Tryd.prog 80 = true := by kernel_rfl
theorem acf : ag3 Tryd.prog 80 = some (Value.agg [zI 0, st [], Value.nilIface, Value.nilIface].toArray) := by kernel_rfl
theorem aae : afd Tryd.prog 78 = true := by kernel_rfl
theorem acb : ag3 Tryd.prog 78 = some (Value.agg [zI 0, st [], Value.nilIface].toArray) := by kernel_rfl
theorem abi : afd Tryd.prog 71 = true := by kernel_rfl
theorem app : abf Tryd.prog 71 = some [zI 0, st []] := by kernel_rfl
theorem aqj : o7 Tryd.prog 71 2 = true := by kernel_rfl
theorem j6 : e9 Tryd.prog 90 0 = some 0 := by kernel_rfl
theorem alb : e9 Tryd.prog 71 1 = some 1 := by kernel_rfl
theorem n3 : l6 Tryd.prog 30 = true := by kernel_rfl
theorem ace : ag3 Tryd.prog 71 = some (Value.agg [zI 0, st []].toArray) := by kernel_rfl
theorem acc : afd Tryd.prog 73 = true := by kernel_rfl
theorem apo : abf Tryd.prog 73 = some [zI 0, st []] := by kernel_rfl
theorem aq5 : o7 Tryd.prog 73 2 = true := by kernel_rfl
theorem ak4 : e9 Tryd.prog 73 1 = some 1 := by kernel_rfl
theorem atm : l6 Tryd.prog 56 = true := by kernel_rfl
theorem acv : ag3 Tryd.prog 73 = some (Value.agg [zI 0, st []].toArray) := by kernel_rfl
theorem ac0 : afd Tryd.prog 74 = true := by kernel_rfl
theorem aqy : abf Tryd.prog 74 = some [zI 0, st []] := by kernel_rfl
theorem aqz : o7 Tryd.prog 74 2 = true := by kernel_rfl
theorem alq : e9 Tryd.prog 74 1 = some 1 := by kernel_rfl
theorem ad6 : ag3 Tryd.prog 74 = some (Value.agg [zI 0, st []].toArray) := by kernel_rfl
theorem ad1 : afd Tryd.prog 76 = true := by kernel_rfl
theorem apx : abf Tryd.prog 76 = some [zI 0, Value.nilIface] := by kernel_rfl
theorem ap6 : o7 Tryd.prog 76 2 = true := by kernel_rfl
theorem akx : e9 Tryd.prog 76 1 = some 1 := by kernel_rfl
theorem t7 : aaa Tryd.prog 37 = true := by kernel_rfl
theorem aan : l6 Tryd.prog 31 = true := by kernel_rfl
theorem aer : abf Tryd.prog 78 = some [zI 0, st [], Value.nilIface] := by kernel_rfl
theorem aem : o7 Tryd.prog 78 3 = true := by kernel_rfl
theorem ae0 : ag3 Tryd.prog 76 = some (Value.agg [zI 0, Value.nilIface].toArray) := by kernel_rfl
theorem af5 : e9 Tryd.prog 78 2 = some 2 := by kernel_rfl
theorem af6 : e9 Tryd.prog 78 1 = some 1 := by kernel_rfl
theorem aed : abf Tryd.prog 80 = some [zI 0, st [], Value.nilIface, Value.nilIface] := by kernel_rfl
theorem aes : o7 Tryd.prog 80 4 = true := by kernel_rfl
theorem ab3 : e9 Tryd.prog 80 1 = some 1 := by kernel_rfl
theorem af7 : e9 Tryd.prog 80 2 = some 2 := by kernel_rfl
theorem aga : e9 Tryd.prog 80 3 = some 3 := by kernel_rfl
theorem au8 : afd Tryd.prog 83 = true := by kernel_rfl
theorem alg : e9 Tryd.prog 83 1 = some 1 := by kernel_rfl
def afj (bl : List UInt8) (_ : Int) (s0 : List UInt8) (need : Int) (K : (List UInt8) → Prop) : Prop :=
 ∃ (J0 : Prop),
  (∀ (_ : Unit), J0 →
   ((decide (6 < need)) = false) ∧
   (bl.length + s0.length ≤ 140737488355328) ∧
   K (bl ++ s0)) ∧
  J0
theorem aoc (pb : Nat) (te : TypeId) (fre : Nat × Nat) (B : List (Nat × Obj)) (bl : List UInt8) (p0 : Int) (s0 : List UInt8) (need : Int) (K : (List UInt8) → Prop) (h : afj bl p0 s0 need K) :
  d7 Tryd.prog 31 [zP pb, Value.iface 71 (Value.agg [zI p0, st s0].toArray), zI need] (B ++ [(0, .cells [st ([124] : List UInt8), st ([38, 45] : List UInt8), st ([62, 62] : List UInt8), st ([126] : List UInt8), st ([46] : List UInt8)].toArray te fre)]) [bld 90 5 pb bl] (fun o => (∃ (d : List UInt8), K d ∧ o = .ret (Value.tuple #[]) [bld 90 5 pb d]) ∨ (False)) := by
 unfold afj at h
 refine t8 (n := 151) (L0 := [(0, zP pb), (1, Value.iface 71 (Value.agg [zI p0, st s0].toArray)), (2, zI need)]) Tryd.func31 rfl rfl rfl rfl (fun w0 M Q hE => ?_)
 refine a7 (fun _ hK => ?_)
 refine a6 ?_
 refine wA ?_
 refine WL.nil ?_
 refine kg (hK [(0, zP pb), (1, Value.iface 71 (Value.agg [zI p0, st s0].toArray)), (2, zI need), (6, zI 6)] _ ?_)
 obtain ⟨J0, hJ, h⟩ := h
 refine l4 (X := Unit) (fun _ => J0) (fun _ => [(0, zP pb), (1, Value.iface 71 (Value.agg [zI p0, st s0].toArray)), (2, zI need), (6, zI 6)]) (fun _ => [bld 90 5 pb bl]) ?_ (fun K0_4' hK_4' => ?_)
 ·rintro _ hj
  replace h := hJ () hj
  show WC _ _ _ _ [(0, zP pb), (1, Value.iface 71 (Value.agg [zI p0, st s0].toArray)), (2, zI need), (6, zI 6)] [bld 90 5 pb bl]
  refine a7 (fun _ hK_5' => ?_)
  refine a7 (fun _ hK_6' => ?_)
  refine a6 ?_
  refine wm ?_
  refine wm ?_
  refine wv (OV.lss rfl rfl) ?_
  refine WL.nil ?_
  refine kg (hK_6' [(0, zP pb), (1, Value.iface 71 (Value.agg [zI p0, st s0].toArray)), (6, zI 6), (30, zB (decide (6 < need)))] _ ?_)
  obtain ⟨o, h⟩ := h
  refine a8 (b := decide (6 < need)) rfl (fun hb => ?_) (fun hb => ?_)
  ·rw [o] at hb; cases hb
  refine b5 ?_
  refine kg (hK_5' [(0, zP pb), (1, Value.iface 71 (Value.agg [zI p0, st s0].toArray)), (6, zI 6)] _ ?_)
  refine a7 (fun _ hK_7' => ?_)
  refine a6 ?_
  refine wm ?_
  refine WL.nil ?_
  refine kg (hK_7' [(0, zP pb), (6, zI 6), (38, Value.iface 71 (Value.agg [zI p0, st s0].toArray))] _ ?_)
  refine b7 ?_
  refine a7 (fun _ hK_8' => ?_)
  refine a6 ?_
  refine wv (OV.assertYes (t' := 71) (v := Value.agg [zI p0, st s0].toArray) rfl abi) ?_
  refine wv (OV.extract 1 rfl rfl) ?_
  refine wv (OV.extract 0 rfl rfl) ?_
  refine WL.nil ?_
  refine kg (hK_8' [(0, zP pb), (6, zI 6), (38, Value.iface 71 (Value.agg [zI p0, st s0].toArray)), (40, zB true), (41, Value.agg [zI p0, st s0].toArray)] _ ?_)
  refine h8 rfl ?_
  refine a7 (fun _ hK_9' => ?_)
  refine a6 ?_
  refine WL.make (MV.alloc app) rfl rfl rfl (fun b => ?_)
  refine WL.storeW (vs := [zI p0, st s0]) 0 rfl rfl rfl rfl rfl aqj rfl rfl rfl ?_
  refine WL.nil ?_
  refine kg (hK_9' [(0, zP pb), (9, zP b)] _ ?_)
  refine k8 5 [] f0 (by kernel_rfl) rfl (fun T hT => ?_)
  refine fv (fun _ => OV.move rfl) ?_
  refine fv (fun _ => OV.nilCheck rfl) ?_
  refine fv (fun _ => OV.fieldAddr0 rfl j6) ?_
  refine fv (fun _ => OV.fieldAddr0 rfl alb) ?_
  refine fv (fun _ => OV.load rfl (At.own 0 rfl) rfl c6) ?_
  refine FL.weak (L' := fun γ => [(44, zP pb), (46, st s0)]) (fun γ => ⟨rfl, rfl, trivial⟩) (FL.nil (hT (fun γ => [(44, zP pb), (46, st s0)]) (fun γ => ?_)))
  obtain ⟨o_1', h⟩ := h
  refine WL.pick (H' := [bld 90 5 pb bl, HA.blk b (.cells [zI p0, st s0].toArray 71 (0, 0))]) [1, 0] rfl rfl ?_
  refine WL.call n3 rfl (j0 pb bl s0 o_1') rfl trivial rfl rfl ?_
  refine WL.nil ?_
  exact hE.norm (adf [0] rfl rfl (.inl ⟨_, h, rfl⟩) (d6.none rfl))
 ·skip
  refine a7 (fun _ hK_10' => ?_)
  refine a6 ?_
  refine wm ?_
  refine WL.nil ?_
  refine kg (hK_10' [(0, zP pb), (1, Value.iface 71 (Value.agg [zI p0, st s0].toArray)), (2, zI need), (6, zI 6), (18, Value.iface 71 (Value.agg [zI p0, st s0].toArray))] _ ?_)
  refine b7 ?_
  refine a7 (fun _ hK_11' => ?_)
  refine a6 ?_
  refine wv (OV.assertNo (t2 := 71) (v := Value.agg [zI p0, st s0].toArray) rfl aaf acf rfl) ?_
  refine wv (OV.extract 1 rfl rfl) ?_
  refine wv (OV.extract 0 rfl rfl) ?_
  refine WL.nil ?_
  refine kg (hK_11' [(0, zP pb), (1, Value.iface 71 (Value.agg [zI p0, st s0].toArray)), (2, zI need), (6, zI 6), (18, Value.iface 71 (Value.agg [zI p0, st s0].toArray)), (20, zB false), (21, Value.agg [zI 0, st [], Value.nilIface, Value.nilIface].toArray)] _ ?_)
  refine e8 rfl ?_
  refine a7 (fun _ hK_12' => ?_)
  refine a6 ?_
  refine wv (OV.assertNo (t2 := 71) (v := Value.agg [zI p0, st s0].toArray) rfl aae acb rfl) ?_
  refine wv (OV.extract 1 rfl rfl) ?_
  refine wv (OV.extract 0 rfl rfl) ?_
  refine WL.nil ?_
  refine kg (hK_12' [(0, zP pb), (1, Value.iface 71 (Value.agg [zI p0, st s0].toArray)), (2, zI need), (6, zI 6), (26, zB false), (27, Value.agg [zI 0, st [], Value.nilIface].toArray)] _ ?_)
  refine e8 rfl ?_
  refine b5 ?_
  exact kh (hK_4' () h) [0]
def aey (bl : List UInt8) (_ : Int) (s0 : List UInt8) (need : Int) (K : (List UInt8) → Prop) : Prop :=
 ∃ (J0 : Prop),
  (∀ (_ : Unit), J0 →
   ((decide (6 < need)) = false) ∧
   (s0.length ≤ 1048576) ∧
   (bl.length + (abc s0).length ≤ 140737488355328) ∧
   K (bl ++ (abc s0))) ∧
  J0
theorem ao2 (pb : Nat) (te : TypeId) (fre : Nat × Nat) (B : List (Nat × Obj)) (bl : List UInt8) (p0 : Int) (s0 : List UInt8) (need : Int) (K : (List UInt8) → Prop) (h : aey bl p0 s0 need K) :
  d7 Tryd.prog 31 [zP pb, Value.iface 73 (Value.agg [zI p0, st s0].toArray), zI need] (B ++ [(0, .cells [st ([124] : List UInt8), st ([38, 45] : List UInt8), st ([62, 62] : List UInt8), st ([126] : List UInt8), st ([46] : List UInt8)].toArray te fre)]) [bld 90 5 pb bl] (fun o => (∃ (d : List UInt8), K d ∧ o = .ret (Value.tuple #[]) [bld 90 5 pb d]) ∨ (False)) := by
 unfold aey at h
 refine t8 (n := 151) (L0 := [(0, zP pb), (1, Value.iface 73 (Value.agg [zI p0, st s0].toArray)), (2, zI need)]) Tryd.func31 rfl rfl rfl rfl (fun w0 M Q hE => ?_)
 refine a7 (fun _ hK => ?_)
 refine a6 ?_
 refine wA ?_
 refine WL.nil ?_
 refine kg (hK [(0, zP pb), (1, Value.iface 73 (Value.agg [zI p0, st s0].toArray)), (2, zI need), (6, zI 6)] _ ?_)
 obtain ⟨J0, hJ, h⟩ := h
 refine l4 (X := Unit) (fun _ => J0) (fun _ => [(0, zP pb), (1, Value.iface 73 (Value.agg [zI p0, st s0].toArray)), (2, zI need), (6, zI 6)]) (fun _ => [bld 90 5 pb bl]) ?_ (fun K0_4' hK_4' => ?_)
 ·rintro _ hj
  replace h := hJ () hj
  show WC _ _ _ _ [(0, zP pb), (1, Value.iface 73 (Value.agg [zI p0, st s0].toArray)), (2, zI need), (6, zI 6)] [bld 90 5 pb bl]
  refine a7 (fun _ hK_5' => ?_)
  refine a7 (fun _ hK_6' => ?_)
  refine a6 ?_
  refine wm ?_
  refine wm ?_
  refine wv (OV.lss rfl rfl) ?_
  refine WL.nil ?_
  refine kg (hK_6' [(0, zP pb), (1, Value.iface 73 (Value.agg [zI p0, st s0].toArray)), (6, zI 6), (30, zB (decide (6 < need)))] _ ?_)
  obtain ⟨o, h⟩ := h
  refine a8 (b := decide (6 < need)) rfl (fun hb => ?_) (fun hb => ?_)
  ·rw [o] at hb; cases hb
  refine b5 ?_
  refine kg (hK_5' [(0, zP pb), (1, Value.iface 73 (Value.agg [zI p0, st s0].toArray)), (6, zI 6)] _ ?_)
  refine a7 (fun _ hK_7' => ?_)
  refine a6 ?_
  refine wm ?_
  refine WL.nil ?_
  refine kg (hK_7' [(0, zP pb), (6, zI 6), (38, Value.iface 73 (Value.agg [zI p0, st s0].toArray))] _ ?_)
  refine b7 ?_
  refine a7 (fun _ hK_8' => ?_)
  refine a6 ?_
  refine wv (OV.assertNo (t2 := 73) (v := Value.agg [zI p0, st s0].toArray) rfl abi ace rfl) ?_
  refine wv (OV.extract 1 rfl rfl) ?_
  refine wv (OV.extract 0 rfl rfl) ?_
  refine WL.nil ?_
  refine kg (hK_8' [(0, zP pb), (6, zI 6), (38, Value.iface 73 (Value.agg [zI p0, st s0].toArray)), (40, zB false), (41, Value.agg [zI 0, st []].toArray)] _ ?_)
  refine e8 rfl ?_
  refine a7 (fun _ hK_9' => ?_)
  refine a6 ?_
  refine wv (OV.assertYes (t' := 73) (v := Value.agg [zI p0, st s0].toArray) rfl acc) ?_
  refine wv (OV.extract 1 rfl rfl) ?_
  refine wv (OV.extract 0 rfl rfl) ?_
  refine WL.nil ?_
  refine kg (hK_9' [(0, zP pb), (6, zI 6), (38, Value.iface 73 (Value.agg [zI p0, st s0].toArray)), (49, zB true), (50, Value.agg [zI p0, st s0].toArray)] _ ?_)
  refine h8 rfl ?_
  refine a7 (fun _ hK_10' => ?_)
  refine a6 ?_
  refine WL.make (MV.alloc apo) rfl rfl rfl (fun b => ?_)
  refine WL.storeW (vs := [zI p0, st s0]) 0 rfl rfl rfl rfl rfl aq5 rfl rfl rfl ?_
  refine WL.nil ?_
  refine kg (hK_10' [(0, zP pb), (10, zP b)] _ ?_)
  refine k8 6 [] f0 (by kernel_rfl) rfl (fun T hT => ?_)
  refine fv (fun _ => OV.move rfl) ?_
  refine fv (fun _ => OV.nilCheck rfl) ?_
  refine fv (fun _ => OV.fieldAddr0 rfl j6) ?_
  refine fv (fun _ => OV.fieldAddr0 rfl ak4) ?_
  refine fv (fun _ => OV.load rfl (At.own 0 rfl) rfl c6) ?_
  obtain ⟨o_1', h⟩ := h
  refine FL.call atm (fun _ => rfl) (ap7 s0 o_1') trivial rfl (fun _ => rfl) rfl ?_
  refine FL.weak (L' := fun γ => [(53, zP pb), (56, st (abc s0))]) (fun γ => ⟨rfl, rfl, trivial⟩) (FL.nil (hT (fun γ => [(53, zP pb), (56, st (abc s0))]) (fun γ => ?_)))
  obtain ⟨o_2', h⟩ := h
  refine WL.pick (H' := [bld 90 5 pb bl, HA.blk b (.cells [zI p0, st s0].toArray 73 (0, 0))]) [1, 0] rfl rfl ?_
  refine WL.call n3 rfl (j0 pb bl (abc s0) o_2') rfl trivial rfl rfl ?_
  refine WL.nil ?_
  exact hE.norm (adf [0] rfl rfl (.inl ⟨_, h, rfl⟩) (d6.none rfl))
 ·skip
  refine a7 (fun _ hK_11' => ?_)
  refine a6 ?_
  refine wm ?_
  refine WL.nil ?_
  refine kg (hK_11' [(0, zP pb), (1, Value.iface 73 (Value.agg [zI p0, st s0].toArray)), (2, zI need), (6, zI 6), (18, Value.iface 73 (Value.agg [zI p0, st s0].toArray))] _ ?_)
  refine b7 ?_
  refine a7 (fun _ hK_12' => ?_)
  refine a6 ?_
  refine wv (OV.assertNo (t2 := 73) (v := Value.agg [zI p0, st s0].toArray) rfl aaf acf rfl) ?_
  refine wv (OV.extract 1 rfl rfl) ?_
  refine wv (OV.extract 0 rfl rfl) ?_
  refine WL.nil ?_
  refine kg (hK_12' [(0, zP pb), (1, Value.iface 73 (Value.agg [zI p0, st s0].toArray)), (2, zI need), (6, zI 6), (18, Value.iface 73 (Value.agg [zI p0, st s0].toArray)), (20, zB false), (21, Value.agg [zI 0, st [], Value.nilIface, Value.nilIface].toArray)] _ ?_)
  refine e8 rfl ?_
  refine a7 (fun _ hK_13' => ?_)
  refine a6 ?_
  refine wv (OV.assertNo (t2 := 73) (v := Value.agg [zI p0, st s0].toArray) rfl aae acb rfl) ?_
  refine wv (OV.extract 1 rfl rfl) ?_
  refine wv (OV.extract 0 rfl rfl) ?_
  refine WL.nil ?_
  refine kg (hK_13' [(0, zP pb), (1, Value.iface 73 (Value.agg [zI p0, st s0].toArray)), (2, zI need), (6, zI 6), (26, zB false), (27, Value.agg [zI 0, st [], Value.nilIface].toArray)] _ ?_)
  refine e8 rfl ?_
  refine b5 ?_
  exact kh (hK_4' () h) [0]
def aei (bl : List UInt8) (_ : Int) (s0 : List UInt8) (need : Int) (K : (List UInt8) → Prop) : Prop :=
 ∃ (J0 : Prop),
  (∀ (_ : Unit), J0 →
   ((decide (6 < need)) = false) ∧
   (([47] : List UInt8).length + s0.length ≤ 9223372036854775807) ∧
   ((([47] : List UInt8) ++ s0).length + ([47] : List UInt8).length ≤ 9223372036854775807) ∧
   (bl.length + ((([47] : List UInt8) ++ s0) ++ ([47] : List UInt8)).length ≤ 140737488355328) ∧
   K (bl ++ ((([47] : List UInt8) ++ s0) ++ ([47] : List UInt8)))) ∧
  J0
theorem anr (pb : Nat) (te : TypeId) (fre : Nat × Nat) (B : List (Nat × Obj)) (bl : List UInt8) (p0 : Int) (s0 : List UInt8) (need : Int) (K : (List UInt8) → Prop) (h : aei bl p0 s0 need K) :
  d7 Tryd.prog 31 [zP pb, Value.iface 74 (Value.agg [zI p0, st s0].toArray), zI need] (B ++ [(0, .cells [st ([124] : List UInt8), st ([38, 45] : List UInt8), st ([62, 62] : List UInt8), st ([126] : List UInt8), st ([46] : List UInt8)].toArray te fre)]) [bld 90 5 pb bl] (fun o => (∃ (d : List UInt8), K d ∧ o = .ret (Value.tuple #[]) [bld 90 5 pb d]) ∨ (False)) := by
 unfold aei at h
 refine t8 (n := 151) (L0 := [(0, zP pb), (1, Value.iface 74 (Value.agg [zI p0, st s0].toArray)), (2, zI need)]) Tryd.func31 rfl rfl rfl rfl (fun w0 M Q hE => ?_)
 refine a7 (fun _ hK => ?_)
 refine a6 ?_
 refine wA ?_
 refine WL.nil ?_
 refine kg (hK [(0, zP pb), (1, Value.iface 74 (Value.agg [zI p0, st s0].toArray)), (2, zI need), (6, zI 6)] _ ?_)
 obtain ⟨J0, hJ, h⟩ := h
 refine l4 (X := Unit) (fun _ => J0) (fun _ => [(0, zP pb), (1, Value.iface 74 (Value.agg [zI p0, st s0].toArray)), (2, zI need), (6, zI 6)]) (fun _ => [bld 90 5 pb bl]) ?_ (fun K0_4' hK_4' => ?_)
 ·rintro _ hj
  replace h := hJ () hj
  show WC _ _ _ _ [(0, zP pb), (1, Value.iface 74 (Value.agg [zI p0, st s0].toArray)), (2, zI need), (6, zI 6)] [bld 90 5 pb bl]
  refine a7 (fun _ hK_5' => ?_)
  refine a7 (fun _ hK_6' => ?_)
  refine a6 ?_
  refine wm ?_
  refine wm ?_
  refine wv (OV.lss rfl rfl) ?_
  refine WL.nil ?_
  refine kg (hK_6' [(0, zP pb), (1, Value.iface 74 (Value.agg [zI p0, st s0].toArray)), (6, zI 6), (30, zB (decide (6 < need)))] _ ?_)
  obtain ⟨o, h⟩ := h
  refine a8 (b := decide (6 < need)) rfl (fun hb => ?_) (fun hb => ?_)
  ·rw [o] at hb; cases hb
  refine b5 ?_
  refine kg (hK_5' [(0, zP pb), (1, Value.iface 74 (Value.agg [zI p0, st s0].toArray)), (6, zI 6)] _ ?_)
  refine a7 (fun _ hK_7' => ?_)
  refine a6 ?_
  refine wm ?_
  refine WL.nil ?_
  refine kg (hK_7' [(0, zP pb), (6, zI 6), (38, Value.iface 74 (Value.agg [zI p0, st s0].toArray))] _ ?_)
  refine b7 ?_
  refine a7 (fun _ hK_8' => ?_)
  refine a6 ?_
  refine wv (OV.assertNo (t2 := 74) (v := Value.agg [zI p0, st s0].toArray) rfl abi ace rfl) ?_
  refine wv (OV.extract 1 rfl rfl) ?_
  refine wv (OV.extract 0 rfl rfl) ?_
  refine WL.nil ?_
  refine kg (hK_8' [(0, zP pb), (6, zI 6), (38, Value.iface 74 (Value.agg [zI p0, st s0].toArray)), (40, zB false), (41, Value.agg [zI 0, st []].toArray)] _ ?_)
  refine e8 rfl ?_
  refine a7 (fun _ hK_9' => ?_)
  refine a6 ?_
  refine wv (OV.assertNo (t2 := 74) (v := Value.agg [zI p0, st s0].toArray) rfl acc acv rfl) ?_
  refine wv (OV.extract 1 rfl rfl) ?_
  refine wv (OV.extract 0 rfl rfl) ?_
  refine WL.nil ?_
  refine kg (hK_9' [(0, zP pb), (6, zI 6), (38, Value.iface 74 (Value.agg [zI p0, st s0].toArray)), (49, zB false), (50, Value.agg [zI 0, st []].toArray)] _ ?_)
  refine e8 rfl ?_
  refine a7 (fun _ hK_10' => ?_)
  refine a6 ?_
  refine wv (OV.assertYes (t' := 74) (v := Value.agg [zI p0, st s0].toArray) rfl ac0) ?_
  refine wv (OV.extract 1 rfl rfl) ?_
  refine wv (OV.extract 0 rfl rfl) ?_
  refine WL.nil ?_
  refine kg (hK_10' [(0, zP pb), (6, zI 6), (38, Value.iface 74 (Value.agg [zI p0, st s0].toArray)), (59, zB true), (60, Value.agg [zI p0, st s0].toArray)] _ ?_)
  refine h8 rfl ?_
  refine a7 (fun _ hK_11' => ?_)
  refine a6 ?_
  refine WL.make (MV.alloc aqy) rfl rfl rfl (fun b => ?_)
  refine WL.storeW (vs := [zI p0, st s0]) 0 rfl rfl rfl rfl rfl aqz rfl rfl rfl ?_
  refine WL.nil ?_
  refine kg (hK_11' [(0, zP pb), (11, zP b)] _ ?_)
  refine k8 7 [] f0 (by kernel_rfl) rfl (fun T hT => ?_)
  refine fv (fun _ => OV.move rfl) ?_
  refine fv (fun _ => OV.nilCheck rfl) ?_
  refine fv (fun _ => OV.fieldAddr0 rfl j6) ?_
  refine fv (fun _ => OV.fieldAddr0 rfl alq) ?_
  refine fv (fun _ => OV.load rfl (At.own 0 rfl) rfl c6) ?_
  obtain ⟨o_1', h⟩ := h
  refine fv (fun _ => OV.cat rfl rfl o_1') ?_
  obtain ⟨o_2', h⟩ := h
  refine fv (fun _ => OV.cat rfl rfl o_2') ?_
  refine FL.weak (L' := fun γ => [(63, zP pb), (67, st ((([47] : List UInt8) ++ s0) ++ ([47] : List UInt8)))]) (fun γ => ⟨rfl, rfl, trivial⟩) (FL.nil (hT (fun γ => [(63, zP pb), (67, st ((([47] : List UInt8) ++ s0) ++ ([47] : List UInt8)))]) (fun γ => ?_)))
  obtain ⟨o_3', h⟩ := h
  refine WL.pick (H' := [bld 90 5 pb bl, HA.blk b (.cells [zI p0, st s0].toArray 74 (0, 0))]) [1, 0] rfl rfl ?_
  refine WL.call n3 rfl (j0 pb bl ((([47] : List UInt8) ++ s0) ++ ([47] : List UInt8)) o_3') rfl trivial rfl rfl ?_
  refine WL.nil ?_
  exact hE.norm (adf [0] rfl rfl (.inl ⟨_, h, rfl⟩) (d6.none rfl))
 ·skip
  refine a7 (fun _ hK_12' => ?_)
  refine a6 ?_
  refine wm ?_
  refine WL.nil ?_
  refine kg (hK_12' [(0, zP pb), (1, Value.iface 74 (Value.agg [zI p0, st s0].toArray)), (2, zI need), (6, zI 6), (18, Value.iface 74 (Value.agg [zI p0, st s0].toArray))] _ ?_)
  refine b7 ?_
  refine a7 (fun _ hK_13' => ?_)
  refine a6 ?_
  refine wv (OV.assertNo (t2 := 74) (v := Value.agg [zI p0, st s0].toArray) rfl aaf acf rfl) ?_
  refine wv (OV.extract 1 rfl rfl) ?_
  refine wv (OV.extract 0 rfl rfl) ?_
  refine WL.nil ?_
  refine kg (hK_13' [(0, zP pb), (1, Value.iface 74 (Value.agg [zI p0, st s0].toArray)), (2, zI need), (6, zI 6), (18, Value.iface 74 (Value.agg [zI p0, st s0].toArray)), (20, zB false), (21, Value.agg [zI 0, st [], Value.nilIface, Value.nilIface].toArray)] _ ?_)
  refine e8 rfl ?_
  refine a7 (fun _ hK_14' => ?_)
  refine a6 ?_
  refine wv (OV.assertNo (t2 := 74) (v := Value.agg [zI p0, st s0].toArray) rfl aae acb rfl) ?_
  refine wv (OV.extract 1 rfl rfl) ?_
  refine wv (OV.extract 0 rfl rfl) ?_
  refine WL.nil ?_
  refine kg (hK_14' [(0, zP pb), (1, Value.iface 74 (Value.agg [zI p0, st s0].toArray)), (2, zI need), (6, zI 6), (26, zB false), (27, Value.agg [zI 0, st [], Value.nilIface].toArray)] _ ?_)
  refine e8 rfl ?_
  refine b5 ?_
  exact kh (hK_4' () h) [0]
def aea (te : TypeId) (fre : Nat × Nat) (B : List (Nat × Obj)) (bl : List UInt8) (_ : Int) (u1 : Value) (need : Int) (x1 : Ex) (K : (List UInt8) → Prop) : Prop :=
 ∃ (J0 : Prop),
  (∀ (_ : Unit), J0 →
   ((decide (6 < need)) = false) ∧
   (u1.oneCell' = true) ∧
   (bl.length + ([123] : List UInt8).length ≤ 140737488355328) ∧
   (aar B te fre u1 x1) ∧
   (aa6 (bl ++ ([123] : List UInt8)) (0 : Int) x1) ∧
   (((bl ++ ([123] : List UInt8)) ++ d5 x1 (0 : Int)).length + ([125] : List UInt8).length ≤ 140737488355328) ∧
   K (((bl ++ ([123] : List UInt8)) ++ d5 x1 (0 : Int)) ++ ([125] : List UInt8))) ∧
  J0
theorem am9 (pb : Nat) (te : TypeId) (fre : Nat × Nat) (B : List (Nat × Obj)) (bl : List UInt8) (p0 : Int) (u1 : Value) (need : Int) (x1 : Ex) (K : (List UInt8) → Prop) (h : aea te fre B bl p0 u1 need x1 K) :
  d7 Tryd.prog 31 [zP pb, Value.iface 76 (Value.agg [zI p0, u1].toArray), zI need] (B ++ [(0, .cells [st ([124] : List UInt8), st ([38, 45] : List UInt8), st ([62, 62] : List UInt8), st ([126] : List UInt8), st ([46] : List UInt8)].toArray te fre)]) [bld 90 5 pb bl] (fun o => (∃ (d : List UInt8), K d ∧ o = .ret (Value.tuple #[]) [bld 90 5 pb d]) ∨ (False)) := by
 unfold aea at h
 refine t8 (n := 151) (L0 := [(0, zP pb), (1, Value.iface 76 (Value.agg [zI p0, u1].toArray)), (2, zI need)]) Tryd.func31 rfl rfl rfl rfl (fun w0 M Q hE => ?_)
 refine a7 (fun _ hK => ?_)
 refine a6 ?_
 refine wA ?_
 refine WL.nil ?_
 refine kg (hK [(0, zP pb), (1, Value.iface 76 (Value.agg [zI p0, u1].toArray)), (2, zI need), (6, zI 6)] _ ?_)
 obtain ⟨J0, hJ, h⟩ := h
 refine l4 (X := Unit) (fun _ => J0) (fun _ => [(0, zP pb), (1, Value.iface 76 (Value.agg [zI p0, u1].toArray)), (2, zI need), (6, zI 6)]) (fun _ => [bld 90 5 pb bl]) ?_ (fun K0_4' hK_4' => ?_)
 ·rintro _ hj
  replace h := hJ () hj
  show WC _ _ _ _ [(0, zP pb), (1, Value.iface 76 (Value.agg [zI p0, u1].toArray)), (2, zI need), (6, zI 6)] [bld 90 5 pb bl]
  refine a7 (fun _ hK_5' => ?_)
  refine a7 (fun _ hK_6' => ?_)
  refine a6 ?_
  refine wm ?_
  refine wm ?_
  refine wv (OV.lss rfl rfl) ?_
  refine WL.nil ?_
  refine kg (hK_6' [(0, zP pb), (1, Value.iface 76 (Value.agg [zI p0, u1].toArray)), (6, zI 6), (30, zB (decide (6 < need)))] _ ?_)
  obtain ⟨o, h⟩ := h
  refine a8 (b := decide (6 < need)) rfl (fun hb => ?_) (fun hb => ?_)
  ·rw [o] at hb; cases hb
  refine b5 ?_
  refine kg (hK_5' [(0, zP pb), (1, Value.iface 76 (Value.agg [zI p0, u1].toArray)), (6, zI 6)] _ ?_)
  refine a7 (fun _ hK_7' => ?_)
  refine a6 ?_
  refine wm ?_
  refine WL.nil ?_
  refine kg (hK_7' [(0, zP pb), (6, zI 6), (38, Value.iface 76 (Value.agg [zI p0, u1].toArray))] _ ?_)
  refine b7 ?_
  refine a7 (fun _ hK_8' => ?_)
  refine a6 ?_
  refine wv (OV.assertNo (t2 := 76) (v := Value.agg [zI p0, u1].toArray) rfl abi ace rfl) ?_
  refine wv (OV.extract 1 rfl rfl) ?_
  refine wv (OV.extract 0 rfl rfl) ?_
  refine WL.nil ?_
  refine kg (hK_8' [(0, zP pb), (6, zI 6), (38, Value.iface 76 (Value.agg [zI p0, u1].toArray)), (40, zB false), (41, Value.agg [zI 0, st []].toArray)] _ ?_)
  refine e8 rfl ?_
  refine a7 (fun _ hK_9' => ?_)
  refine a6 ?_
  refine wv (OV.assertNo (t2 := 76) (v := Value.agg [zI p0, u1].toArray) rfl acc acv rfl) ?_
  refine wv (OV.extract 1 rfl rfl) ?_
  refine wv (OV.extract 0 rfl rfl) ?_
  refine WL.nil ?_
  refine kg (hK_9' [(0, zP pb), (6, zI 6), (38, Value.iface 76 (Value.agg [zI p0, u1].toArray)), (49, zB false), (50, Value.agg [zI 0, st []].toArray)] _ ?_)
  refine e8 rfl ?_
  refine a7 (fun _ hK_10' => ?_)
  refine a6 ?_
  refine wv (OV.assertNo (t2 := 76) (v := Value.agg [zI p0, u1].toArray) rfl ac0 ad6 rfl) ?_
  refine wv (OV.extract 1 rfl rfl) ?_
  refine wv (OV.extract 0 rfl rfl) ?_
  refine WL.nil ?_
  refine kg (hK_10' [(0, zP pb), (6, zI 6), (38, Value.iface 76 (Value.agg [zI p0, u1].toArray)), (59, zB false), (60, Value.agg [zI 0, st []].toArray)] _ ?_)
  refine e8 rfl ?_
  refine a7 (fun _ hK_11' => ?_)
  refine a6 ?_
  refine wv (OV.assertYes (t' := 76) (v := Value.agg [zI p0, u1].toArray) rfl ad1) ?_
  refine wv (OV.extract 1 rfl rfl) ?_
  refine wv (OV.extract 0 rfl rfl) ?_
  refine WL.nil ?_
  refine kg (hK_11' [(0, zP pb), (6, zI 6), (38, Value.iface 76 (Value.agg [zI p0, u1].toArray)), (70, zB true), (71, Value.agg [zI p0, u1].toArray)] _ ?_)
  refine h8 rfl ?_
  refine a7 (fun _ hK_12' => ?_)
  refine a6 ?_
  refine WL.make (MV.alloc apx) rfl rfl rfl (fun b => ?_)
  obtain ⟨o_1', h⟩ := h
  refine WL.storeW (vs := [zI p0, u1]) 0 rfl rfl rfl rfl rfl ap6 rfl (f7 rfl (f7 o_1' y5)) rfl ?_
  refine WL.nil ?_
  refine kg (hK_12' [(0, zP pb), (12, zP b)] _ ?_)
  refine a7 (fun _ hK_13' => ?_)
  refine a6 ?_
  refine wm ?_
  refine wv (OV.nilCheck rfl) ?_
  refine wv (OV.fieldAddr0 rfl j6) ?_
  obtain ⟨o_2', h⟩ := h
  refine WL.pick (H' := [bld 90 5 pb bl, HA.blk b (.cells [zI p0, u1].toArray 76 (0, 0))]) [1, 0] rfl rfl ?_
  refine WL.call n3 rfl (j0 pb bl ([123] : List UInt8) o_2') rfl trivial rfl rfl ?_
  refine WL.nil ?_
  refine kg (hK_13' [(0, zP pb), (12, zP b)] _ ?_)
  refine a7 (fun _ hK_14' => ?_)
  refine a6 ?_
  refine wm ?_
  refine wv (OV.fieldAddr0 rfl akx) ?_
  refine wv (OV.load rfl (At.own 1 rfl) rfl t7) ?_
  obtain ⟨o_3', h⟩ := h
  obtain ⟨o_4', h⟩ := h
  refine WL.call aan rfl (o_3' pb (bl ++ ([123] : List UInt8)) (0 : Int) o_4') rfl (ROk.of (fun _ h => h)) rfl rfl ?_
  refine WL.nil ?_
  refine kg (hK_14' [(0, zP pb)] _ ?_)
  refine a6 ?_
  refine wm ?_
  refine wv (OV.nilCheck rfl) ?_
  refine wv (OV.fieldAddr0 rfl j6) ?_
  obtain ⟨o_5', h⟩ := h
  refine WL.call n3 rfl (j0 pb ((bl ++ ([123] : List UInt8)) ++ d5 x1 (0 : Int)) ([125] : List UInt8) o_5') rfl trivial rfl rfl ?_
  refine WL.nil ?_
  exact hE.norm (adf [0] rfl rfl (.inl ⟨_, h, rfl⟩) (d6.none rfl))
 ·skip
  refine a7 (fun _ hK_15' => ?_)
  refine a6 ?_
  refine wm ?_
  refine WL.nil ?_
  refine kg (hK_15' [(0, zP pb), (1, Value.iface 76 (Value.agg [zI p0, u1].toArray)), (2, zI need), (6, zI 6), (18, Value.iface 76 (Value.agg [zI p0, u1].toArray))] _ ?_)
  refine b7 ?_
  refine a7 (fun _ hK_16' => ?_)
  refine a6 ?_
  refine wv (OV.assertNo (t2 := 76) (v := Value.agg [zI p0, u1].toArray) rfl aaf acf rfl) ?_
  refine wv (OV.extract 1 rfl rfl) ?_
  refine wv (OV.extract 0 rfl rfl) ?_
  refine WL.nil ?_
  refine kg (hK_16' [(0, zP pb), (1, Value.iface 76 (Value.agg [zI p0, u1].toArray)), (2, zI need), (6, zI 6), (18, Value.iface 76 (Value.agg [zI p0, u1].toArray)), (20, zB false), (21, Value.agg [zI 0, st [], Value.nilIface, Value.nilIface].toArray)] _ ?_)
  refine e8 rfl ?_
  refine a7 (fun _ hK_17' => ?_)
  refine a6 ?_
  refine wv (OV.assertNo (t2 := 76) (v := Value.agg [zI p0, u1].toArray) rfl aae acb rfl) ?_
  refine wv (OV.extract 1 rfl rfl) ?_
  refine wv (OV.extract 0 rfl rfl) ?_
  refine WL.nil ?_
  refine kg (hK_17' [(0, zP pb), (1, Value.iface 76 (Value.agg [zI p0, u1].toArray)), (2, zI need), (6, zI 6), (26, zB false), (27, Value.agg [zI 0, st [], Value.nilIface].toArray)] _ ?_)
  refine e8 rfl ?_
  refine b5 ?_
  exact kh (hK_4' () h) [0]
def ad9 (te : TypeId) (fre : Nat × Nat) (B : List (Nat × Obj)) (bl : List UInt8) (_ : Int) (s0 : List UInt8) (u1 : Value) (need : Int) (x1 : Ex) (K : (List UInt8) → Prop) : Prop :=
 ∃ (J0 : Prop),
  (∀ (_ : Unit), J0 →
   ((decide (5 < need)) = false) ∧
   (u1.oneCell' = true) ∧
   (aar B te fre u1 x1) ∧
   (aa6 bl (5 : Int) x1) ∧
   ((bl ++ d5 x1 (5 : Int)).length + s0.length ≤ 140737488355328) ∧
   K ((bl ++ d5 x1 (5 : Int)) ++ s0)) ∧
  (u1.oneCell' = true) ∧
  J0
theorem amv (pb : Nat) (te : TypeId) (fre : Nat × Nat) (B : List (Nat × Obj)) (bl : List UInt8) (p0 : Int) (s0 : List UInt8) (u1 : Value) (need : Int) (x1 : Ex) (K : (List UInt8) → Prop) (h : ad9 te fre B bl p0 s0 u1 need x1 K) :
  d7 Tryd.prog 31 [zP pb, Value.iface 78 (Value.agg [zI p0, st s0, u1].toArray), zI need] (B ++ [(0, .cells [st ([124] : List UInt8), st ([38, 45] : List UInt8), st ([62, 62] : List UInt8), st ([126] : List UInt8), st ([46] : List UInt8)].toArray te fre)]) [bld 90 5 pb bl] (fun o => (∃ (d : List UInt8), K d ∧ o = .ret (Value.tuple #[]) [bld 90 5 pb d]) ∨ (False)) := by
 unfold ad9 at h
 refine t8 (n := 151) (L0 := [(0, zP pb), (1, Value.iface 78 (Value.agg [zI p0, st s0, u1].toArray)), (2, zI need)]) Tryd.func31 rfl rfl rfl rfl (fun w0 M Q hE => ?_)
 refine a7 (fun _ hK => ?_)
 refine a6 ?_
 refine wA ?_
 refine WL.nil ?_
 refine kg (hK [(0, zP pb), (1, Value.iface 78 (Value.agg [zI p0, st s0, u1].toArray)), (2, zI need), (6, zI 6)] _ ?_)
 obtain ⟨J0, hJ, h⟩ := h
 refine l4 (X := Unit) (fun _ => J0) (fun _ => [(0, zP pb), (1, Value.iface 78 (Value.agg [zI p0, st s0, u1].toArray)), (2, zI need), (6, zI 5)]) (fun _ => [bld 90 5 pb bl]) ?_ (fun K0_5' hK_5' => ?_)
 ·rintro _ hj
  replace h := hJ () hj
  show WC _ _ _ _ [(0, zP pb), (1, Value.iface 78 (Value.agg [zI p0, st s0, u1].toArray)), (2, zI need), (6, zI 5)] [bld 90 5 pb bl]
  refine a7 (fun _ hK_6' => ?_)
  refine a7 (fun _ hK_7' => ?_)
  refine a6 ?_
  refine wm ?_
  refine wm ?_
  refine wv (OV.lss rfl rfl) ?_
  refine WL.nil ?_
  refine kg (hK_7' [(0, zP pb), (1, Value.iface 78 (Value.agg [zI p0, st s0, u1].toArray)), (6, zI 5), (30, zB (decide (5 < need)))] _ ?_)
  obtain ⟨o_1', h⟩ := h
  refine a8 (b := decide (5 < need)) rfl (fun hb => ?_) (fun hb => ?_)
  ·rw [o_1'] at hb; cases hb
  refine b5 ?_
  refine kg (hK_6' [(0, zP pb), (1, Value.iface 78 (Value.agg [zI p0, st s0, u1].toArray)), (6, zI 5)] _ ?_)
  refine a7 (fun _ hK_8' => ?_)
  refine a6 ?_
  refine wm ?_
  refine WL.nil ?_
  refine kg (hK_8' [(0, zP pb), (6, zI 5), (38, Value.iface 78 (Value.agg [zI p0, st s0, u1].toArray))] _ ?_)
  refine b7 ?_
  refine a7 (fun _ hK_9' => ?_)
  refine a6 ?_
  refine wv (OV.assertNo (t2 := 78) (v := Value.agg [zI p0, st s0, u1].toArray) rfl abi ace rfl) ?_
  refine wv (OV.extract 1 rfl rfl) ?_
  refine wv (OV.extract 0 rfl rfl) ?_
  refine WL.nil ?_
  refine kg (hK_9' [(0, zP pb), (6, zI 5), (38, Value.iface 78 (Value.agg [zI p0, st s0, u1].toArray)), (40, zB false), (41, Value.agg [zI 0, st []].toArray)] _ ?_)
  refine e8 rfl ?_
  refine a7 (fun _ hK_10' => ?_)
  refine a6 ?_
  refine wv (OV.assertNo (t2 := 78) (v := Value.agg [zI p0, st s0, u1].toArray) rfl acc acv rfl) ?_
  refine wv (OV.extract 1 rfl rfl) ?_
  refine wv (OV.extract 0 rfl rfl) ?_
  refine WL.nil ?_
  refine kg (hK_10' [(0, zP pb), (6, zI 5), (38, Value.iface 78 (Value.agg [zI p0, st s0, u1].toArray)), (49, zB false), (50, Value.agg [zI 0, st []].toArray)] _ ?_)
  refine e8 rfl ?_
  refine a7 (fun _ hK_11' => ?_)
  refine a6 ?_
  refine wv (OV.assertNo (t2 := 78) (v := Value.agg [zI p0, st s0, u1].toArray) rfl ac0 ad6 rfl) ?_
  refine wv (OV.extract 1 rfl rfl) ?_
  refine wv (OV.extract 0 rfl rfl) ?_
  refine WL.nil ?_
  refine kg (hK_11' [(0, zP pb), (6, zI 5), (38, Value.iface 78 (Value.agg [zI p0, st s0, u1].toArray)), (59, zB false), (60, Value.agg [zI 0, st []].toArray)] _ ?_)
  refine e8 rfl ?_
  refine a7 (fun _ hK_12' => ?_)
  refine a6 ?_
  refine wv (OV.assertNo (t2 := 78) (v := Value.agg [zI p0, st s0, u1].toArray) rfl ad1 ae0 rfl) ?_
  refine wv (OV.extract 1 rfl rfl) ?_
  refine wv (OV.extract 0 rfl rfl) ?_
  refine WL.nil ?_
  refine kg (hK_12' [(0, zP pb), (6, zI 5), (38, Value.iface 78 (Value.agg [zI p0, st s0, u1].toArray)), (70, zB false), (71, Value.agg [zI 0, Value.nilIface].toArray)] _ ?_)
  refine e8 rfl ?_
  refine a7 (fun _ hK_13' => ?_)
  refine a6 ?_
  refine wv (OV.assertYes (t' := 78) (v := Value.agg [zI p0, st s0, u1].toArray) rfl aae) ?_
  refine wv (OV.extract 1 rfl rfl) ?_
  refine wv (OV.extract 0 rfl rfl) ?_
  refine WL.nil ?_
  refine kg (hK_13' [(0, zP pb), (6, zI 5), (38, Value.iface 78 (Value.agg [zI p0, st s0, u1].toArray)), (85, zB true), (86, Value.agg [zI p0, st s0, u1].toArray)] _ ?_)
  refine h8 rfl ?_
  refine a7 (fun _ hK_14' => ?_)
  refine a6 ?_
  refine WL.make (MV.alloc aer) rfl rfl rfl (fun b_1' => ?_)
  obtain ⟨o_2', h⟩ := h
  refine WL.storeW (vs := [zI p0, st s0, u1]) 0 rfl rfl rfl rfl rfl aem rfl (f7 rfl (f7 rfl (f7 o_2' y5))) rfl ?_
  refine WL.nil ?_
  refine kg (hK_14' [(0, zP pb), (13, zP b_1')] _ ?_)
  refine a7 (fun _ hK_15' => ?_)
  refine a6 ?_
  refine wm ?_
  refine wv (OV.fieldAddr0 rfl af5) ?_
  refine wv (OV.load rfl (At.own 0 rfl) rfl t7) ?_
  obtain ⟨o_3', h⟩ := h
  obtain ⟨o_4', h⟩ := h
  refine WL.pick (H' := [bld 90 5 pb bl, HA.blk b_1' (.cells [zI p0, st s0, u1].toArray 78 (0, 0))]) [1, 0] rfl rfl ?_
  refine WL.call aan rfl (o_3' pb bl (5 : Int) o_4') rfl (ROk.of (fun _ h => h)) rfl rfl ?_
  refine WL.nil ?_
  refine kg (hK_15' [(0, zP pb), (13, zP b_1')] _ ?_)
  refine k8 5 [] f0 (by kernel_rfl) rfl (fun T hT => ?_)
  refine fv (fun _ => OV.move rfl) ?_
  refine fv (fun _ => OV.nilCheck rfl) ?_
  refine fv (fun _ => OV.fieldAddr0 rfl j6) ?_
  refine fv (fun _ => OV.fieldAddr0 rfl af6) ?_
  refine fv (fun _ => OV.load rfl (At.own 1 rfl) rfl c6) ?_
  refine FL.weak (L' := fun γ => [(93, zP pb), (95, st s0)]) (fun γ => ⟨rfl, rfl, trivial⟩) (FL.nil (hT (fun γ => [(93, zP pb), (95, st s0)]) (fun γ => ?_)))
  obtain ⟨o_5', h⟩ := h
  refine WL.call n3 rfl (j0 pb (bl ++ d5 x1 (5 : Int)) s0 o_5') rfl trivial rfl rfl ?_
  refine WL.nil ?_
  exact hE.norm (adf [0] rfl rfl (.inl ⟨_, h, rfl⟩) (d6.none rfl))
 ·skip
  refine a7 (fun _ hK_16' => ?_)
  refine a6 ?_
  refine wm ?_
  refine WL.nil ?_
  refine kg (hK_16' [(0, zP pb), (1, Value.iface 78 (Value.agg [zI p0, st s0, u1].toArray)), (2, zI need), (6, zI 6), (18, Value.iface 78 (Value.agg [zI p0, st s0, u1].toArray))] _ ?_)
  refine b7 ?_
  refine a7 (fun _ hK_17' => ?_)
  refine a6 ?_
  refine wv (OV.assertNo (t2 := 78) (v := Value.agg [zI p0, st s0, u1].toArray) rfl aaf acf rfl) ?_
  refine wv (OV.extract 1 rfl rfl) ?_
  refine wv (OV.extract 0 rfl rfl) ?_
  refine WL.nil ?_
  refine kg (hK_17' [(0, zP pb), (1, Value.iface 78 (Value.agg [zI p0, st s0, u1].toArray)), (2, zI need), (6, zI 6), (18, Value.iface 78 (Value.agg [zI p0, st s0, u1].toArray)), (20, zB false), (21, Value.agg [zI 0, st [], Value.nilIface, Value.nilIface].toArray)] _ ?_)
  refine e8 rfl ?_
  refine a7 (fun _ hK_18' => ?_)
  refine a6 ?_
  refine wv (OV.assertYes (t' := 78) (v := Value.agg [zI p0, st s0, u1].toArray) rfl aae) ?_
  refine wv (OV.extract 1 rfl rfl) ?_
  refine wv (OV.extract 0 rfl rfl) ?_
  refine WL.nil ?_
  refine kg (hK_18' [(0, zP pb), (1, Value.iface 78 (Value.agg [zI p0, st s0, u1].toArray)), (2, zI need), (6, zI 6), (26, zB true), (27, Value.agg [zI p0, st s0, u1].toArray)] _ ?_)
  refine h8 rfl ?_
  refine a7 (fun _ hK_19' => ?_)
  refine a6 ?_
  refine WL.make (MV.alloc aer) rfl rfl rfl (fun b_2' => ?_)
  obtain ⟨o_6', h⟩ := h
  refine WL.storeW (vs := [zI p0, st s0, u1]) 0 rfl rfl rfl rfl rfl aem rfl (f7 rfl (f7 rfl (f7 o_6' y5))) rfl ?_
  refine WL.nil ?_
  refine kg (hK_19' [(0, zP pb), (1, Value.iface 78 (Value.agg [zI p0, st s0, u1].toArray)), (2, zI need)] _ ?_)
  refine a6 ?_
  refine wA ?_
  refine WL.nil ?_
  exact kh (hK_5' () h) [1]
def adq (te : TypeId) (fre : Nat × Nat) (B : List (Nat × Obj)) (bl : List UInt8) (_ : Int) (s0 : List UInt8) (u1 : Value) (u2 : Value) (need : Int) (x1 : Ex) (x2 : Ex) (K : (List UInt8) → Prop) : Prop :=
 ∃ (J0 : Prop),
  (∀ (_ : Unit), J0 →
   ((decide (c9 s0 < need)) = false) ∧
   (u1.oneCell' = true) ∧
   (u2.oneCell' = true) ∧
   (aar B te fre u1 x1) ∧
   (aa6 bl (c9 s0) x1) ∧
   (([32] : List UInt8).length + s0.length ≤ 9223372036854775807) ∧
   ((([32] : List UInt8) ++ s0).length + ([32] : List UInt8).length ≤ 9223372036854775807) ∧
   ((bl ++ d5 x1 (c9 s0)).length + ((([32] : List UInt8) ++ s0) ++ ([32] : List UInt8)).length ≤ 140737488355328) ∧
   (I64 ((c9 s0) + 1)) ∧
   (aar B te fre u2 x2) ∧
   (aa6 ((bl ++ d5 x1 (c9 s0)) ++ ((([32] : List UInt8) ++ s0) ++ ([32] : List UInt8))) ((c9 s0) + 1) x2) ∧
   K (((bl ++ d5 x1 (c9 s0)) ++ ((([32] : List UInt8) ++ s0) ++ ([32] : List UInt8))) ++ d5 x2 ((c9 s0) + 1))) ∧
  (u1.oneCell' = true) ∧
  (u2.oneCell' = true) ∧
  (adj s0) ∧
  J0
theorem ala (pb : Nat) (te : TypeId) (fre : Nat × Nat) (B : List (Nat × Obj)) (bl : List UInt8) (p0 : Int) (s0 : List UInt8) (u1 : Value) (u2 : Value) (need : Int) (x1 : Ex) (x2 : Ex) (K : (List UInt8) → Prop) (h : adq te fre B bl p0 s0 u1 u2 need x1 x2 K) :
  d7 Tryd.prog 31 [zP pb, Value.iface 80 (Value.agg [zI p0, st s0, u1, u2].toArray), zI need] (B ++ [(0, .cells [st ([124] : List UInt8), st ([38, 45] : List UInt8), st ([62, 62] : List UInt8), st ([126] : List UInt8), st ([46] : List UInt8)].toArray te fre)]) [bld 90 5 pb bl] (fun o => (∃ (d : List UInt8), K d ∧ o = .ret (Value.tuple #[]) [bld 90 5 pb d]) ∨ (False)) := by
 unfold adq at h
 refine t8 (n := 151) (L0 := [(0, zP pb), (1, Value.iface 80 (Value.agg [zI p0, st s0, u1, u2].toArray)), (2, zI need)]) Tryd.func31 rfl rfl rfl rfl (fun w0 M Q hE => ?_)
 refine a7 (fun _ hK => ?_)
 refine a6 ?_
 refine wA ?_
 refine WL.nil ?_
 refine kg (hK [(0, zP pb), (1, Value.iface 80 (Value.agg [zI p0, st s0, u1, u2].toArray)), (2, zI need), (6, zI 6)] _ ?_)
 obtain ⟨J0, hJ, h⟩ := h
 refine l4 (X := Unit) (fun _ => J0) (fun _ => [(0, zP pb), (1, Value.iface 80 (Value.agg [zI p0, st s0, u1, u2].toArray)), (2, zI need), (6, zI (c9 s0))]) (fun _ => [bld 90 5 pb bl]) ?_ (fun K0_4' hK_4' => ?_)
 ·rintro _ hj
  replace h := hJ () hj
  show WC _ _ _ _ [(0, zP pb), (1, Value.iface 80 (Value.agg [zI p0, st s0, u1, u2].toArray)), (2, zI need), (6, zI (c9 s0))] [bld 90 5 pb bl]
  refine a7 (fun _ hK_5' => ?_)
  refine a7 (fun _ hK_6' => ?_)
  refine a6 ?_
  refine wm ?_
  refine wm ?_
  refine wv (OV.lss rfl rfl) ?_
  refine WL.nil ?_
  refine kg (hK_6' [(0, zP pb), (1, Value.iface 80 (Value.agg [zI p0, st s0, u1, u2].toArray)), (6, zI (c9 s0)), (30, zB (decide (c9 s0 < need)))] _ ?_)
  obtain ⟨o_3', h⟩ := h
  refine a8 (b := decide (c9 s0 < need)) rfl (fun hb => ?_) (fun hb => ?_)
  ·rw [o_3'] at hb; cases hb
  refine b5 ?_
  refine kg (hK_5' [(0, zP pb), (1, Value.iface 80 (Value.agg [zI p0, st s0, u1, u2].toArray)), (6, zI (c9 s0))] _ ?_)
  refine a7 (fun _ hK_7' => ?_)
  refine a6 ?_
  refine wm ?_
  refine WL.nil ?_
  refine kg (hK_7' [(0, zP pb), (6, zI (c9 s0)), (38, Value.iface 80 (Value.agg [zI p0, st s0, u1, u2].toArray))] _ ?_)
  refine b7 ?_
  refine a7 (fun _ hK_8' => ?_)
  refine a6 ?_
  refine wv (OV.assertNo (t2 := 80) (v := Value.agg [zI p0, st s0, u1, u2].toArray) rfl abi ace rfl) ?_
  refine wv (OV.extract 1 rfl rfl) ?_
  refine wv (OV.extract 0 rfl rfl) ?_
  refine WL.nil ?_
  refine kg (hK_8' [(0, zP pb), (6, zI (c9 s0)), (38, Value.iface 80 (Value.agg [zI p0, st s0, u1, u2].toArray)), (40, zB false), (41, Value.agg [zI 0, st []].toArray)] _ ?_)
  refine e8 rfl ?_
  refine a7 (fun _ hK_9' => ?_)
  refine a6 ?_
  refine wv (OV.assertNo (t2 := 80) (v := Value.agg [zI p0, st s0, u1, u2].toArray) rfl acc acv rfl) ?_
  refine wv (OV.extract 1 rfl rfl) ?_
  refine wv (OV.extract 0 rfl rfl) ?_
  refine WL.nil ?_
  refine kg (hK_9' [(0, zP pb), (6, zI (c9 s0)), (38, Value.iface 80 (Value.agg [zI p0, st s0, u1, u2].toArray)), (49, zB false), (50, Value.agg [zI 0, st []].toArray)] _ ?_)
  refine e8 rfl ?_
  refine a7 (fun _ hK_10' => ?_)
  refine a6 ?_
  refine wv (OV.assertNo (t2 := 80) (v := Value.agg [zI p0, st s0, u1, u2].toArray) rfl ac0 ad6 rfl) ?_
  refine wv (OV.extract 1 rfl rfl) ?_
  refine wv (OV.extract 0 rfl rfl) ?_
  refine WL.nil ?_
  refine kg (hK_10' [(0, zP pb), (6, zI (c9 s0)), (38, Value.iface 80 (Value.agg [zI p0, st s0, u1, u2].toArray)), (59, zB false), (60, Value.agg [zI 0, st []].toArray)] _ ?_)
  refine e8 rfl ?_
  refine a7 (fun _ hK_11' => ?_)
  refine a6 ?_
  refine wv (OV.assertNo (t2 := 80) (v := Value.agg [zI p0, st s0, u1, u2].toArray) rfl ad1 ae0 rfl) ?_
  refine wv (OV.extract 1 rfl rfl) ?_
  refine wv (OV.extract 0 rfl rfl) ?_
  refine WL.nil ?_
  refine kg (hK_11' [(0, zP pb), (6, zI (c9 s0)), (38, Value.iface 80 (Value.agg [zI p0, st s0, u1, u2].toArray)), (70, zB false), (71, Value.agg [zI 0, Value.nilIface].toArray)] _ ?_)
  refine e8 rfl ?_
  refine a7 (fun _ hK_12' => ?_)
  refine a6 ?_
  refine wv (OV.assertNo (t2 := 80) (v := Value.agg [zI p0, st s0, u1, u2].toArray) rfl aae acb rfl) ?_
  refine wv (OV.extract 1 rfl rfl) ?_
  refine wv (OV.extract 0 rfl rfl) ?_
  refine WL.nil ?_
  refine kg (hK_12' [(0, zP pb), (6, zI (c9 s0)), (38, Value.iface 80 (Value.agg [zI p0, st s0, u1, u2].toArray)), (85, zB false), (86, Value.agg [zI 0, st [], Value.nilIface].toArray)] _ ?_)
  refine e8 rfl ?_
  refine a7 (fun _ hK_13' => ?_)
  refine a6 ?_
  refine wv (OV.assertYes (t' := 80) (v := Value.agg [zI p0, st s0, u1, u2].toArray) rfl aaf) ?_
  refine wv (OV.extract 1 rfl rfl) ?_
  refine wv (OV.extract 0 rfl rfl) ?_
  refine WL.nil ?_
  refine kg (hK_13' [(0, zP pb), (6, zI (c9 s0)), (38, Value.iface 80 (Value.agg [zI p0, st s0, u1, u2].toArray)), (98, zB true), (99, Value.agg [zI p0, st s0, u1, u2].toArray)] _ ?_)
  refine h8 rfl ?_
  refine a7 (fun _ hK_14' => ?_)
  refine a6 ?_
  refine WL.make (MV.alloc aed) rfl rfl rfl (fun b_1' => ?_)
  obtain ⟨o_4', h⟩ := h
  obtain ⟨o_5', h⟩ := h
  refine WL.storeW (vs := [zI p0, st s0, u1, u2]) 0 rfl rfl rfl rfl rfl aes rfl (f7 rfl (f7 rfl (f7 o_4' (f7 o_5' y5)))) rfl ?_
  refine WL.nil ?_
  refine kg (hK_14' [(0, zP pb), (6, zI (c9 s0)), (14, zP b_1')] _ ?_)
  refine a7 (fun _ hK_15' => ?_)
  refine a6 ?_
  refine wm ?_
  refine wv (OV.fieldAddr0 rfl af7) ?_
  refine wv (OV.load rfl (At.own 0 rfl) rfl t7) ?_
  refine wm ?_
  obtain ⟨o_6', h⟩ := h
  obtain ⟨o_7', h⟩ := h
  refine WL.pick (H' := [bld 90 5 pb bl, HA.blk b_1' (.cells [zI p0, st s0, u1, u2].toArray 80 (0, 0))]) [1, 0] rfl rfl ?_
  refine WL.call aan rfl (o_6' pb bl (c9 s0) o_7') rfl (ROk.of (fun _ h => h)) rfl rfl ?_
  refine WL.nil ?_
  refine kg (hK_15' [(0, zP pb), (6, zI (c9 s0)), (14, zP b_1')] _ ?_)
  refine a7 (fun _ hK_16' => ?_)
  refine k8 7 [] f0 (by kernel_rfl) rfl (fun T hT => ?_)
  refine fv (fun _ => OV.move rfl) ?_
  refine fv (fun _ => OV.nilCheck rfl) ?_
  refine fv (fun _ => OV.fieldAddr0 rfl j6) ?_
  refine fv (fun _ => OV.fieldAddr0 rfl ab3) ?_
  refine fv (fun _ => OV.load rfl (At.own 1 rfl) rfl c6) ?_
  obtain ⟨o_8', h⟩ := h
  refine fv (fun _ => OV.cat rfl rfl o_8') ?_
  obtain ⟨o_9', h⟩ := h
  refine fv (fun _ => OV.cat rfl rfl o_9') ?_
  refine FL.weak (L' := fun γ => [(0, zP pb), (6, zI (c9 s0)), (14, zP b_1'), (107, zP pb), (111, st ((([32] : List UInt8) ++ s0) ++ ([32] : List UInt8)))]) (fun γ => ⟨rfl, rfl, rfl, rfl, rfl, trivial⟩) (FL.nil (hT (fun γ => [(0, zP pb), (6, zI (c9 s0)), (14, zP b_1'), (107, zP pb), (111, st ((([32] : List UInt8) ++ s0) ++ ([32] : List UInt8)))]) (fun γ => ?_)))
  obtain ⟨o_10', h⟩ := h
  refine WL.call n3 rfl (j0 pb (bl ++ d5 x1 (c9 s0)) ((([32] : List UInt8) ++ s0) ++ ([32] : List UInt8)) o_10') rfl trivial rfl rfl ?_
  refine WL.nil ?_
  refine kg (hK_16' [(0, zP pb), (6, zI (c9 s0)), (14, zP b_1')] _ ?_)
  refine a6 ?_
  refine wm ?_
  refine wv (OV.fieldAddr0 rfl aga) ?_
  refine wv (OV.load rfl (At.own 1 rfl) rfl t7) ?_
  refine wm ?_
  obtain ⟨o_11', h⟩ := h
  refine wv (OV.add rfl rfl o_11') ?_
  obtain ⟨o_12', h⟩ := h
  obtain ⟨o_13', h⟩ := h
  refine WL.call aan rfl (o_12' pb ((bl ++ d5 x1 (c9 s0)) ++ ((([32] : List UInt8) ++ s0) ++ ([32] : List UInt8))) ((c9 s0) + 1) o_13') rfl (ROk.of (fun _ h => h)) rfl rfl ?_
  refine WL.nil ?_
  exact hE.norm (adf [0] rfl rfl (.inl ⟨_, h, rfl⟩) (d6.none rfl))
 ·skip
  refine a7 (fun _ hK_17' => ?_)
  refine a6 ?_
  refine wm ?_
  refine WL.nil ?_
  refine kg (hK_17' [(0, zP pb), (1, Value.iface 80 (Value.agg [zI p0, st s0, u1, u2].toArray)), (2, zI need), (6, zI 6), (18, Value.iface 80 (Value.agg [zI p0, st s0, u1, u2].toArray))] _ ?_)
  refine b7 ?_
  refine a7 (fun _ hK_18' => ?_)
  refine a6 ?_
  refine wv (OV.assertYes (t' := 80) (v := Value.agg [zI p0, st s0, u1, u2].toArray) rfl aaf) ?_
  refine wv (OV.extract 1 rfl rfl) ?_
  refine wv (OV.extract 0 rfl rfl) ?_
  refine WL.nil ?_
  refine kg (hK_18' [(0, zP pb), (1, Value.iface 80 (Value.agg [zI p0, st s0, u1, u2].toArray)), (2, zI need), (6, zI 6), (18, Value.iface 80 (Value.agg [zI p0, st s0, u1, u2].toArray)), (20, zB true), (21, Value.agg [zI p0, st s0, u1, u2].toArray)] _ ?_)
  refine h8 rfl ?_
  refine a7 (fun _ hK_19' => ?_)
  refine a6 ?_
  refine WL.make (MV.alloc aed) rfl rfl rfl (fun b_2' => ?_)
  obtain ⟨o_14', h⟩ := h
  obtain ⟨o_15', h⟩ := h
  refine WL.storeW (vs := [zI p0, st s0, u1, u2]) 0 rfl rfl rfl rfl rfl aes rfl (f7 rfl (f7 rfl (f7 o_14' (f7 o_15' y5)))) rfl ?_
  refine WL.nil ?_
  refine kg (hK_19' [(0, zP pb), (1, Value.iface 80 (Value.agg [zI p0, st s0, u1, u2].toArray)), (2, zI need), (7, zP b_2')] _ ?_)
  refine a6 ?_
  refine wv (OV.fieldAddr0 rfl ab3) ?_
  refine wv (OV.load rfl (At.own 0 rfl) rfl c6) ?_
  obtain ⟨o_16', h⟩ := h
  refine WL.call (A := []) ahx rfl (ahy te fre s0 o_16') rfl ⟨.inr (List.mem_append_right _ (List.mem_of_getElem? (i := 0) rfl)), trivial⟩ rfl rfl ?_
  refine wA ?_
  refine WL.nil ?_
  exact kh (hK_4' () h) [1]
def afk (te : TypeId) (fre : Nat × Nat) (B : List (Nat × Obj)) (bl : List UInt8) (_ : Int) (s0 : List UInt8) (us : List Value) (need : Int) (xs : List Ex) (K : (List UInt8) → Prop) : Prop :=
 ∃ (J0 : Prop),
  (∀ (_ : Unit), J0 →
   ((decide (6 < need)) = false) ∧
   (s0.length + ([40] : List UInt8).length ≤ 9223372036854775807) ∧
   (bl.length + (s0 ++ ([40] : List UInt8)).length ≤ 140737488355328) ∧
   ∃ (Inv : Int → (List UInt8) → Prop) (mu : Int → (List UInt8) → Nat),
    Inv 0 (bl ++ (s0 ++ ([40] : List UInt8))) ∧ ∀ (t132_1' : Int) (c_2' : List UInt8), Inv t132_1' c_2' →
     (if (decide (t132_1' < (us.length : Int))) = true then
      (0 ≤ t132_1' ∧ t132_1' < (us.length : Int)) ∧
      ∃ (J0_3' : (List UInt8) → Prop),
       (∀ (c_3' : List UInt8), J0_3' c_3' →
        (aar B te fre (us.getD (t132_1').toNat default) (xs.getD (t132_1').toNat default)) ∧
        (aa6 c_3' (0 : Int) (xs.getD (t132_1').toNat default)) ∧
        (I64 (t132_1' + 1)) ∧
        Inv (t132_1' + 1) (c_3' ++ d5 (xs.getD (t132_1').toNat default) (0 : Int)) ∧ mu (t132_1' + 1) (c_3' ++ d5 (xs.getD (t132_1').toNat default) (0 : Int)) < mu t132_1' c_2') ∧
       (if (decide (0 < t132_1')) = true then
        (c_2'.length + ([44, 32] : List UInt8).length ≤ 140737488355328) ∧
        J0_3' (c_2' ++ ([44, 32] : List UInt8))
       else
        J0_3' c_2')
     else
      (c_2'.length + ([41] : List UInt8).length ≤ 140737488355328) ∧
      K (c_2' ++ ([41] : List UInt8)))) ∧
  J0
theorem aob (pb : Nat) (ua : Value) (te : TypeId) (fre : Nat × Nat) (B : List (Nat × Obj)) (bl : List UInt8) (p0 : Int) (s0 : List UInt8) (us : List Value) (need : Int) (xs : List Ex) (hRi1 : y8 ua B us.length (us.flatMap adk)) (K : (List UInt8) → Prop) (h : afk te fre B bl p0 s0 us need xs K) :
  d7 Tryd.prog 31 [zP pb, Value.iface 83 (Value.agg [zI p0, st s0, ua].toArray), zI need] (B ++ [(0, .cells [st ([124] : List UInt8), st ([38, 45] : List UInt8), st ([62, 62] : List UInt8), st ([126] : List UInt8), st ([46] : List UInt8)].toArray te fre)]) [bld 90 5 pb bl] (fun o => (∃ (d : List UInt8), K d ∧ o = .ret (Value.tuple #[]) [bld 90 5 pb d]) ∨ (False)) := by
 unfold afk at h
 refine t8 (n := 151) (L0 := [(0, zP pb), (1, Value.iface 83 (Value.agg [zI p0, st s0, ua].toArray)), (2, zI need)]) Tryd.func31 rfl rfl rfl rfl (fun w0 M Q hE => ?_)
 have hi1 : LIn ⟨151, [], w0, M, (B ++ [(0, .cells [st ([124] : List UInt8), st ([38, 45] : List UInt8), st ([62, 62] : List UInt8), st ([126] : List UInt8), st ([46] : List UInt8)].toArray te fre)])⟩ ua us.length (us.flatMap adk) := y8.lin hRi1 (fun p hp => List.mem_append_left _ hp)
 refine a7 (fun _ hK => ?_)
 refine a6 ?_
 refine wA ?_
 refine WL.nil ?_
 refine kg (hK [(0, zP pb), (1, Value.iface 83 (Value.agg [zI p0, st s0, ua].toArray)), (2, zI need), (6, zI 6)] _ ?_)
 obtain ⟨J0, hJ, h⟩ := h
 refine l4 (X := Unit) (fun _ => J0) (fun _ => [(0, zP pb), (1, Value.iface 83 (Value.agg [zI p0, st s0, ua].toArray)), (2, zI need), (6, zI 6)]) (fun _ => [bld 90 5 pb bl]) ?_ (fun K0_4' hK_4' => ?_)
 ·rintro _ hj
  replace h := hJ () hj
  show WC _ _ _ _ [(0, zP pb), (1, Value.iface 83 (Value.agg [zI p0, st s0, ua].toArray)), (2, zI need), (6, zI 6)] [bld 90 5 pb bl]
  refine a7 (fun _ hK_5' => ?_)
  refine a7 (fun _ hK_6' => ?_)
  refine a6 ?_
  refine wm ?_
  refine wm ?_
  refine wv (OV.lss rfl rfl) ?_
  refine WL.nil ?_
  refine kg (hK_6' [(0, zP pb), (1, Value.iface 83 (Value.agg [zI p0, st s0, ua].toArray)), (6, zI 6), (30, zB (decide (6 < need)))] _ ?_)
  obtain ⟨o, h⟩ := h
  refine a8 (b := decide (6 < need)) rfl (fun hb => ?_) (fun hb => ?_)
  ·rw [o] at hb; cases hb
  refine b5 ?_
  refine kg (hK_5' [(0, zP pb), (1, Value.iface 83 (Value.agg [zI p0, st s0, ua].toArray)), (6, zI 6)] _ ?_)
  refine a7 (fun _ hK_7' => ?_)
  refine a6 ?_
  refine wm ?_
  refine WL.nil ?_
  refine kg (hK_7' [(0, zP pb), (6, zI 6), (38, Value.iface 83 (Value.agg [zI p0, st s0, ua].toArray))] _ ?_)
  refine b7 ?_
  refine a7 (fun _ hK_8' => ?_)
  refine a6 ?_
  refine wv (OV.assertNo (t2 := 83) (v := Value.agg [zI p0, st s0, ua].toArray) rfl abi ace rfl) ?_
  refine wv (OV.extract 1 rfl rfl) ?_
  refine wv (OV.extract 0 rfl rfl) ?_
  refine WL.nil ?_
  refine kg (hK_8' [(0, zP pb), (6, zI 6), (38, Value.iface 83 (Value.agg [zI p0, st s0, ua].toArray)), (40, zB false), (41, Value.agg [zI 0, st []].toArray)] _ ?_)
  refine e8 rfl ?_
  refine a7 (fun _ hK_9' => ?_)
  refine a6 ?_
  refine wv (OV.assertNo (t2 := 83) (v := Value.agg [zI p0, st s0, ua].toArray) rfl acc acv rfl) ?_
  refine wv (OV.extract 1 rfl rfl) ?_
  refine wv (OV.extract 0 rfl rfl) ?_
  refine WL.nil ?_
  refine kg (hK_9' [(0, zP pb), (6, zI 6), (38, Value.iface 83 (Value.agg [zI p0, st s0, ua].toArray)), (49, zB false), (50, Value.agg [zI 0, st []].toArray)] _ ?_)
  refine e8 rfl ?_
  refine a7 (fun _ hK_10' => ?_)
  refine a6 ?_
  refine wv (OV.assertNo (t2 := 83) (v := Value.agg [zI p0, st s0, ua].toArray) rfl ac0 ad6 rfl) ?_
  refine wv (OV.extract 1 rfl rfl) ?_
  refine wv (OV.extract 0 rfl rfl) ?_
  refine WL.nil ?_
  refine kg (hK_10' [(0, zP pb), (6, zI 6), (38, Value.iface 83 (Value.agg [zI p0, st s0, ua].toArray)), (59, zB false), (60, Value.agg [zI 0, st []].toArray)] _ ?_)
  refine e8 rfl ?_
  refine a7 (fun _ hK_11' => ?_)
  refine a6 ?_
  refine wv (OV.assertNo (t2 := 83) (v := Value.agg [zI p0, st s0, ua].toArray) rfl ad1 ae0 rfl) ?_
  refine wv (OV.extract 1 rfl rfl) ?_
  refine wv (OV.extract 0 rfl rfl) ?_
  refine WL.nil ?_
  refine kg (hK_11' [(0, zP pb), (6, zI 6), (38, Value.iface 83 (Value.agg [zI p0, st s0, ua].toArray)), (70, zB false), (71, Value.agg [zI 0, Value.nilIface].toArray)] _ ?_)
  refine e8 rfl ?_
  refine a7 (fun _ hK_12' => ?_)
  refine a6 ?_
  refine wv (OV.assertNo (t2 := 83) (v := Value.agg [zI p0, st s0, ua].toArray) rfl aae acb rfl) ?_
  refine wv (OV.extract 1 rfl rfl) ?_
  refine wv (OV.extract 0 rfl rfl) ?_
  refine WL.nil ?_
  refine kg (hK_12' [(0, zP pb), (6, zI 6), (38, Value.iface 83 (Value.agg [zI p0, st s0, ua].toArray)), (85, zB false), (86, Value.agg [zI 0, st [], Value.nilIface].toArray)] _ ?_)
  refine e8 rfl ?_
  refine a7 (fun _ hK_13' => ?_)
  refine a6 ?_
  refine wv (OV.assertNo (t2 := 83) (v := Value.agg [zI p0, st s0, ua].toArray) rfl aaf acf rfl) ?_
  refine wv (OV.extract 1 rfl rfl) ?_
  refine wv (OV.extract 0 rfl rfl) ?_
  refine WL.nil ?_
  refine kg (hK_13' [(0, zP pb), (6, zI 6), (38, Value.iface 83 (Value.agg [zI p0, st s0, ua].toArray)), (98, zB false), (99, Value.agg [zI 0, st [], Value.nilIface, Value.nilIface].toArray)] _ ?_)
  refine e8 rfl ?_
  refine a7 (fun _ hK_14' => ?_)
  refine a6 ?_
  refine wv (OV.assertYes (t' := 83) (v := Value.agg [zI p0, st s0, ua].toArray) rfl au8) ?_
  refine wv (OV.extract 1 rfl rfl) ?_
  refine wv (OV.extract 0 rfl rfl) ?_
  refine WL.nil ?_
  refine kg (hK_14' [(0, zP pb), (120, zB true), (121, Value.agg [zI p0, st s0, ua].toArray)] _ ?_)
  refine h8 rfl ?_
  refine a7 (fun _ hK_15' => ?_)
  refine a6 ?_
  refine WL.make (MV.alloc akd) rfl rfl rfl (fun b => ?_)
  refine WL.nilRow 37 1 adk ?_
  have hone := hi1.one
  refine WL.storeW (vs := [zI p0, st s0, ua]) 1 rfl rfl rfl rfl rfl ajz rfl (f7 rfl (f7 rfl (f7 hone y5))) rfl ?_
  refine WL.nil ?_
  refine kg (hK_15' [(0, zP pb), (15, zP b)] _ ?_)
  refine a7 (fun _ hK_16' => ?_)
  refine k8 6 [] f0 (by kernel_rfl) rfl (fun T hT => ?_)
  refine fv (fun _ => OV.move rfl) ?_
  refine fv (fun _ => OV.nilCheck rfl) ?_
  refine fv (fun _ => OV.fieldAddr0 rfl j6) ?_
  refine fv (fun _ => OV.fieldAddr0 rfl alg) ?_
  refine fv (fun _ => OV.load rfl (At.own 1 rfl) rfl c6) ?_
  obtain ⟨o_1', h⟩ := h
  refine fv (fun _ => OV.cat rfl rfl o_1') ?_
  refine FL.weak (L' := fun γ => [(0, zP pb), (15, zP b), (124, zP pb), (127, st (s0 ++ ([40] : List UInt8)))]) (fun γ => ⟨rfl, rfl, rfl, rfl, trivial⟩) (FL.nil (hT (fun γ => [(0, zP pb), (15, zP b), (124, zP pb), (127, st (s0 ++ ([40] : List UInt8)))]) (fun γ => ?_)))
  obtain ⟨o_2', h⟩ := h
  refine WL.pick (H' := [bld 90 5 pb bl, HA.row (Value.slice none 0 0) 37 1 ([] : List Value).length (([] : List Value).flatMap adk), HA.blk b (.cells [zI p0, st s0, ua].toArray 83 (0, 0))]) [2, 0, 1] rfl rfl ?_
  refine WL.call n3 rfl (j0 pb bl (s0 ++ ([40] : List UInt8)) o_2') rfl trivial rfl rfl ?_
  refine WL.nil ?_
  refine kg (hK_16' [(0, zP pb), (15, zP b)] _ ?_)
  refine a7 (fun _ hK_17' => ?_)
  refine a7 (fun _ hK_18' => ?_)
  refine a6 ?_
  refine wv (OV.fieldAddr0 rfl adl) ?_
  refine wv (OV.load rfl (At.own 2 rfl) rfl akl) ?_
  refine wv (OV.lenIn hi1 rfl ahl) ?_
  refine wm ?_
  refine WL.nil ?_
  refine kg (hK_18' [(0, zP pb), (130, ua), (131, zI (us.length : Int)), (132, zI 0)] _ ?_)
  refine b7 ?_
  refine WC.pick (H' := [bld 90 5 pb (bl ++ (s0 ++ ([40] : List UInt8)))]) [0] rfl rfl ?_
  obtain ⟨Inv, mu, h0, hr⟩ := h
  refine n6 (S := Int × (List UInt8)) (fun σ => Inv σ.1 σ.2) (fun σ => mu σ.1 σ.2) (fun σ => [(0, zP pb), (130, ua), (131, zI (us.length : Int)), (132, zI σ.1)]) (fun σ => [bld 90 5 pb σ.2]) (0, bl ++ (s0 ++ ([40] : List UInt8))) h0 ⟨rfl, rfl, rfl, rfl, trivial⟩ rfl ?_
  rintro ⟨t132_1', c_2'⟩ hi K0_33' hK_33'
  have h := hr t132_1' c_2' hi
  show WC _ _ _ _ [(0, zP pb), (130, ua), (131, zI (us.length : Int)), (132, zI t132_1')] [bld 90 5 pb c_2']
  refine a7 (fun _ hK_34' => ?_)
  refine a6 ?_
  refine wv (OV.lss rfl rfl) ?_
  refine WL.nil ?_
  refine kg (hK_34' [(0, zP pb), (130, ua), (131, zI (us.length : Int)), (132, zI t132_1'), (133, zB (decide (t132_1' < (us.length : Int))))] _ ?_)
  refine a7 (fun _ hK_35' => ?_)
  refine a8 (b := decide (t132_1' < (us.length : Int))) rfl (fun hb => ?_) (fun hb => ?_)
  ·replace h := e6 h hb
   refine b5 ?_
   refine kg (hK_35' [(0, zP pb), (130, ua), (131, zI (us.length : Int)), (132, zI t132_1')] _ ?_)
   refine a7 (fun _ hK_36' => ?_)
   refine b7 ?_
   refine a7 (fun _ hK_37' => ?_)
   refine a6 ?_
   refine wm ?_
   obtain ⟨o_12', h⟩ := h
   refine wv (OV.indexIn hi1 rfl rfl ahl o_12') ?_
   refine wv (OV.loadInE1 (f := adk) hi1 rfl aj5 (by omega) rfl t7) ?_
   refine wA ?_
   refine wA ?_
   refine WL.nil ?_
   refine kg (hK_37' [(0, zP pb), (16, zI t132_1'), (17, (us.getD (t132_1').toNat default)), (130, ua), (131, zI (us.length : Int)), (132, zI t132_1')] _ ?_)
   obtain ⟨J0_3', hJ_3', h⟩ := h
   refine l4 (X := (List UInt8)) (fun σ => J0_3' σ) (fun σ => [(0, zP pb), (17, (us.getD (t132_1').toNat default)), (130, ua), (131, zI (us.length : Int)), (132, zI t132_1')]) (fun σ => [bld 90 5 pb σ]) ?_ (fun K0_39' hK_39' => ?_)
   ·rintro c_3' hj
    replace h := hJ_3' c_3' hj
    show WC _ _ _ _ [(0, zP pb), (17, (us.getD (t132_1').toNat default)), (130, ua), (131, zI (us.length : Int)), (132, zI t132_1')] [bld 90 5 pb c_3']
    refine a6 ?_
    refine wm ?_
    refine wm ?_
    obtain ⟨o_14', h⟩ := h
    obtain ⟨o_15', h⟩ := h
    refine WL.call aan rfl (o_14' pb c_3' (0 : Int) o_15') rfl (ROk.of (fun _ h => h)) rfl rfl ?_
    refine WL.nil ?_
    refine kg (hK_36' [(0, zP pb), (130, ua), (131, zI (us.length : Int)), (132, zI t132_1')] _ ?_)
    refine a6 ?_
    obtain ⟨o_16', h⟩ := h
    refine wv (OV.add rfl rfl o_16') ?_
    refine wm ?_
    refine WL.nil ?_
    exact kh (hK_33' (t132_1' + 1, c_3' ++ d5 (xs.getD (t132_1').toNat default) (0 : Int)) h.1 h.2) [0]
   ·skip
    refine a7 (fun _ hK_40' => ?_)
    refine a6 ?_
    refine wm ?_
    refine wv (OV.gtr rfl rfl) ?_
    refine WL.nil ?_
    refine kg (hK_40' [(0, zP pb), (17, (us.getD (t132_1').toNat default)), (130, ua), (131, zI (us.length : Int)), (132, zI t132_1'), (138, zB (decide (0 < t132_1')))] _ ?_)
    refine a8 (b := decide (0 < t132_1')) rfl (fun hb => ?_) (fun hb => ?_)
    ·replace h := e6 h hb
     refine a6 ?_
     refine wm ?_
     refine wv (OV.nilCheck rfl) ?_
     refine wv (OV.fieldAddr0 rfl j6) ?_
     obtain ⟨o_17', h⟩ := h
     refine WL.call n3 rfl (j0 pb c_2' ([44, 32] : List UInt8) o_17') rfl trivial rfl rfl ?_
     refine WL.nil ?_
     exact kh (hK_39' (c_2' ++ ([44, 32] : List UInt8)) h) [0]
    ·replace h := d9 h hb
     refine b5 ?_
     exact kh (hK_39' c_2' h) [0]
  ·replace h := d9 h hb
   refine k9 ?_
   refine kg (hK_17' [(0, zP pb)] _ ?_)
   refine a6 ?_
   refine wm ?_
   refine wv (OV.nilCheck rfl) ?_
   refine wv (OV.fieldAddr0 rfl j6) ?_
   obtain ⟨o_18', h⟩ := h
   refine WL.call n3 rfl (j0 pb c_2' ([41] : List UInt8) o_18') rfl trivial rfl rfl ?_
   refine WL.nil ?_
   exact hE.norm (adf [0] rfl rfl (.inl ⟨_, h, rfl⟩) (d6.none rfl))
 ·skip
  refine a7 (fun _ hK_41' => ?_)
  refine a6 ?_
  refine wm ?_
  refine WL.nil ?_
  refine kg (hK_41' [(0, zP pb), (1, Value.iface 83 (Value.agg [zI p0, st s0, ua].toArray)), (2, zI need), (6, zI 6), (18, Value.iface 83 (Value.agg [zI p0, st s0, ua].toArray))] _ ?_)
  refine b7 ?_
  refine a7 (fun _ hK_42' => ?_)
  refine a6 ?_
  refine wv (OV.assertNo (t2 := 83) (v := Value.agg [zI p0, st s0, ua].toArray) rfl aaf acf rfl) ?_
  refine wv (OV.extract 1 rfl rfl) ?_
  refine wv (OV.extract 0 rfl rfl) ?_
  refine WL.nil ?_
  refine kg (hK_42' [(0, zP pb), (1, Value.iface 83 (Value.agg [zI p0, st s0, ua].toArray)), (2, zI need), (6, zI 6), (18, Value.iface 83 (Value.agg [zI p0, st s0, ua].toArray)), (20, zB false), (21, Value.agg [zI 0, st [], Value.nilIface, Value.nilIface].toArray)] _ ?_)
  refine e8 rfl ?_
  refine a7 (fun _ hK_43' => ?_)
  refine a6 ?_
  refine wv (OV.assertNo (t2 := 83) (v := Value.agg [zI p0, st s0, ua].toArray) rfl aae acb rfl) ?_
  refine wv (OV.extract 1 rfl rfl) ?_
  refine wv (OV.extract 0 rfl rfl) ?_
  refine WL.nil ?_
  refine kg (hK_43' [(0, zP pb), (1, Value.iface 83 (Value.agg [zI p0, st s0, ua].toArray)), (2, zI need), (6, zI 6), (26, zB false), (27, Value.agg [zI 0, st [], Value.nilIface].toArray)] _ ?_)
  refine e8 rfl ?_
  refine b5 ?_
  exact kh (hK_4' () h) [0]
def adt (te : TypeId) (fre : Nat × Nat) (B : List (Nat × Obj)) (bl : List UInt8) (_ : Int) (s0 : List UInt8) (u1 : Value) (need : Int) (x1 : Ex) (K : (List UInt8) → Prop) : Prop :=
 ∃ (J0 : Prop),
  (∀ (_ : Unit), J0 →
   ((decide (5 < need)) = true) ∧
   (bl.length + ([40] : List UInt8).length ≤ 140737488355328) ∧
   (u1.oneCell' = true) ∧
   (aar B te fre u1 x1) ∧
   (aa6 (bl ++ ([40] : List UInt8)) (5 : Int) x1) ∧
   (((bl ++ ([40] : List UInt8)) ++ d5 x1 (5 : Int)).length + s0.length ≤ 140737488355328) ∧
   ((((bl ++ ([40] : List UInt8)) ++ d5 x1 (5 : Int)) ++ s0).length + ([41] : List UInt8).length ≤ 140737488355328) ∧
   K ((((bl ++ ([40] : List UInt8)) ++ d5 x1 (5 : Int)) ++ s0) ++ ([41] : List UInt8))) ∧
  (u1.oneCell' = true) ∧
  J0
theorem ak6 (pb : Nat) (te : TypeId) (fre : Nat × Nat) (B : List (Nat × Obj)) (bl : List UInt8) (p0 : Int) (s0 : List UInt8) (u1 : Value) (need : Int) (x1 : Ex) (K : (List UInt8) → Prop) (h : adt te fre B bl p0 s0 u1 need x1 K) :
  d7 Tryd.prog 31 [zP pb, Value.iface 78 (Value.agg [zI p0, st s0, u1].toArray), zI need] (B ++ [(0, .cells [st ([124] : List UInt8), st ([38, 45] : List UInt8), st ([62, 62] : List UInt8), st ([126] : List UInt8), st ([46] : List UInt8)].toArray te fre)]) [bld 90 5 pb bl] (fun o => (∃ (d : List UInt8), K d ∧ o = .ret (Value.tuple #[]) [bld 90 5 pb d]) ∨ (False)) := by
 unfold adt at h
 refine t8 (n := 151) (L0 := [(0, zP pb), (1, Value.iface 78 (Value.agg [zI p0, st s0, u1].toArray)), (2, zI need)]) Tryd.func31 rfl rfl rfl rfl (fun w0 M Q hE => ?_)
 refine a7 (fun _ hK => ?_)
 refine a6 ?_
 refine wA ?_
 refine WL.nil ?_
 refine kg (hK [(0, zP pb), (1, Value.iface 78 (Value.agg [zI p0, st s0, u1].toArray)), (2, zI need), (6, zI 6)] _ ?_)
 obtain ⟨J0, hJ, h⟩ := h
 refine l4 (X := Unit) (fun _ => J0) (fun _ => [(0, zP pb), (1, Value.iface 78 (Value.agg [zI p0, st s0, u1].toArray)), (2, zI need), (6, zI 5)]) (fun _ => [bld 90 5 pb bl]) ?_ (fun K0_5' hK_5' => ?_)
 ·rintro _ hj
  replace h := hJ () hj
  show WC _ _ _ _ [(0, zP pb), (1, Value.iface 78 (Value.agg [zI p0, st s0, u1].toArray)), (2, zI need), (6, zI 5)] [bld 90 5 pb bl]
  refine amy (fun K0_6' hK_6' => ?_)
  refine a7 (fun _ hK_7' => ?_)
  refine a6 ?_
  refine wm ?_
  refine wm ?_
  refine wv (OV.lss rfl rfl) ?_
  refine WL.nil ?_
  refine kg (hK_7' [(0, zP pb), (1, Value.iface 78 (Value.agg [zI p0, st s0, u1].toArray)), (6, zI 5), (30, zB (decide (5 < need)))] _ ?_)
  obtain ⟨o_1', h⟩ := h
  refine a8 (b := decide (5 < need)) rfl (fun hb => ?_) (fun hb => ?_)
  rotate_left
  ·rw [o_1'] at hb; cases hb
  refine a7 (fun _ hK_8' => ?_)
  refine a6 ?_
  refine wm ?_
  refine wv (OV.nilCheck rfl) ?_
  refine wv (OV.fieldAddr0 rfl j6) ?_
  obtain ⟨o_2', h⟩ := h
  refine WL.call n3 rfl (j0 pb bl ([40] : List UInt8) o_2') rfl trivial rfl rfl ?_
  refine WL.nil ?_
  refine kg (hK_8' [(0, zP pb), (1, Value.iface 78 (Value.agg [zI p0, st s0, u1].toArray)), (6, zI 5)] _ ?_)
  refine a6 ?_
  refine wm ?_
  refine wv (OV.nilCheck rfl) ?_
  refine wv (OV.fieldAddr0 rfl j6) ?_
  refine WL.deferA rfl ?_
  refine WL.nil ?_
  refine kg (hK_6' _ [(0, zP pb), (1, Value.iface 78 (Value.agg [zI p0, st s0, u1].toArray)), (6, zI 5)] _ ?_)
  refine a7 (fun _ hK_9' => ?_)
  refine a6 ?_
  refine wm ?_
  refine WL.nil ?_
  refine kg (hK_9' [(0, zP pb), (6, zI 5), (38, Value.iface 78 (Value.agg [zI p0, st s0, u1].toArray))] _ ?_)
  refine b7 ?_
  refine a7 (fun _ hK_10' => ?_)
  refine a6 ?_
  refine wv (OV.assertNo (t2 := 78) (v := Value.agg [zI p0, st s0, u1].toArray) rfl abi ace rfl) ?_
  refine wv (OV.extract 1 rfl rfl) ?_
  refine wv (OV.extract 0 rfl rfl) ?_
  refine WL.nil ?_
  refine kg (hK_10' [(0, zP pb), (6, zI 5), (38, Value.iface 78 (Value.agg [zI p0, st s0, u1].toArray)), (40, zB false), (41, Value.agg [zI 0, st []].toArray)] _ ?_)
  refine e8 rfl ?_
  refine a7 (fun _ hK_11' => ?_)
  refine a6 ?_
  refine wv (OV.assertNo (t2 := 78) (v := Value.agg [zI p0, st s0, u1].toArray) rfl acc acv rfl) ?_
  refine wv (OV.extract 1 rfl rfl) ?_
  refine wv (OV.extract 0 rfl rfl) ?_
  refine WL.nil ?_
  refine kg (hK_11' [(0, zP pb), (6, zI 5), (38, Value.iface 78 (Value.agg [zI p0, st s0, u1].toArray)), (49, zB false), (50, Value.agg [zI 0, st []].toArray)] _ ?_)
  refine e8 rfl ?_
  refine a7 (fun _ hK_12' => ?_)
  refine a6 ?_
  refine wv (OV.assertNo (t2 := 78) (v := Value.agg [zI p0, st s0, u1].toArray) rfl ac0 ad6 rfl) ?_
  refine wv (OV.extract 1 rfl rfl) ?_
  refine wv (OV.extract 0 rfl rfl) ?_
  refine WL.nil ?_
  refine kg (hK_12' [(0, zP pb), (6, zI 5), (38, Value.iface 78 (Value.agg [zI p0, st s0, u1].toArray)), (59, zB false), (60, Value.agg [zI 0, st []].toArray)] _ ?_)
  refine e8 rfl ?_
  refine a7 (fun _ hK_13' => ?_)
  refine a6 ?_
  refine wv (OV.assertNo (t2 := 78) (v := Value.agg [zI p0, st s0, u1].toArray) rfl ad1 ae0 rfl) ?_
  refine wv (OV.extract 1 rfl rfl) ?_
  refine wv (OV.extract 0 rfl rfl) ?_
  refine WL.nil ?_
  refine kg (hK_13' [(0, zP pb), (6, zI 5), (38, Value.iface 78 (Value.agg [zI p0, st s0, u1].toArray)), (70, zB false), (71, Value.agg [zI 0, Value.nilIface].toArray)] _ ?_)
  refine e8 rfl ?_
  refine a7 (fun _ hK_14' => ?_)
  refine a6 ?_
  refine wv (OV.assertYes (t' := 78) (v := Value.agg [zI p0, st s0, u1].toArray) rfl aae) ?_
  refine wv (OV.extract 1 rfl rfl) ?_
  refine wv (OV.extract 0 rfl rfl) ?_
  refine WL.nil ?_
  refine kg (hK_14' [(0, zP pb), (6, zI 5), (38, Value.iface 78 (Value.agg [zI p0, st s0, u1].toArray)), (85, zB true), (86, Value.agg [zI p0, st s0, u1].toArray)] _ ?_)
  refine h8 rfl ?_
  refine a7 (fun _ hK_15' => ?_)
  refine a6 ?_
  refine WL.make (MV.alloc aer) rfl rfl rfl (fun b_1' => ?_)
  obtain ⟨o_3', h⟩ := h
  refine WL.storeW (vs := [zI p0, st s0, u1]) 0 rfl rfl rfl rfl rfl aem rfl (f7 rfl (f7 rfl (f7 o_3' y5))) rfl ?_
  refine WL.nil ?_
  refine kg (hK_15' [(0, zP pb), (13, zP b_1')] _ ?_)
  refine a7 (fun _ hK_16' => ?_)
  refine a6 ?_
  refine wm ?_
  refine wv (OV.fieldAddr0 rfl af5) ?_
  refine wv (OV.load rfl (At.own 0 rfl) rfl t7) ?_
  obtain ⟨o_4', h⟩ := h
  obtain ⟨o_5', h⟩ := h
  refine WL.pick (H' := [bld 90 5 pb (bl ++ ([40] : List UInt8)), HA.blk b_1' (.cells [zI p0, st s0, u1].toArray 78 (0, 0))]) [1, 0] rfl rfl ?_
  refine WL.call aan rfl (o_4' pb (bl ++ ([40] : List UInt8)) (5 : Int) o_5') rfl (ROk.of (fun _ h => h)) rfl rfl ?_
  refine WL.nil ?_
  refine kg (hK_16' [(0, zP pb), (13, zP b_1')] _ ?_)
  refine k8 5 [] f0 (by kernel_rfl) rfl (fun T hT => ?_)
  refine fv (fun _ => OV.move rfl) ?_
  refine fv (fun _ => OV.nilCheck rfl) ?_
  refine fv (fun _ => OV.fieldAddr0 rfl j6) ?_
  refine fv (fun _ => OV.fieldAddr0 rfl af6) ?_
  refine fv (fun _ => OV.load rfl (At.own 1 rfl) rfl c6) ?_
  refine FL.weak (L' := fun γ => [(93, zP pb), (95, st s0)]) (fun γ => ⟨rfl, rfl, trivial⟩) (FL.nil (hT (fun γ => [(93, zP pb), (95, st s0)]) (fun γ => ?_)))
  obtain ⟨o_6', h⟩ := h
  refine WL.call n3 rfl (j0 pb ((bl ++ ([40] : List UInt8)) ++ d5 x1 (5 : Int)) s0 o_6') rfl trivial rfl rfl ?_
  refine WL.nil ?_
  obtain ⟨o_7', h⟩ := h
  exact hE.norm (arv (A := [bld 90 5 pb (((bl ++ ([40] : List UInt8)) ++ d5 x1 (5 : Int)) ++ s0)]) (A' := [bld 90 5 pb ((((bl ++ ([40] : List UInt8)) ++ d5 x1 (5 : Int)) ++ s0) ++ ([41] : List UInt8))]) (Rest := [HA.blk b_1' (.cells [zI p0, st s0, u1].toArray 78 (0, 0))]) [0, 1] rfl rfl n3 (adc pb (((bl ++ ([40] : List UInt8)) ++ d5 x1 (5 : Int)) ++ s0) ([41] : List UInt8) o_7') trivial [0] rfl rfl (.inl ⟨_, h, rfl⟩) (d6.none rfl))
 ·skip
  refine a7 (fun _ hK_17' => ?_)
  refine a6 ?_
  refine wm ?_
  refine WL.nil ?_
  refine kg (hK_17' [(0, zP pb), (1, Value.iface 78 (Value.agg [zI p0, st s0, u1].toArray)), (2, zI need), (6, zI 6), (18, Value.iface 78 (Value.agg [zI p0, st s0, u1].toArray))] _ ?_)
  refine b7 ?_
  refine a7 (fun _ hK_18' => ?_)
  refine a6 ?_
  refine wv (OV.assertNo (t2 := 78) (v := Value.agg [zI p0, st s0, u1].toArray) rfl aaf acf rfl) ?_
  refine wv (OV.extract 1 rfl rfl) ?_
  refine wv (OV.extract 0 rfl rfl) ?_
  refine WL.nil ?_
  refine kg (hK_18' [(0, zP pb), (1, Value.iface 78 (Value.agg [zI p0, st s0, u1].toArray)), (2, zI need), (6, zI 6), (18, Value.iface 78 (Value.agg [zI p0, st s0, u1].toArray)), (20, zB false), (21, Value.agg [zI 0, st [], Value.nilIface, Value.nilIface].toArray)] _ ?_)
  refine e8 rfl ?_
  refine a7 (fun _ hK_19' => ?_)
  refine a6 ?_
  refine wv (OV.assertYes (t' := 78) (v := Value.agg [zI p0, st s0, u1].toArray) rfl aae) ?_
  refine wv (OV.extract 1 rfl rfl) ?_
  refine wv (OV.extract 0 rfl rfl) ?_
  refine WL.nil ?_
  refine kg (hK_19' [(0, zP pb), (1, Value.iface 78 (Value.agg [zI p0, st s0, u1].toArray)), (2, zI need), (6, zI 6), (26, zB true), (27, Value.agg [zI p0, st s0, u1].toArray)] _ ?_)
  refine h8 rfl ?_
  refine a7 (fun _ hK_20' => ?_)
  refine a6 ?_
  refine WL.make (MV.alloc aer) rfl rfl rfl (fun b_2' => ?_)
  obtain ⟨o_8', h⟩ := h
  refine WL.storeW (vs := [zI p0, st s0, u1]) 0 rfl rfl rfl rfl rfl aem rfl (f7 rfl (f7 rfl (f7 o_8' y5))) rfl ?_
  refine WL.nil ?_
  refine kg (hK_20' [(0, zP pb), (1, Value.iface 78 (Value.agg [zI p0, st s0, u1].toArray)), (2, zI need)] _ ?_)
  refine a6 ?_
  refine wA ?_
  refine WL.nil ?_
  exact kh (hK_5' () h) [1]
def acy (te : TypeId) (fre : Nat × Nat) (B : List (Nat × Obj)) (bl : List UInt8) (_ : Int) (s0 : List UInt8) (u1 : Value) (u2 : Value) (need : Int) (x1 : Ex) (x2 : Ex) (K : (List UInt8) → Prop) : Prop :=
 ∃ (J0 : Prop),
  (∀ (_ : Unit), J0 →
   ((decide (c9 s0 < need)) = true) ∧
   (bl.length + ([40] : List UInt8).length ≤ 140737488355328) ∧
   (u1.oneCell' = true) ∧
   (u2.oneCell' = true) ∧
   (aar B te fre u1 x1) ∧
   (aa6 (bl ++ ([40] : List UInt8)) (c9 s0) x1) ∧
   (([32] : List UInt8).length + s0.length ≤ 9223372036854775807) ∧
   ((([32] : List UInt8) ++ s0).length + ([32] : List UInt8).length ≤ 9223372036854775807) ∧
   (((bl ++ ([40] : List UInt8)) ++ d5 x1 (c9 s0)).length + ((([32] : List UInt8) ++ s0) ++ ([32] : List UInt8)).length ≤ 140737488355328) ∧
   (I64 ((c9 s0) + 1)) ∧
   (aar B te fre u2 x2) ∧
   (aa6 (((bl ++ ([40] : List UInt8)) ++ d5 x1 (c9 s0)) ++ ((([32] : List UInt8) ++ s0) ++ ([32] : List UInt8))) ((c9 s0) + 1) x2) ∧
   (((((bl ++ ([40] : List UInt8)) ++ d5 x1 (c9 s0)) ++ ((([32] : List UInt8) ++ s0) ++ ([32] : List UInt8))) ++ d5 x2 ((c9 s0) + 1)).length + ([41] : List UInt8).length ≤ 140737488355328) ∧
   K (((((bl ++ ([40] : List UInt8)) ++ d5 x1 (c9 s0)) ++ ((([32] : List UInt8) ++ s0) ++ ([32] : List UInt8))) ++ d5 x2 ((c9 s0) + 1)) ++ ([41] : List UInt8))) ∧
  (u1.oneCell' = true) ∧
  (u2.oneCell' = true) ∧
  (adj s0) ∧
  J0
theorem ai7 (pb : Nat) (te : TypeId) (fre : Nat × Nat) (B : List (Nat × Obj)) (bl : List UInt8) (p0 : Int) (s0 : List UInt8) (u1 : Value) (u2 : Value) (need : Int) (x1 : Ex) (x2 : Ex) (K : (List UInt8) → Prop) (h : acy te fre B bl p0 s0 u1 u2 need x1 x2 K) :
  d7 Tryd.prog 31 [zP pb, Value.iface 80 (Value.agg [zI p0, st s0, u1, u2].toArray), zI need] (B ++ [(0, .cells [st ([124] : List UInt8), st ([38, 45] : List UInt8), st ([62, 62] : List UInt8), st ([126] : List UInt8), st ([46] : List UInt8)].toArray te fre)]) [bld 90 5 pb bl] (fun o => (∃ (d : List UInt8), K d ∧ o = .ret (Value.tuple #[]) [bld 90 5 pb d]) ∨ (False)) := by
 unfold acy at h
 refine t8 (n := 151) (L0 := [(0, zP pb), (1, Value.iface 80 (Value.agg [zI p0, st s0, u1, u2].toArray)), (2, zI need)]) Tryd.func31 rfl rfl rfl rfl (fun w0 M Q hE => ?_)
 refine a7 (fun _ hK => ?_)
 refine a6 ?_
 refine wA ?_
 refine WL.nil ?_
 refine kg (hK [(0, zP pb), (1, Value.iface 80 (Value.agg [zI p0, st s0, u1, u2].toArray)), (2, zI need), (6, zI 6)] _ ?_)
 obtain ⟨J0, hJ, h⟩ := h
 refine l4 (X := Unit) (fun _ => J0) (fun _ => [(0, zP pb), (1, Value.iface 80 (Value.agg [zI p0, st s0, u1, u2].toArray)), (2, zI need), (6, zI (c9 s0))]) (fun _ => [bld 90 5 pb bl]) ?_ (fun K0_4' hK_4' => ?_)
 ·rintro _ hj
  replace h := hJ () hj
  show WC _ _ _ _ [(0, zP pb), (1, Value.iface 80 (Value.agg [zI p0, st s0, u1, u2].toArray)), (2, zI need), (6, zI (c9 s0))] [bld 90 5 pb bl]
  refine amy (fun K0_5' hK_5' => ?_)
  refine a7 (fun _ hK_6' => ?_)
  refine a6 ?_
  refine wm ?_
  refine wm ?_
  refine wv (OV.lss rfl rfl) ?_
  refine WL.nil ?_
  refine kg (hK_6' [(0, zP pb), (1, Value.iface 80 (Value.agg [zI p0, st s0, u1, u2].toArray)), (6, zI (c9 s0)), (30, zB (decide (c9 s0 < need)))] _ ?_)
  obtain ⟨o_3', h⟩ := h
  refine a8 (b := decide (c9 s0 < need)) rfl (fun hb => ?_) (fun hb => ?_)
  rotate_left
  ·rw [o_3'] at hb; cases hb
  refine a7 (fun _ hK_7' => ?_)
  refine a6 ?_
  refine wm ?_
  refine wv (OV.nilCheck rfl) ?_
  refine wv (OV.fieldAddr0 rfl j6) ?_
  obtain ⟨o_4', h⟩ := h
  refine WL.call n3 rfl (j0 pb bl ([40] : List UInt8) o_4') rfl trivial rfl rfl ?_
  refine WL.nil ?_
  refine kg (hK_7' [(0, zP pb), (1, Value.iface 80 (Value.agg [zI p0, st s0, u1, u2].toArray)), (6, zI (c9 s0))] _ ?_)
  refine a6 ?_
  refine wm ?_
  refine wv (OV.nilCheck rfl) ?_
  refine wv (OV.fieldAddr0 rfl j6) ?_
  refine WL.deferA rfl ?_
  refine WL.nil ?_
  refine kg (hK_5' _ [(0, zP pb), (1, Value.iface 80 (Value.agg [zI p0, st s0, u1, u2].toArray)), (6, zI (c9 s0))] _ ?_)
  refine a7 (fun _ hK_8' => ?_)
  refine a6 ?_
  refine wm ?_
  refine WL.nil ?_
  refine kg (hK_8' [(0, zP pb), (6, zI (c9 s0)), (38, Value.iface 80 (Value.agg [zI p0, st s0, u1, u2].toArray))] _ ?_)
  refine b7 ?_
  refine a7 (fun _ hK_9' => ?_)
  refine a6 ?_
  refine wv (OV.assertNo (t2 := 80) (v := Value.agg [zI p0, st s0, u1, u2].toArray) rfl abi ace rfl) ?_
  refine wv (OV.extract 1 rfl rfl) ?_
  refine wv (OV.extract 0 rfl rfl) ?_
  refine WL.nil ?_
  refine kg (hK_9' [(0, zP pb), (6, zI (c9 s0)), (38, Value.iface 80 (Value.agg [zI p0, st s0, u1, u2].toArray)), (40, zB false), (41, Value.agg [zI 0, st []].toArray)] _ ?_)
  refine e8 rfl ?_
  refine a7 (fun _ hK_10' => ?_)
  refine a6 ?_
  refine wv (OV.assertNo (t2 := 80) (v := Value.agg [zI p0, st s0, u1, u2].toArray) rfl acc acv rfl) ?_
  refine wv (OV.extract 1 rfl rfl) ?_
  refine wv (OV.extract 0 rfl rfl) ?_
  refine WL.nil ?_
  refine kg (hK_10' [(0, zP pb), (6, zI (c9 s0)), (38, Value.iface 80 (Value.agg [zI p0, st s0, u1, u2].toArray)), (49, zB false), (50, Value.agg [zI 0, st []].toArray)] _ ?_)
  refine e8 rfl ?_
  refine a7 (fun _ hK_11' => ?_)
  refine a6 ?_
  refine wv (OV.assertNo (t2 := 80) (v := Value.agg [zI p0, st s0, u1, u2].toArray) rfl ac0 ad6 rfl) ?_
  refine wv (OV.extract 1 rfl rfl) ?_
  refine wv (OV.extract 0 rfl rfl) ?_
  refine WL.nil ?_
  refine kg (hK_11' [(0, zP pb), (6, zI (c9 s0)), (38, Value.iface 80 (Value.agg [zI p0, st s0, u1, u2].toArray)), (59, zB false), (60, Value.agg [zI 0, st []].toArray)] _ ?_)
  refine e8 rfl ?_
  refine a7 (fun _ hK_12' => ?_)
  refine a6 ?_
  refine wv (OV.assertNo (t2 := 80) (v := Value.agg [zI p0, st s0, u1, u2].toArray) rfl ad1 ae0 rfl) ?_
  refine wv (OV.extract 1 rfl rfl) ?_
  refine wv (OV.extract 0 rfl rfl) ?_
  refine WL.nil ?_
  refine kg (hK_12' [(0, zP pb), (6, zI (c9 s0)), (38, Value.iface 80 (Value.agg [zI p0, st s0, u1, u2].toArray)), (70, zB false), (71, Value.agg [zI 0, Value.nilIface].toArray)] _ ?_)
  refine e8 rfl ?_
  refine a7 (fun _ hK_13' => ?_)
  refine a6 ?_
  refine wv (OV.assertNo (t2 := 80) (v := Value.agg [zI p0, st s0, u1, u2].toArray) rfl aae acb rfl) ?_
  refine wv (OV.extract 1 rfl rfl) ?_
  refine wv (OV.extract 0 rfl rfl) ?_
  refine WL.nil ?_
  refine kg (hK_13' [(0, zP pb), (6, zI (c9 s0)), (38, Value.iface 80 (Value.agg [zI p0, st s0, u1, u2].toArray)), (85, zB false), (86, Value.agg [zI 0, st [], Value.nilIface].toArray)] _ ?_)
  refine e8 rfl ?_
  refine a7 (fun _ hK_14' => ?_)
  refine a6 ?_
  refine wv (OV.assertYes (t' := 80) (v := Value.agg [zI p0, st s0, u1, u2].toArray) rfl aaf) ?_
  refine wv (OV.extract 1 rfl rfl) ?_
  refine wv (OV.extract 0 rfl rfl) ?_
  refine WL.nil ?_
  refine kg (hK_14' [(0, zP pb), (6, zI (c9 s0)), (38, Value.iface 80 (Value.agg [zI p0, st s0, u1, u2].toArray)), (98, zB true), (99, Value.agg [zI p0, st s0, u1, u2].toArray)] _ ?_)
  refine h8 rfl ?_
  refine a7 (fun _ hK_15' => ?_)
  refine a6 ?_
  refine WL.make (MV.alloc aed) rfl rfl rfl (fun b_1' => ?_)
  obtain ⟨o_5', h⟩ := h
  obtain ⟨o_6', h⟩ := h
  refine WL.storeW (vs := [zI p0, st s0, u1, u2]) 0 rfl rfl rfl rfl rfl aes rfl (f7 rfl (f7 rfl (f7 o_5' (f7 o_6' y5)))) rfl ?_
  refine WL.nil ?_
  refine kg (hK_15' [(0, zP pb), (6, zI (c9 s0)), (14, zP b_1')] _ ?_)
  refine a7 (fun _ hK_16' => ?_)
  refine a6 ?_
  refine wm ?_
  refine wv (OV.fieldAddr0 rfl af7) ?_
  refine wv (OV.load rfl (At.own 0 rfl) rfl t7) ?_
  refine wm ?_
  obtain ⟨o_7', h⟩ := h
  obtain ⟨o_8', h⟩ := h
  refine WL.pick (H' := [bld 90 5 pb (bl ++ ([40] : List UInt8)), HA.blk b_1' (.cells [zI p0, st s0, u1, u2].toArray 80 (0, 0))]) [1, 0] rfl rfl ?_
  refine WL.call aan rfl (o_7' pb (bl ++ ([40] : List UInt8)) (c9 s0) o_8') rfl (ROk.of (fun _ h => h)) rfl rfl ?_
  refine WL.nil ?_
  refine kg (hK_16' [(0, zP pb), (6, zI (c9 s0)), (14, zP b_1')] _ ?_)
  refine a7 (fun _ hK_17' => ?_)
  refine k8 7 [] f0 (by kernel_rfl) rfl (fun T hT => ?_)
  refine fv (fun _ => OV.move rfl) ?_
  refine fv (fun _ => OV.nilCheck rfl) ?_
  refine fv (fun _ => OV.fieldAddr0 rfl j6) ?_
  refine fv (fun _ => OV.fieldAddr0 rfl ab3) ?_
  refine fv (fun _ => OV.load rfl (At.own 1 rfl) rfl c6) ?_
  obtain ⟨o_9', h⟩ := h
  refine fv (fun _ => OV.cat rfl rfl o_9') ?_
  obtain ⟨o_10', h⟩ := h
  refine fv (fun _ => OV.cat rfl rfl o_10') ?_
  refine FL.weak (L' := fun γ => [(0, zP pb), (6, zI (c9 s0)), (14, zP b_1'), (107, zP pb), (111, st ((([32] : List UInt8) ++ s0) ++ ([32] : List UInt8)))]) (fun γ => ⟨rfl, rfl, rfl, rfl, rfl, trivial⟩) (FL.nil (hT (fun γ => [(0, zP pb), (6, zI (c9 s0)), (14, zP b_1'), (107, zP pb), (111, st ((([32] : List UInt8) ++ s0) ++ ([32] : List UInt8)))]) (fun γ => ?_)))
  obtain ⟨o_11', h⟩ := h
  refine WL.call n3 rfl (j0 pb ((bl ++ ([40] : List UInt8)) ++ d5 x1 (c9 s0)) ((([32] : List UInt8) ++ s0) ++ ([32] : List UInt8)) o_11') rfl trivial rfl rfl ?_
  refine WL.nil ?_
  refine kg (hK_17' [(0, zP pb), (6, zI (c9 s0)), (14, zP b_1')] _ ?_)
  refine a6 ?_
  refine wm ?_
  refine wv (OV.fieldAddr0 rfl aga) ?_
  refine wv (OV.load rfl (At.own 1 rfl) rfl t7) ?_
  refine wm ?_
  obtain ⟨o_12', h⟩ := h
  refine wv (OV.add rfl rfl o_12') ?_
  obtain ⟨o_13', h⟩ := h
  obtain ⟨o_14', h⟩ := h
  refine WL.call aan rfl (o_13' pb (((bl ++ ([40] : List UInt8)) ++ d5 x1 (c9 s0)) ++ ((([32] : List UInt8) ++ s0) ++ ([32] : List UInt8))) ((c9 s0) + 1) o_14') rfl (ROk.of (fun _ h => h)) rfl rfl ?_
  refine WL.nil ?_
  obtain ⟨o_15', h⟩ := h
  exact hE.norm (arv (A := [bld 90 5 pb ((((bl ++ ([40] : List UInt8)) ++ d5 x1 (c9 s0)) ++ ((([32] : List UInt8) ++ s0) ++ ([32] : List UInt8))) ++ d5 x2 ((c9 s0) + 1))]) (A' := [bld 90 5 pb (((((bl ++ ([40] : List UInt8)) ++ d5 x1 (c9 s0)) ++ ((([32] : List UInt8) ++ s0) ++ ([32] : List UInt8))) ++ d5 x2 ((c9 s0) + 1)) ++ ([41] : List UInt8))]) (Rest := [HA.blk b_1' (.cells [zI p0, st s0, u1, u2].toArray 80 (0, 0))]) [0, 1] rfl rfl n3 (adc pb ((((bl ++ ([40] : List UInt8)) ++ d5 x1 (c9 s0)) ++ ((([32] : List UInt8) ++ s0) ++ ([32] : List UInt8))) ++ d5 x2 ((c9 s0) + 1)) ([41] : List UInt8) o_15') trivial [0] rfl rfl (.inl ⟨_, h, rfl⟩) (d6.none rfl))
 ·skip
  refine a7 (fun _ hK_18' => ?_)
  refine a6 ?_
  refine wm ?_
  refine WL.nil ?_
  refine kg (hK_18' [(0, zP pb), (1, Value.iface 80 (Value.agg [zI p0, st s0, u1, u2].toArray)), (2, zI need), (6, zI 6), (18, Value.iface 80 (Value.agg [zI p0, st s0, u1, u2].toArray))] _ ?_)
  refine b7 ?_
  refine a7 (fun _ hK_19' => ?_)
  refine a6 ?_
  refine wv (OV.assertYes (t' := 80) (v := Value.agg [zI p0, st s0, u1, u2].toArray) rfl aaf) ?_
  refine wv (OV.extract 1 rfl rfl) ?_
  refine wv (OV.extract 0 rfl rfl) ?_
  refine WL.nil ?_
  refine kg (hK_19' [(0, zP pb), (1, Value.iface 80 (Value.agg [zI p0, st s0, u1, u2].toArray)), (2, zI need), (6, zI 6), (18, Value.iface 80 (Value.agg [zI p0, st s0, u1, u2].toArray)), (20, zB true), (21, Value.agg [zI p0, st s0, u1, u2].toArray)] _ ?_)
  refine h8 rfl ?_
  refine a7 (fun _ hK_20' => ?_)
  refine a6 ?_
  refine WL.make (MV.alloc aed) rfl rfl rfl (fun b_2' => ?_)
  obtain ⟨o_16', h⟩ := h
  obtain ⟨o_17', h⟩ := h
  refine WL.storeW (vs := [zI p0, st s0, u1, u2]) 0 rfl rfl rfl rfl rfl aes rfl (f7 rfl (f7 rfl (f7 o_16' (f7 o_17' y5)))) rfl ?_
  refine WL.nil ?_
  refine kg (hK_20' [(0, zP pb), (1, Value.iface 80 (Value.agg [zI p0, st s0, u1, u2].toArray)), (2, zI need), (7, zP b_2')] _ ?_)
  refine a6 ?_
  refine wv (OV.fieldAddr0 rfl ab3) ?_
  refine wv (OV.load rfl (At.own 0 rfl) rfl c6) ?_
  obtain ⟨o_18', h⟩ := h
  refine WL.call (A := []) ahx rfl (ahy te fre s0 o_18') rfl ⟨.inr (List.mem_append_right _ (List.mem_of_getElem? (i := 0) rfl)), trivial⟩ rfl rfl ?_
  refine wA ?_
  refine WL.nil ?_
  exact kh (hK_4' () h) [1]
section
variable {te : TypeId} {fre : Nat × Nat} {B : List (Nat × Obj)}
theorem acl {pb : Nat} {l : List UInt8} {x : Out} (h : (∃ d : List UInt8, d = l ∧ x = .ret (.tuple #[]) [bld 90 5 pb d]) ∨ False) : x = .ret (.tuple #[]) [bld 90 5 pb l] := by
 rcases h with ⟨d, rfl, rfl⟩ | h
 ·rfl
 ·exact h.elim
theorem agv {r need : Int} {s : Bs} (h : ¬ r < need) : par r need s = s := if_neg h
theorem arh {r need : Int} {s : Bs} (h : r < need) : par r need s = [40] ++ s ++ [41] := if_pos h
theorem no6 {need : Int} (h : need ≤ 6) : (decide ((6 : Int) < need)) = false := by rw [decide_eq_false_iff_not]; omega
theorem aue (p : Int) (s : Bs) : aar B te fre (.iface 71 (.agg [.int .i64 p, st s].toArray)) (.name p s) := by
 intro pb l need hb
 obtain ⟨hn, hk, hl⟩ := hb
 have hlen := r8 (.name p s) need hk
 rw [d5, agv (r := rkX (.name p s)) (show ¬ (6 : Int) < need by omega), l5] at hlen ⊢
 refine (aoc pb te fre B l p s need (fun d => d = l ++ s) ?_).weak fun x h => acl h
 unfold afj
 exact ⟨True, fun _ _ => ⟨no6 hn.2, by omega, rfl⟩, trivial⟩
theorem au0 (p : Int) (s : Bs) : aar B te fre (.iface 73 (.agg [.int .i64 p, st s].toArray)) (.text p s) := by
 intro pb l need hb
 obtain ⟨hn, hk, hl⟩ := hb
 have hlen := r8 (.text p s) need hk
 rw [OKX] at hk
 rw [d5, agv (r := rkX (.text p s)) (show ¬ (6 : Int) < need by omega), l5] at hlen ⊢
 refine (ao2 pb te fre B l p s need (fun d => d = l ++ abc s) ?_).weak fun x h => acl h
 unfold aey
 exact ⟨True, fun _ _ => ⟨no6 hn.2, by omega, by omega, rfl⟩, trivial⟩
theorem atk (p : Int) (s : Bs) : aar B te fre (.iface 74 (.agg [.int .i64 p, st s].toArray)) (.regex p s) := by
 intro pb l need hb
 obtain ⟨hn, hk, hl⟩ := hb
 have hlen := r8 (.regex p s) need hk
 rw [OKX] at hk
 rw [d5, agv (r := rkX (.regex p s)) (show ¬ (6 : Int) < need by omega), l5] at hlen ⊢
 refine (anr pb te fre B l p s need (fun d => d = l ++ ([47] ++ s ++ [47])) ?_).weak fun x h => acl h
 unfold aei
 refine ⟨True, fun _ _ => ⟨no6 hn.2, ?_⟩, trivial⟩
 simp only [List.length_append, List.length_cons, List.length_nil] at hlen ⊢
 exact ⟨by omega, by omega, by omega, trivial⟩
theorem ata (p : Int) (a : Ex) (u : Value) (h1 : u.oneCell' = true) (h : aar B te fre u a) : aar B te fre (.iface 76 (.agg [.int .i64 p, u].toArray)) (.keyed p a) := by
 intro pb l need hb
 obtain ⟨hn, hk, hl⟩ := hb
 rw [OKX] at hk
 rw [wX] at hl
 have hlen := r8 a 0 hk
 rw [d5, agv (r := rkX (.keyed p a)) (show ¬ (6 : Int) < need by omega), l5]
 refine (am9 pb te fre B l p u need a (fun d => d = l ++ ([123] ++ d5 a 0 ++ [125])) ?_).weak fun x h => acl h
 unfold aea aa6
 simp only [List.length_append, List.length_cons, List.length_nil]
 exact ⟨True, fun _ _ => ⟨no6 hn.2, h1, by omega, h, ⟨by decide, hk, by omega⟩, by omega, by simp only [List.append_assoc]⟩, trivial⟩
theorem asd (p : Int) (o : Bs) (a : Ex) (u : Value) (h1 : u.oneCell' = true) (h : aar B te fre u a) : aar B te fre (.iface 78 (.agg [.int .i64 p, st o, u].toArray)) (.unary p o a) := by
 intro pb l need hb
 obtain ⟨hn, hk, hl⟩ := hb
 rw [OKX] at hk
 rw [wX] at hl
 have hlen := r8 a 5 hk.2
 by_cases h5 : (5 : Int) < need
 ·rw [d5, arh (show rkX (.unary p o a) < need from h5), l5]
  refine (ak6 pb te fre B l p o u need a (fun d => d = l ++ ([40] ++ (d5 a 5 ++ o) ++ [41])) ?_).weak fun x h => acl h
  unfold adt aa6
  simp only [List.length_append, List.length_cons, List.length_nil]
  exact ⟨True, fun _ _ => ⟨decide_eq_true h5, by omega, h1, h, ⟨by decide, hk.2, by omega⟩, by omega, by omega, by simp only [List.append_assoc]⟩, h1, trivial⟩
 ·rw [d5, agv (show ¬ rkX (.unary p o a) < need from h5), l5]
  refine (amv pb te fre B l p o u need a (fun d => d = l ++ (d5 a 5 ++ o)) ?_).weak fun x h => acl h
  unfold ad9 aa6
  simp only [List.length_append]
  exact ⟨True, fun _ _ => ⟨decide_eq_false h5, h1, h, ⟨by decide, hk.2, by omega⟩, by omega, by simp only [List.append_assoc]⟩, h1, trivial⟩
theorem aqk (p : Int) (o : Bs) (a b : Ex) (u1 u2 : Value) (h1 : u1.oneCell' = true) (h2 : u2.oneCell' = true) (g1 : aar B te fre u1 a) (g2 : aar B te fre u2 b) : aar B te fre (.iface 80 (.agg [.int .i64 p, st o, u1, u2].toArray)) (.binary p o a b) := by
 intro pb l need hb
 obtain ⟨hn, hk, hl⟩ := hb
 rw [OKX] at hk
 rw [wX] at hl
 obtain ⟨⟨hm, hr⟩, ka, kb⟩ := hk
 have hr4 := (ai3 o).2
 have hlen := r8 a (c9 o) ka
 have hlen2 := r8 b (c9 o + 1) kb
 have hol := akk hm
 have hi : I64 (c9 o + 1) := by unfold I64; omega
 by_cases h5 : c9 o < need
 ·rw [d5, arh (show rkX (.binary p o a b) < need from h5), l5]
  refine (ai7 pb te fre B l p o u1 u2 need a b (fun d => d = l ++ ([40] ++ (d5 a (c9 o) ++ ([32] ++ o ++ [32]) ++ d5 b (c9 o + 1)) ++ [41])) ?_).weak fun x h => acl h
  unfold acy aa6
  simp only [List.length_append, List.length_cons, List.length_nil]
  exact ⟨True, fun _ _ => ⟨decide_eq_true h5, by omega, h1, h2, g1, ⟨by omega, ka, by omega⟩, by omega, by omega, by omega, hi, g2, ⟨by omega, kb, by omega⟩, by omega, by simp only [List.append_assoc]⟩, h1, h2, hm, trivial⟩
 ·rw [d5, agv (show ¬ rkX (.binary p o a b) < need from h5), l5]
  refine (ala pb te fre B l p o u1 u2 need a b (fun d => d = l ++ (d5 a (c9 o) ++ ([32] ++ o ++ [32]) ++ d5 b (c9 o + 1))) ?_).weak fun x h => acl h
  unfold adq aa6
  simp only [List.length_append, List.length_cons, List.length_nil]
  exact ⟨True, fun _ _ => ⟨decide_eq_false h5, h1, h2, g1, ⟨by omega, ka, by omega⟩, by omega, by omega, by omega, hi, g2, ⟨by omega, kb, by omega⟩, by simp only [List.append_assoc]⟩, h1, h2, hm, trivial⟩
theorem aut (p : Int) (w : Bs) (l : ExL) (us : List Value) (ua : Value) (hI : y8 ua B us.length (us.flatMap adk)) (hlen : us.length = l.len) (g : ∀ i, i < l.len → aar B te fre (us.getD i default) (l.toL.getD i default)) : aar B te fre (.iface 83 (.agg [.int .i64 p, st w, ua].toArray)) (.call p w l) := by
 intro pb b need hb
 obtain ⟨hn, hk, hl⟩ := hb
 rw [OKX] at hk
 rw [wX] at hl
 have ha := ajm l hk.2
 have hll := akg l
 rw [d5, agv (r := rkX (.call p w l)) (show ¬ (6 : Int) < need by omega), l5]
 refine (aob pb ua te fre B b p w us need l.toL hI (fun d => d = b ++ (w ++ [40] ++ abo l ++ [41])) ?_).weak fun x h => acl h
 unfold afk
 simp only [List.length_append, List.length_cons, List.length_nil]
 refine ⟨True, fun _ _ => ⟨no6 hn.2, by omega, by omega, fun i c => 0 ≤ i ∧ i ≤ us.length ∧ (i.toNat < l.len → c ++ x7 l i.toNat = b ++ (w ++ [40]) ++ abo l) ∧ (l.len ≤ i.toNat → c = b ++ (w ++ [40]) ++ abo l) ∧ c.length + 20000 * wL (x7.dropA l i.toNat) ≤ b.length + 4097 + 20000 * wL l, fun i _ => (us.length - i).toNat, ⟨Int.le_refl _, by omega, fun _ => rfl, fun h => ?_, ?_⟩, ?_⟩, trivial⟩
 ·cases l with
  | nil => rw [abo]; simp
  | cons a r => exact absurd h (by show ¬ r.len + 1 ≤ 0; omega)
 ·rw [show (0 : Int).toNat = 0 from rfl, ajq]
  simp only [List.length_append, List.length_cons, List.length_nil]
  omega
 ·rintro i c ⟨i0, i1, i2, i3, i4⟩
  by_cases hi : i < us.length
  ·rw [if_pos (decide_eq_true hi)]
   have hil : i.toNat < l.len := by omega
   have i2 := i2 hil
   have ok := hk.2.at hil
   have hw : wL (x7.dropA l i.toNat) = wX (l.toL.getD i.toNat default) + 1 + wL (x7.dropA l (i.toNat + 1)) := by rw [aha hil, wL]
   have hc2 : (if 0 < i.toNat then ([44, 32] : Bs) else []).length ≤ 2 := by split <;> decide
   have hpl := r8 (l.toL.getD i.toNat default) 0 ok.1
   rw [aof hil] at i2
   refine ⟨⟨i0, hi⟩, fun c3 => c3 = c ++ (if 0 < i.toNat then [44, 32] else []), ?_, ?_⟩
   ·rintro c3 rfl
    refine ⟨g _ hil, ⟨by decide, ok.1, ?_⟩, by unfold I64; omega, ⟨by omega, by omega, fun _ => ?_, fun h => ?_, ?_⟩, by show (us.length - (i + 1)).toNat < (us.length - i).toNat; omega⟩
    ·rw [List.length_append]; omega
    ·rw [show (i + 1).toNat = i.toNat + 1 by omega, ← i2]; simp only [List.append_assoc]
    ·have he : x7 l (i.toNat + 1) = [] := al2 (by omega) (by omega)
     rw [he, List.append_nil] at i2
     rw [← i2]; simp only [List.append_assoc]
    ·rw [show (i + 1).toNat = i.toNat + 1 by omega, List.length_append, List.length_append]; omega
   ·by_cases h0 : 0 < i
    ·rw [if_pos (decide_eq_true h0)]
     rw [if_pos (show 0 < i.toNat by omega)]
     exact ⟨by omega, rfl⟩
    ·rw [if_neg (by rw [decide_eq_true_eq]; exact h0), if_neg (show ¬ 0 < i.toNat by omega), List.append_nil]
  ·rw [if_neg (by rw [decide_eq_true_eq]; exact hi)]
   have h3 := i3 (by omega)
   subst h3
   simp only [List.length_append, List.length_cons, List.length_nil]
   exact ⟨by omega, by simp only [List.append_assoc]⟩
end
mutual
theorem ac2 {te : TypeId} {fre : Nat × Nat} {B : List (Nat × Obj)} : ∀ (e : Ex) (u : Value), TV B e u → aar B te fre u e
 | .name p s, u, h => by rw [TV] at h; subst h; exact aue p s
 | .text p s, u, h => by rw [TV] at h; subst h; exact au0 p s
 | .regex p s, u, h => by rw [TV] at h; subst h; exact atk p s
 | .keyed p a, u, h => by rw [TV] at h; obtain ⟨u1, h1, rfl⟩ := h; exact ata p a u1 h1.one (ac2 a u1 h1)
 | .unary p o a, u, h => by rw [TV] at h; obtain ⟨u1, h1, rfl⟩ := h; exact asd p o a u1 h1.one (ac2 a u1 h1)
 | .binary p o a b, u, h => by rw [TV] at h; obtain ⟨u1, u2, h1, h2, rfl⟩ := h; exact aqk p o a b u1 u2 h1.one h2.one (ac2 a u1 h1) (ac2 b u2 h2)
 | .call p w l, u, h => by
  rw [TV] at h
  obtain ⟨us, ua, b, cs, h1, h2, h3, rfl⟩ := h
  exact aut p w l us ua ⟨_, h2.inSl (y6 aj5 us), fun p hp => by rw [List.mem_singleton.1 hp]; exact h3⟩ h1.len (ao8 l us h1)
theorem ao8 {te : TypeId} {fre : Nat × Nat} {B : List (Nat × Obj)} : ∀ (l : ExL) (us : List Value), TVL B l us → ∀ i, i < l.len → aar B te fre (us.getD i default) (l.toL.getD i default)
 | .nil, us, h, i, hi => absurd hi (Nat.not_lt_zero _)
 | .cons a r, us, h, i, hi => by
  rw [TVL] at h
  obtain ⟨u, vs, h1, h2, rfl⟩ := h
  cases i with
  | zero => exact ac2 a u h1
  | succ i => exact ao8 r vs h2 i (Nat.lt_of_succ_lt_succ hi)
end
end Go.Proofs.YtifajndacnfcbaaDoor
set_option maxRecDepth 100000
namespace Go.Proofs.YtifajndacnfcbaaDoor
open Go Go.RowKit
theorem ash : RowT Tryd.prog 41 3 := ⟨by kernel_rfl, by kernel_rfl⟩
theorem apu : abf Tryd.prog 41 = some [zI 0, st [], Value.nilIface] := by kernel_rfl
theorem aps : o7 Tryd.prog 41 3 = true := by kernel_rfl
theorem akz : e9 Tryd.prog 41 1 = some 1 := by kernel_rfl
theorem ak5 : e9 Tryd.prog 41 2 = some 2 := by kernel_rfl
theorem asv : l6 Tryd.prog 32 = true := by kernel_rfl
def ah6  (K : (List UInt8) → Prop) : Prop :=
 K []
theorem asg (te : TypeId) (fre : Nat × Nat)  (K : (List UInt8) → Prop) (h : ah6  K) :
  d7 Tryd.prog 12 [Value.pointer none] [(0, .cells [st ([124] : List UInt8), st ([38, 45] : List UInt8), st ([62, 62] : List UInt8), st ([126] : List UInt8), st ([46] : List UInt8)].toArray te fre)] [] (fun o => (∃ (v : List UInt8), K v ∧ o = .ret (st v) []) ∨ (False)) := by
 unfold ah6 at h
 refine c7 (n := 50) (L0 := [(0, Value.pointer none)]) Tryd.func12 rfl rfl rfl rfl (fun w0 M Q hE => ?_)
 refine a7 (fun _ hK => ?_)
 refine a6 ?_
 refine wA ?_
 refine WL.nil ?_
 refine kg (hK [(0, Value.pointer none)] _ ?_)
 refine a7 (fun _ hK_1' => ?_)
 refine a7 (fun _ hK_2' => ?_)
 refine a6 ?_
 refine wm ?_
 refine wv (OV.eqlPN rfl rfl Tryd.underlying23) ?_
 refine WL.nil ?_
 refine kg (hK_2' [(0, Value.pointer none), (7, zB true)] _ ?_)
 refine h8 rfl ?_
 refine a7 (fun _ hK_3' => ?_)
 refine a6 ?_
 refine wA ?_
 refine WL.nil ?_
 refine kg (hK_3' [(2, st [])] _ ?_)
 refine b8 ?_
 exact hE.ret [] rfl rfl (.inl ⟨_, h, rfl⟩) (d6.of1 rfl (RV.tmp rfl))
def aho (te : TypeId) (fre : Nat × Nat) (B : List (Nat × Obj)) (ds : List acm) (mv : Value) (xm : Ex) (dx : List Ex) (K : (List UInt8) → Prop) : Prop :=
 ∃ (Inv : Int → (List UInt8) → Prop) (mu : Int → (List UInt8) → Nat),
  Inv 0 [] ∧ ∀ (t15_1' : Int) (c_1' : List UInt8), Inv t15_1' c_1' →
   (if (decide (t15_1' < (ds.length : Int))) = true then
    (0 ≤ t15_1' ∧ t15_1' < (ds.length : Int)) ∧
    (((ds.getD (t15_1').toNat default).2.2).oneCell' = true) ∧
    (([108, 101, 116, 32] : List UInt8).length + ((ds.getD (t15_1').toNat default).2.1).length ≤ 9223372036854775807) ∧
    ((([108, 101, 116, 32] : List UInt8) ++ ((ds.getD (t15_1').toNat default).2.1)).length + ([32, 61, 32] : List UInt8).length ≤ 9223372036854775807) ∧
    (c_1'.length + ((([108, 101, 116, 32] : List UInt8) ++ ((ds.getD (t15_1').toNat default).2.1)) ++ ([32, 61, 32] : List UInt8)).length ≤ 140737488355328) ∧
    (aar B te fre ((ds.getD (t15_1').toNat default).2.2) (dx.getD (t15_1').toNat default)) ∧
    (aa6 (c_1' ++ ((([108, 101, 116, 32] : List UInt8) ++ ((ds.getD (t15_1').toNat default).2.1)) ++ ([32, 61, 32] : List UInt8))) (0 : Int) (dx.getD (t15_1').toNat default)) ∧
    (((c_1' ++ ((([108, 101, 116, 32] : List UInt8) ++ ((ds.getD (t15_1').toNat default).2.1)) ++ ([32, 61, 32] : List UInt8))) ++ d5 (dx.getD (t15_1').toNat default) (0 : Int)).length + ([59, 10] : List UInt8).length ≤ 140737488355328) ∧
    (I64 (t15_1' + 1)) ∧
    Inv (t15_1' + 1) (((c_1' ++ ((([108, 101, 116, 32] : List UInt8) ++ ((ds.getD (t15_1').toNat default).2.1)) ++ ([32, 61, 32] : List UInt8))) ++ d5 (dx.getD (t15_1').toNat default) (0 : Int)) ++ ([59, 10] : List UInt8)) ∧ mu (t15_1' + 1) (((c_1' ++ ((([108, 101, 116, 32] : List UInt8) ++ ((ds.getD (t15_1').toNat default).2.1)) ++ ([32, 61, 32] : List UInt8))) ++ d5 (dx.getD (t15_1').toNat default) (0 : Int)) ++ ([59, 10] : List UInt8)) < mu t15_1' c_1'
   else
    (aar B te fre mv xm) ∧
    (aa6 c_1' (0 : Int) xm) ∧
    ((c_1' ++ d5 xm (0 : Int)).length + ([10] : List UInt8).length ≤ 140737488355328) ∧
    K ((c_1' ++ d5 xm (0 : Int)) ++ ([10] : List UInt8)))
theorem as6 (qb : Nat) (wd : Value) (te : TypeId) (fre : Nat × Nat) (B : List (Nat × Obj)) (ds : List acm) (mv : Value) (xm : Ex) (dx : List Ex) (hRi1 : y8 wd B ds.length (ds.flatMap afi)) (hqb : (qb, .cells [wd, mv].toArray 39 (0, 0)) ∈ B) (K : (List UInt8) → Prop) (h : aho te fre B ds mv xm dx K) :
  d7 Tryd.prog 12 [zP qb] (B ++ [(0, .cells [st ([124] : List UInt8), st ([38, 45] : List UInt8), st ([62, 62] : List UInt8), st ([126] : List UInt8), st ([46] : List UInt8)].toArray te fre)]) [] (fun o => (∃ (v : List UInt8), K v ∧ o = .ret (st v) []) ∨ (False)) := by
 unfold aho at h
 refine c7 (n := 50) (L0 := [(0, zP qb)]) Tryd.func12 rfl rfl rfl rfl (fun w0 M Q hE => ?_)
 have hi1 : LIn ⟨50, [], w0, M, (B ++ [(0, .cells [st ([124] : List UInt8), st ([38, 45] : List UInt8), st ([62, 62] : List UInt8), st ([126] : List UInt8), st ([46] : List UInt8)].toArray te fre)])⟩ wd ds.length (ds.flatMap afi) := y8.lin hRi1 (fun p hp => List.mem_append_left _ hp)
 refine a7 (fun _ hK => ?_)
 refine a6 ?_
 refine wA ?_
 refine WL.nil ?_
 refine kg (hK [(0, zP qb)] _ ?_)
 refine a7 (fun _ hK_1' => ?_)
 refine a7 (fun _ hK_2' => ?_)
 refine a6 ?_
 refine wm ?_
 refine wv (OV.eqlPN rfl rfl Tryd.underlying23) ?_
 refine WL.nil ?_
 refine kg (hK_2' [(0, zP qb), (7, zB false)] _ ?_)
 refine e8 rfl ?_
 refine b5 ?_
 refine kg (hK_1' [(0, zP qb)] _ ?_)
 refine a7 (fun _ hK_3' => ?_)
 refine a6 ?_
 refine wv (OV.build rfl (cs := [Value.pointer none, Value.slice none 0 0]) rfl) ?_
 refine WL.make (MV.box (cs := [Value.pointer none, Value.slice none 0 0]) rfl rfl) rfl rfl rfl (fun b => ?_)
 refine WL.asBld 5 ?_
 refine wA ?_
 refine WL.nil ?_
 refine kg (hK_3' [(0, zP qb), (3, zP b)] _ ?_)
 refine a7 (fun _ hK_4' => ?_)
 refine a7 (fun _ hK_5' => ?_)
 refine a6 ?_
 refine wm ?_
 refine wv (OV.nilCheck rfl) ?_
 refine wv (OV.fieldAddr0 rfl adr) ?_
 refine wv (OV.load rfl (At.old (List.mem_append_left _ hqb)) rfl aju) ?_
 refine wv (OV.lenIn hi1 rfl ahj) ?_
 refine wm ?_
 refine WL.nil ?_
 refine kg (hK_5' [(0, zP qb), (3, zP b), (13, wd), (14, zI (ds.length : Int)), (15, zI 0)] _ ?_)
 refine b7 ?_
 obtain ⟨Inv, mu, h0, hr⟩ := h
 refine n6 (S := Int × (List UInt8)) (fun σ => Inv σ.1 σ.2) (fun σ => mu σ.1 σ.2) (fun σ => [(0, zP qb), (3, zP b), (13, wd), (14, zI (ds.length : Int)), (15, zI σ.1)]) (fun σ => [bld 90 5 b σ.2]) (0, []) h0 ⟨rfl, rfl, rfl, rfl, rfl, trivial⟩ rfl ?_
 rintro ⟨t15_1', c_1'⟩ hi K0_18' hK_18'
 have h := hr t15_1' c_1' hi
 show WC _ _ _ _ [(0, zP qb), (3, zP b), (13, wd), (14, zI (ds.length : Int)), (15, zI t15_1')] [bld 90 5 b c_1']
 refine a7 (fun _ hK_19' => ?_)
 refine a6 ?_
 refine wv (OV.lss rfl rfl) ?_
 refine WL.nil ?_
 refine kg (hK_19' [(0, zP qb), (3, zP b), (13, wd), (14, zI (ds.length : Int)), (15, zI t15_1'), (16, zB (decide (t15_1' < (ds.length : Int))))] _ ?_)
 refine a7 (fun _ hK_20' => ?_)
 refine a8 (b := decide (t15_1' < (ds.length : Int))) rfl (fun hb => ?_) (fun hb => ?_)
 ·replace h := e6 h hb
  refine b5 ?_
  refine kg (hK_20' [(0, zP qb), (3, zP b), (13, wd), (14, zI (ds.length : Int)), (15, zI t15_1')] _ ?_)
  refine a7 (fun _ hK_21' => ?_)
  refine b7 ?_
  refine a7 (fun _ hK_22' => ?_)
  refine a6 ?_
  obtain ⟨o_17', h⟩ := h
  refine wv (OV.indexIn hi1 rfl rfl ahj o_17') ?_
  refine wv (OV.loadInE (f := afi) hi1 rfl ai6 (by decide) (by omega) ash) ?_
  refine WL.make (MV.alloc apu) rfl rfl rfl (fun b_3' => ?_)
  obtain ⟨o_18', h⟩ := h
  refine WL.storeW (vs := [zI ((ds.getD (t15_1').toNat default).1), st ((ds.getD (t15_1').toNat default).2.1), (ds.getD (t15_1').toNat default).2.2]) 0 rfl rfl rfl rfl rfl aps rfl (f7 rfl (f7 rfl (f7 o_18' y5))) rfl ?_
  refine WL.nil ?_
  refine kg (hK_22' [(0, zP qb), (3, zP b), (5, zP b_3'), (13, wd), (14, zI (ds.length : Int)), (15, zI t15_1')] _ ?_)
  refine a7 (fun _ hK_23' => ?_)
  refine k8 7 [] f0 (by kernel_rfl) rfl (fun T_2' hT_2' => ?_)
  refine fv (fun _ => OV.move rfl) ?_
  refine fv (fun _ => OV.nilCheck rfl) ?_
  refine fv (fun _ => OV.fieldAddr0 rfl j6) ?_
  refine fv (fun _ => OV.fieldAddr0 rfl akz) ?_
  refine fv (fun _ => OV.load rfl (At.own 0 rfl) rfl c6) ?_
  obtain ⟨o_19', h⟩ := h
  refine fv (fun _ => OV.cat rfl rfl o_19') ?_
  obtain ⟨o_20', h⟩ := h
  refine fv (fun _ => OV.cat rfl rfl o_20') ?_
  refine FL.weak (L' := fun γ => [(0, zP qb), (3, zP b), (5, zP b_3'), (13, wd), (14, zI (ds.length : Int)), (15, zI t15_1'), (21, zP b), (25, st ((([108, 101, 116, 32] : List UInt8) ++ ((ds.getD (t15_1').toNat default).2.1)) ++ ([32, 61, 32] : List UInt8)))]) (fun γ => ⟨rfl, rfl, rfl, rfl, rfl, rfl, rfl, rfl, trivial⟩) (FL.nil (hT_2' (fun γ => [(0, zP qb), (3, zP b), (5, zP b_3'), (13, wd), (14, zI (ds.length : Int)), (15, zI t15_1'), (21, zP b), (25, st ((([108, 101, 116, 32] : List UInt8) ++ ((ds.getD (t15_1').toNat default).2.1)) ++ ([32, 61, 32] : List UInt8)))]) (fun γ => ?_)))
  obtain ⟨o_21', h⟩ := h
  refine WL.pick (H' := [bld 90 5 b c_1', HA.blk b_3' (.cells [zI ((ds.getD (t15_1').toNat default).1), st ((ds.getD (t15_1').toNat default).2.1), (ds.getD (t15_1').toNat default).2.2].toArray 41 (0, 0))]) [1, 0] rfl rfl ?_
  refine WL.call n3 rfl (j0 b c_1' ((([108, 101, 116, 32] : List UInt8) ++ ((ds.getD (t15_1').toNat default).2.1)) ++ ([32, 61, 32] : List UInt8)) o_21') rfl trivial rfl rfl ?_
  refine WL.nil ?_
  refine kg (hK_23' [(0, zP qb), (3, zP b), (5, zP b_3'), (13, wd), (14, zI (ds.length : Int)), (15, zI t15_1')] _ ?_)
  refine a7 (fun _ hK_24' => ?_)
  refine a6 ?_
  refine wm ?_
  refine wv (OV.fieldAddr0 rfl ak5) ?_
  refine wv (OV.load rfl (At.own 1 rfl) rfl t7) ?_
  obtain ⟨o_22', h⟩ := h
  obtain ⟨o_23', h⟩ := h
  refine WL.call aan rfl (o_22' b (c_1' ++ ((([108, 101, 116, 32] : List UInt8) ++ ((ds.getD (t15_1').toNat default).2.1)) ++ ([32, 61, 32] : List UInt8))) (0 : Int) o_23') rfl (ROk.of (fun _ h => h)) rfl rfl ?_
  refine WL.nil ?_
  refine kg (hK_24' [(0, zP qb), (3, zP b), (13, wd), (14, zI (ds.length : Int)), (15, zI t15_1')] _ ?_)
  refine a6 ?_
  refine wm ?_
  refine wv (OV.nilCheck rfl) ?_
  refine wv (OV.fieldAddr0 rfl j6) ?_
  obtain ⟨o_24', h⟩ := h
  refine WL.call n3 rfl (j0 b ((c_1' ++ ((([108, 101, 116, 32] : List UInt8) ++ ((ds.getD (t15_1').toNat default).2.1)) ++ ([32, 61, 32] : List UInt8))) ++ d5 (dx.getD (t15_1').toNat default) (0 : Int)) ([59, 10] : List UInt8) o_24') rfl trivial rfl rfl ?_
  refine WL.nil ?_
  refine kg (hK_21' [(0, zP qb), (3, zP b), (13, wd), (14, zI (ds.length : Int)), (15, zI t15_1')] _ ?_)
  refine a6 ?_
  obtain ⟨o_25', h⟩ := h
  refine wv (OV.add rfl rfl o_25') ?_
  refine wm ?_
  refine WL.nil ?_
  exact kh (hK_18' (t15_1' + 1, ((c_1' ++ ((([108, 101, 116, 32] : List UInt8) ++ ((ds.getD (t15_1').toNat default).2.1)) ++ ([32, 61, 32] : List UInt8))) ++ d5 (dx.getD (t15_1').toNat default) (0 : Int)) ++ ([59, 10] : List UInt8)) h.1 h.2) [0]
 ·replace h := d9 h hb
  refine k9 ?_
  refine kg (hK_4' [(0, zP qb), (3, zP b)] _ ?_)
  refine a7 (fun _ hK_25' => ?_)
  refine a6 ?_
  refine wm ?_
  refine wm ?_
  refine wv (OV.nilCheck rfl) ?_
  refine wv (OV.fieldAddr0 rfl ab8) ?_
  refine wv (OV.load rfl (At.old (List.mem_append_left _ hqb)) rfl t7) ?_
  obtain ⟨o_26', h⟩ := h
  obtain ⟨o_27', h⟩ := h
  refine WL.call aan rfl (o_26' b c_1' (0 : Int) o_27') rfl (ROk.of (fun _ h => h)) rfl rfl ?_
  refine WL.nil ?_
  refine kg (hK_25' [(3, zP b)] _ ?_)
  refine a7 (fun _ hK_26' => ?_)
  refine a6 ?_
  refine wm ?_
  refine wv (OV.nilCheck rfl) ?_
  refine wv (OV.fieldAddr0 rfl j6) ?_
  obtain ⟨o_28', h⟩ := h
  refine WL.call n3 rfl (j0 b (c_1' ++ d5 xm (0 : Int)) ([10] : List UInt8) o_28') rfl trivial rfl rfl ?_
  refine WL.nil ?_
  refine kg (hK_26' [(3, zP b)] _ ?_)
  refine a7 (fun _ hK_27' => ?_)
  refine a6 ?_
  refine wm ?_
  refine wv (OV.nilCheck rfl) ?_
  refine wv (OV.fieldAddr0 rfl j6) ?_
  refine WL.call asv rfl (ao5 b ((c_1' ++ d5 xm (0 : Int)) ++ ([10] : List UInt8))) rfl trivial rfl rfl ?_
  refine wA ?_
  refine WL.nil ?_
  refine kg (hK_27' [(2, st ((c_1' ++ d5 xm (0 : Int)) ++ ([10] : List UInt8)))] _ ?_)
  refine b8 ?_
  exact hE.ret [] rfl rfl (.inl ⟨_, h, rfl⟩) (d6.of1 rfl (RV.tmp rfl))
def au3 (d : r9) : Bs := [108, 101, 116, 32] ++ d.2.1 ++ [32, 61, 32] ++ d5 d.2.2 0 ++ [59, 10]
def aih (l : List r9) : Bs := l.flatMap au3
def aao (l : List r9) (a : Ex) : Bs := aih l ++ d5 a 0 ++ [10]
def wD : List r9 → Nat
 | [] => 0
 | d :: r => 1 + wX d.2.2 + wD r
def OKP (l : List r9) (a : Ex) : Prop := (∀ d ∈ l, d.2.1.length ≤ 4096 ∧ OKX d.2.2) ∧ OKX a ∧ wD l + wX a ≤ 100000
theorem aty {d : r9} (h : d.2.1.length ≤ 4096 ∧ OKX d.2.2) : (au3 d).length ≤ 20000 * (1 + wX d.2.2) := by
 have := r8 d.2.2 0 h.2
 unfold au3
 simp only [List.length_append, List.length_cons, List.length_nil]; omega
theorem ad3 : ∀ {l : List r9}, (∀ d ∈ l, d.2.1.length ≤ 4096 ∧ OKX d.2.2) → (aih l).length ≤ 20000 * wD l
 | [], _ => Nat.le_refl _
 | d :: r, h => by
  have h1 := aty (h d List.mem_cons_self)
  have h2 := ad3 fun x hx => h x (List.mem_cons_of_mem _ hx)
  unfold aih at h2 ⊢
  rw [List.flatMap_cons, List.length_append, wD]; omega
theorem ani : ∀ (l : List r9) (i : Nat), wD (l.take i) ≤ wD l
 | [], i => by rw [List.take_nil]; exact Nat.le_refl _
 | d :: r, 0 => Nat.zero_le _
 | d :: r, i + 1 => by have := ani r i; rw [List.take_succ_cons, wD, wD]; omega
theorem auv : ∀ {l : List r9} {i : Nat}, i < l.length → 1 + wX (l.getD i default).2.2 ≤ wD l
 | d :: r, 0, _ => by rw [wD]; show 1 + wX d.2.2 ≤ _; omega
 | d :: r, i + 1, h => by have := auv (Nat.lt_of_succ_lt_succ h); rw [wD]; show 1 + wX (r.getD i default).2.2 ≤ _; omega
theorem ahv : ∀ l : List r9, l.length ≤ wD l
 | [] => Nat.zero_le _
 | d :: r => by have := ahv r; rw [wD, List.length_cons]; omega
theorem TDs.at {B : List (Nat × Obj)} : ∀ {l : List r9} {ds : List acm} {i : Nat}, TDs B l ds → i < l.length → (ds.getD i default).1 = (l.getD i default).1 ∧ (ds.getD i default).2.1 = (l.getD i default).2.1 ∧ TV B (l.getD i default).2.2 (ds.getD i default).2.2
 | d :: r, x :: s, 0, h, _ => h.1
 | d :: r, x :: s, i + 1, h, hi => by
  show (s.getD i default).1 = (r.getD i default).1 ∧ (s.getD i default).2.1 = (r.getD i default).2.1 ∧ TV B (r.getD i default).2.2 (s.getD i default).2.2
  exact TDs.at h.2 (Nat.lt_of_succ_lt_succ hi)
 | d :: r, [], _, h, _ => h.elim
theorem akp {l : List r9} {i : Nat} (h : i < l.length) : aih (l.take (i + 1)) = aih (l.take i) ++ au3 (l.getD i default) := by
 unfold aih
 rw [List.take_add_one, List.flatMap_append, List.getElem?_eq_getElem h, List.getD_eq_getElem?_getD, List.getElem?_eq_getElem h]
 simp
theorem aup {l : List r9} {i : Nat} (h : i < l.length) : (l.map (fun d => d.2.2)).getD i default = (l.getD i default).2.2 := by
 rw [List.getD_eq_getElem?_getD, List.getD_eq_getElem?_getD, List.getElem?_map, List.getElem?_eq_getElem h]; rfl
theorem auq {l : List r9} {i : Nat} (h : i < l.length) : l.getD i default ∈ l := by
 rw [List.getD_eq_getElem?_getD, List.getElem?_eq_getElem h]; exact List.getElem_mem h
theorem amf (te : TypeId) (fre : Nat × Nat) : d7 Tryd.prog 12 [.pointer none] (ac5 te fre) [] (Ret (st []) []) := by
 refine (asg te fre (fun d => d = []) ?_).weak ?_
 ·unfold ah6; rfl
 ·rintro x (⟨d, rfl, rfl⟩ | h)
  ·rfl
  ·exact h.elim
theorem ai5 (te : TypeId) (fre : Nat × Nat) (B : List (Nat × Obj)) (b : Nat) (w m : Value) (ds : List acm) (B1 : List (Nat × Obj)) (l : List r9) (a : Ex) (h : afc B b w m ds B1 l a ∧ OKP l a) :
  d7 Tryd.prog 12 [.pointer (some ⟨b, 0, none⟩)] (B ++ ac5 te fre) [] (Ret (st (aao l a)) []) := by
 obtain ⟨⟨h1, h2, h3, h4, h5⟩, k1, k2, k3⟩ := h
 have hl := h1.len
 have hdl := ad3 k1
 have hll := ahv l
 have hal := r8 a 0 k2
 refine (as6 b w te fre B ds m a (l.map fun d => d.2.2) ⟨_, h3.inSl (y6 ai6 ds), h4⟩ h5 (fun d => d = aao l a) ?_).weak ?_
 ·unfold aho
  refine ⟨fun i c => 0 ≤ i ∧ i ≤ ds.length ∧ c = aih (l.take i.toNat), fun i _ => (ds.length - i).toNat, ⟨Int.le_refl _, by omega, rfl⟩, ?_⟩
  rintro i c ⟨i0, i1, rfl⟩
  have hpl := ad3 (l := l.take i.toNat) fun d hd => k1 d (List.mem_of_mem_take hd)
  have hpt := ani l i.toNat
  by_cases hi : i < ds.length
  ·rw [if_pos (decide_eq_true hi)]
   have hil : i.toNat < l.length := by omega
   obtain ⟨t1, t2, t3⟩ := h1.at hil
   have hw := auv hil
   have hk := k1 _ (auq hil)
   have hp := r8 _ 0 hk.2
   rw [aup hil, t2]
   simp only [List.length_append, List.length_cons, List.length_nil]
   refine ⟨⟨i0, hi⟩, t3.one, by omega, by omega, by omega, ac2 _ _ t3, ⟨by decide, hk.2, ?_⟩, by omega, by unfold I64; omega, ⟨by omega, by omega, ?_⟩, by show (ds.length - (i + 1)).toNat < (ds.length - i).toNat; omega⟩
   ·simp only [List.length_append, List.length_cons, List.length_nil]; omega
   ·rw [show (i + 1).toNat = i.toNat + 1 by omega, akp hil]
    unfold au3
    simp only [List.append_assoc]
  ·rw [if_neg (by rw [decide_eq_true_eq]; exact hi)]
   rw [List.take_of_length_le (by omega)]
   exact ⟨ac2 _ _ h2, ⟨by decide, k2, by omega⟩, by simp only [List.length_append, List.length_cons, List.length_nil]; omega, rfl⟩
 ·rintro x (⟨d, rfl, rfl⟩ | h)
  ·rfl
  ·exact h.elim
end Go.Proofs.YtifajndacnfcbaaDoor
set_option maxRecDepth 100000
namespace Go.Proofs.YtifajndacnfcbaaDoor
open Go Go.RowKit
def nmB (c : UInt8) : Bool := j7 (c.toNat : Int) || m5 (c.toNat : Int)
inductive Rx : List UInt8 → Prop
 | nil : Rx []
 | esc (d : UInt8) (r : List UInt8) : m6 (d.toNat : Int) = true → Rx r → Rx (92 :: d :: r)
 | one (c : UInt8) (r : List UInt8) : m6 (c.toNat : Int) = true → c ≠ 47 → c ≠ 92 → Rx r → Rx (c :: r)
def axo (k : Tok) : Prop :=
 (k.1 = 1 ∧ (∃ c r, k.2.2 = c :: r ∧ j7 (c.toNat : Int) = true) ∧ (∀ c ∈ k.2.2, nmB c = true) ∧ k.2.2.length ≤ 32) ∨ k.1 = 2 ∨ (k.1 = 3 ∧ Rx k.2.2) ∨
 (k.1 = 4 ∧ ((∃ c, k.2.2 = [c] ∧ y9.contains c = true) ∨ k.2.2 = [62, 62]))
theorem avq {t : List UInt8} {p : Int} {x : UInt8} (h : bt t p = (x.toNat : Int)) : (bt t p).toNat.toUInt8 = x := by rw [h]; simp
theorem afb {t : List UInt8} {i j : Int} (h : 0 ≤ i ∧ i < j ∧ j ≤ t.length) : ∃ x : UInt8, bt t i = (x.toNat : Int) ∧ cut t i j = x :: cut t (i + 1) j := by
 obtain ⟨x, hx, hb⟩ := ag8 (t := t) (p := i) ⟨h.1, by omega⟩
 refine ⟨x, hb, ?_⟩
 unfold cut
 rw [hx, show j.toNat - i.toNat = (j.toNat - (i + 1).toNat) + 1 by omega, List.take_succ_cons]
theorem arc (t : List UInt8) (i : Int) : cut t i i = [] := by unfold cut; simp
theorem ank {t : List UInt8} {i j : Int} : (cut t i j).length ≤ t.length := by
 unfold cut; rw [List.length_take, List.length_drop]; omega
theorem ae9 {t : List UInt8} {fr : Int} : ∀ {n : Nat} {k : Int} {x : List UInt8} {q : Int}, 0 ≤ k → n4 t fr n k = .ok (x, q) → x = cut t (fr + 1) (q - 1) ∧ Rx (cut t k (q - 1))
 | 0, _, _, _, _, h => by cases h
 | n + 1, k, x, q, h0, h => by
  have hq := abp h
  rw [n4] at h
  split at h
  ·rename_i hk
   split at h
   ·rename_i h9
    split at h
    ·cases h
    ·rename_i hp
     have h1 := abp h
     have h2 := ae9 (by omega) h
     refine ⟨h2.1, ?_⟩
     obtain ⟨c, c1, c2⟩ := afb (t := t) (i := k) (j := q - 1) ⟨h0, by omega, by omega⟩
     obtain ⟨d, d1, d2⟩ := afb (t := t) (i := k + 1) (j := q - 1) ⟨by omega, by omega, by omega⟩
     have hc : c = 92 := UInt8.toNat_inj.1 (by have := h9.1; rw [c1] at this; exact Int.ofNat.inj this)
     rw [c2, d2, hc, show k + 1 + 1 = k + 2 by omega]
     refine .esc d _ ?_ h2.2
     rw [d1] at hp; simpa using hp
   ·rename_i h9
    split at h
    ·cases h
    ·rename_i hp
     split at h
     ·simp only [Except.ok.injEq, Prod.mk.injEq] at h
      obtain ⟨rfl, rfl⟩ := h
      rw [show k + 1 - 1 = k by omega, arc]
      exact ⟨rfl, .nil⟩
     ·rename_i h47
      have h1 := abp h
      have h2 := ae9 (by omega) h
      refine ⟨h2.1, ?_⟩
      obtain ⟨c, c1, c2⟩ := afb (t := t) (i := k) (j := q - 1) ⟨h0, by omega, by omega⟩
      rw [c2]
      rw [c1] at hp h47 h9
      refine .one c _ (by simpa using hp) (fun e => h47 (by rw [e]; rfl)) (fun e => h9 ⟨by rw [e]; rfl, by omega⟩) h2.2
  ·cases h
theorem ad8 {t : List UInt8} {fr : Int} : ∀ {n : Nat} {out : List UInt8} {k : Int} {x : List UInt8} {q : Int}, k7 t fr n out k = .ok (x, q) → (x.length : Int) ≤ out.length + (q - k)
 | 0, _, _, _, _, h => by cases h
 | n + 1, out, k, x, q, h => by
  have hq := act h
  rw [k7] at h
  split at h
  ·split at h
   ·simp only [Except.ok.injEq, Prod.mk.injEq] at h
    obtain ⟨rfl, rfl⟩ := h; omega
   ·split at h
    ·cases h
    ·split at h
     ·have := ad8 h
      rw [List.length_append] at this; simp only [List.length_cons, List.length_nil] at this; omega
     ·split at h
      ·cases h
      ·split at h
       ·cases h
       ·have h1 := ad8 h
        have h2 := (apz (t := t) (a := k) (b := (abk t k).1) (ok := (abk t k).2.1) (q := (abk t k).2.2) rfl).1
        rw [List.length_append] at h1; simp only [List.length_cons, List.length_nil] at h1; omega
  ·cases h
theorem alv : ∀ l : List UInt8, ∀ c ∈ l.take (aa8 l), nmB c = true
 | [], c, h => by simp at h
 | d :: l, c, h => by
  rw [aa8] at h
  split at h
  ·rename_i hd
   rw [Nat.add_comm, List.take_succ_cons] at h
   rcases List.mem_cons.1 h with rfl | h
   ·exact hd
   ·exact alv l c h
  ·simp at h
theorem aso {t : List UInt8} {a : Int} (hb : 0 ≤ a ∧ a < t.length) {k : Tok} {q : Int} (h : abm t a = .ok (k, q)) : axo k ∧ k.2.2.length ≤ t.length := by
 have hq := aek hb h
 unfold abm at h
 split at h
 ·rename_i hl
  split at h
  ·cases h
  ·rename_i h32
   simp only [Except.ok.injEq, Prod.mk.injEq] at h
   obtain ⟨rfl, rfl⟩ := h
   refine ⟨.inl ⟨rfl, ?_, ?_, ?_⟩, ank⟩
   ·obtain ⟨c, c1, c2⟩ := afb (t := t) (i := a) (j := a + aa8 (t.drop a.toNat)) ⟨hb.1, by omega, hq.2⟩
    exact ⟨c, _, c2, by rw [← c1]; exact hl⟩
   ·intro c hc
    refine alv (t.drop a.toNat) c ?_
    have : cut t a (a + aa8 (t.drop a.toNat)) = (t.drop a.toNat).take (aa8 (t.drop a.toNat)) := by
     unfold cut; congr 1; omega
    rw [← this]; exact hc
   ·show (cut _ _ _).length ≤ 32
    unfold cut; rw [List.length_take]; omega
 ·split at h
  ·unfold w6 at h
   split at h
   ·rename_i he
    have h1 := ad8 he
    have h2 := act he
    simp only [Except.ok.injEq, Prod.mk.injEq] at h
    obtain ⟨rfl, rfl⟩ := h
    refine ⟨.inr (.inl rfl), ?_⟩
    simp only [List.length_nil] at h1
    dsimp only
    omega
   ·cases h
  ·split at h
   ·unfold aav at h
    split at h
    ·rename_i he
     have h1 := ae9 (by omega) he
     have h2 := abp he
     simp only [Except.ok.injEq, Prod.mk.injEq] at h
     obtain ⟨rfl, rfl⟩ := h
     refine ⟨.inr (.inr (.inl ⟨rfl, ?_⟩)), ?_⟩
     ·show Rx _
      rw [h1.1]; exact h1.2
     ·show List.length _ ≤ _
      rw [h1.1]; exact ank
    ·cases h
   ·split at h
    ·rename_i hm
     simp only [Except.ok.injEq, Prod.mk.injEq] at h
     obtain ⟨rfl, rfl⟩ := h
     obtain ⟨c, c1, c2⟩ := afb (t := t) (i := a) (j := a + 1) ⟨hb.1, by omega, by omega⟩
     refine ⟨.inr (.inr (.inr ⟨rfl, .inl ⟨c, ?_, ?_⟩⟩)), ank⟩
     ·show cut t a (a + 1) = [c]
      rw [c2, arc]
     ·rw [avq c1] at hm; exact hm
    ·split at h
     ·rename_i h62
      simp only [Except.ok.injEq, Prod.mk.injEq] at h
      obtain ⟨rfl, rfl⟩ := h
      exact ⟨.inr (.inr (.inr ⟨rfl, .inr rfl⟩)), by show 2 ≤ t.length; omega⟩
     ·cases h
theorem ajp {t : List UInt8} : ∀ {n : Nat} {l l' : List Tok} {a : Int}, 0 ≤ a → a ≤ t.length → aaq t n l a = .ok l' → (∀ k ∈ l, axo k ∧ k.2.2.length ≤ t.length) → ∃ ks, l' = ks ++ [((0, (t.length : Int), []) : Tok)] ∧ ∀ k ∈ ks, axo k ∧ k.2.2.length ≤ t.length
 | 0, _, _, _, _, _, h, _ => by cases h
 | n + 1, l, l', a, h0, h1, h, hl => by
  rw [aaq] at h
  split at h
  ·rename_i ha
   split at h
   ·rename_i k q ho
    have hq := aek ⟨h0, ha⟩ ho
    have hg := aap (t := t) (a := q) ⟨by omega, hq.2⟩
    have hk := aso ⟨h0, ha⟩ ho
    exact ajp (by omega) hg.2 h fun x hx => by
     rcases List.mem_append.1 hx with hx | hx
     ·exact hl x hx
     ·rw [List.mem_singleton.1 hx]; exact hk
   ·cases h
  ·simp only [Except.ok.injEq] at h
   exact ⟨l, h.symm, hl⟩
end Go.Proofs.YtifajndacnfcbaaDoor
namespace Go.Proofs.YtifajndacnfcbaaDoor
open Go Go.RowKit
mutual
def WXt (ts : List Tok) : Ex → Prop
 | .name p s => ((1, p, s) : Tok) ∈ ts ∧ d4 s = 0
 | .text p s => ((2, p, s) : Tok) ∈ ts
 | .regex p s => ((3, p, s) : Tok) ∈ ts
 | .keyed p a => (∃ k, p = (b3 ts k).2.1) ∧ WXt ts a
 | .unary p o a => ((∃ k, p = (b3 ts k).2.1) ∧ (o = [42] ∨ o = [43] ∨ o = [63])) ∧ WXt ts a
 | .binary p o a b => ((∃ k, p = (b3 ts k).2.1) ∧ adj o ∧ 0 ≤ c9 o) ∧ WXt ts a ∧ WXt ts b
 | .call p w l => ((1, p, w) : Tok) ∈ ts ∧ 0 < d4 w ∧ (l.len : Int) = d4 w ∧ WXl ts l
def WXl (ts : List Tok) : ExL → Prop
 | .nil => True
 | .cons a r => WXt ts a ∧ WXl ts r
end
theorem WXl.snoc {ts : List Tok} {b : Ex} (hb : WXt ts b) : ∀ {l : ExL}, WXl ts l → WXl ts (l.snoc b)
 | .nil, _ => by rw [ExL.snoc, WXl, WXl]; exact ⟨hb, trivial⟩
 | .cons a r, h => by rw [WXl] at h; rw [ExL.snoc, WXl]; exact ⟨h.1, WXl.snoc hb h.2⟩
theorem aro (b : Ex) : ∀ l : ExL, wL (l.snoc b) = wL l + wX b + 1
 | .nil => by simp only [ExL.snoc, wL]; omega
 | .cons a r => by simp only [ExL.snoc, wL, aro b r]; omega
def ax6 : Ex → Int
 | .name p _ => p
 | .text p _ => p
 | .regex p _ => p
 | .keyed p _ => p
 | .unary p _ _ => p
 | .binary p _ _ _ => p
 | .call p _ _ => p
theorem asi {o : Bs} (h : 0 ≤ c9 o) : adj o := by
 unfold c9 at h
 split at h
 ·rename_i h1; exact .inr ⟨_, h1⟩
 ·split at h
  ·rename_i h1; rcases h1 with h1 | h1 <;> exact .inr ⟨_, h1⟩
  ·split at h
   ·rename_i h1; exact .inl h1
   ·split at h
    ·rename_i h1; exact .inr ⟨_, h1⟩
    ·split at h
     ·rename_i h1; exact .inr ⟨_, h1⟩
     ·omega
theorem akh {ts : List Tok} {k : Nat} {j : Int} (h : (b3 ts k).1 = j) (hj : j ≠ 0) : ((j, (b3 ts k).2.1, (b3 ts k).2.2) : Tok) ∈ ts := by
 have := apa (aii (ts := ts) (k := k) (by rw [h]; exact hj))
 rw [← h]; exact this
structure Wf (ts : List Tok) (f : Nat) : Prop where
 e : ∀ l q a q1, pE ts f l q = .ok (a, q1) → WXt ts a ∧ q.1 + wX a ≤ q1.1
 l : ∀ l b q a q1, WXt ts b → pL ts f l b q = .ok (a, q1) → WXt ts a ∧ q.1 + wX a ≤ q1.1 + wX b
 p : ∀ q a q1, pP ts f q = .ok (a, q1) → WXt ts a ∧ q.1 + wX a ≤ q1.1
 s : ∀ b q a q1, WXt ts b → pS ts f b q = .ok (a, q1) → WXt ts a ∧ q.1 + wX a ≤ q1.1 + wX b
 a : ∀ q a q1, pA ts f q = .ok (a, q1) → WXt ts a ∧ q.1 + wX a ≤ q1.1
 c : ∀ q a q1, (b3 ts q.1).1 = 1 → 0 < d4 (b3 ts q.1).2.2 → pC ts f q = .ok (a, q1) → WXt ts a ∧ q.1 + wX a ≤ q1.1
 r : ∀ n b q a q1, WXl ts b → b.len ≤ n → pR ts f n b q = .ok (a, q1) → (WXl ts a ∧ a.len = n) ∧ q.1 + wL a ≤ q1.1 + wL b + (if b.len = 0 then 1 else 0)
theorem wf (ts : List Tok) : ∀ f, Wf ts f := by
 intro f
 induction f with
 | zero =>
  refine ⟨?_, ?_, ?_, ?_, ?_, ?_, ?_⟩ <;> intros <;> rename_i h <;> first | (rw [pE] at h; cases h; done) | (rw [pL] at h; cases h; done) | (rw [pP] at h; cases h; done) | (rw [pS] at h; cases h; done) | (rw [pA] at h; cases h; done) | (rw [pC] at h; cases h; done) | (rw [pR] at h; cases h; done)
 | succ f ih =>
  refine ⟨fun l q a q1 h => ?_, fun l b q a q1 hb h => ?_, fun q a q1 h => ?_, fun b q a q1 hb h => ?_, fun q a q1 h => ?_, fun q a q1 hk ha h => ?_, fun n b q a q1 hb hn h => ?_⟩
  ·rw [pE] at h
   split at h
   ·exact ih.p _ _ _ h
   ·split at h
    ·cases h
    ·rename_i a2 q2 h2
     obtain ⟨e1, e2⟩ := ih.e _ _ _ _ h2
     obtain ⟨g1, g2⟩ := ih.l _ _ _ _ _ e1 h
     exact ⟨g1, by omega⟩
  ·rw [pL] at h
   split at h
   ·rename_i hm
    split at h
    ·cases h
    ·rename_i a2 q2 h2
     obtain ⟨e1, e2⟩ := ih.e _ _ _ _ h2
     dsimp only at e2
     have hr : 0 ≤ c9 (b3 ts q.1).2.2 := by rw [hm.2]; omega
     obtain ⟨g1, g2⟩ := ih.l _ _ _ _ _ (by rw [WXt]; exact ⟨⟨⟨_, rfl⟩, asi hr, hr⟩, hb, e1⟩) h
     rw [wX] at g2
     exact ⟨g1, by omega⟩
   ·cases h; exact ⟨hb, Nat.le_refl _⟩
  ·rw [pP] at h
   split at h
   ·cases h
   ·rename_i a2 q2 h2
    obtain ⟨e1, e2⟩ := ih.a _ _ _ h2
    obtain ⟨g1, g2⟩ := ih.s _ _ _ _ e1 h
    exact ⟨g1, by omega⟩
  ·rw [pS] at h
   split at h
   ·rename_i hm
    obtain ⟨g1, g2⟩ := ih.s _ _ _ _ (by
     rw [WXt]
     refine ⟨⟨⟨_, rfl⟩, ?_⟩, hb⟩
     rcases hm with hm | hm | hm
     ·exact .inl (x6 hm).2.1
     ·exact .inr (.inl (x6 hm).2.1)
     ·exact .inr (.inr (x6 hm).2.1)) h
    rw [wX] at g2
    dsimp only at g2
    exact ⟨g1, by omega⟩
   ·cases h; exact ⟨hb, Nat.le_refl _⟩
  ·rw [pA] at h
   split at h
   ·rename_i h1; cases h; rw [WXt, wX]; exact ⟨akh h1 (by decide), Nat.le_refl _⟩
   ·split at h
    ·rename_i h1; cases h; rw [WXt, wX]; exact ⟨akh h1 (by decide), Nat.le_refl _⟩
    ·split at h
     ·rename_i h1; exact ih.c _ _ _ h1.1 h1.2 h
     ·split at h
      ·rename_i h1; cases h; rw [WXt, wX]; exact ⟨⟨akh h1.1 (by decide), h1.2⟩, Nat.le_refl _⟩
      ·split at h
       ·split at h
        ·cases h
        ·rename_i q2 h2
         obtain ⟨b1, b2, rfl⟩ := aag h2
         split at h
         ·cases h
         ·rename_i a3 q3 h3
          obtain ⟨e1, e2⟩ := ih.e _ _ _ _ h3
          split at h
          ·cases h
          ·rename_i q4 h4
           obtain ⟨c1, rfl⟩ := acw h4
           cases h
           rw [WXt, wX]
           exact ⟨⟨⟨_, rfl⟩, e1⟩, by dsimp only at e2 ⊢; omega⟩
       ·split at h
        ·split at h
         ·cases h
         ·rename_i q2 h2
          obtain ⟨b1, b2, rfl⟩ := aag h2
          split at h
          ·cases h
          ·rename_i a3 q3 h3
           obtain ⟨e1, e2⟩ := ih.e _ _ _ _ h3
           split at h
           ·cases h
           ·rename_i q4 h4
            obtain ⟨c1, rfl⟩ := acw h4
            cases h
            exact ⟨e1, by dsimp only at e2 ⊢; omega⟩
        ·cases h
  ·rw [pC] at h
   split at h
   ·cases h
   ·rename_i q2 h2
    obtain ⟨b1, b2, rfl⟩ := aag h2
    split at h
    ·cases h
    ·rename_i a3 q3 h3
     obtain ⟨⟨e1, e2⟩, e3⟩ := ih.r _ _ _ _ _ (by rw [WXl]; trivial) (Nat.zero_le _) h3
     rw [if_pos (show ExL.nil.len = 0 from rfl), show wL .nil = 0 by rw [wL]] at e3
     split at h
     ·cases h
     ·rename_i q4 h4
      obtain ⟨c1, rfl⟩ := acw h4
      cases h
      rw [WXt, wX]
      exact ⟨⟨akh hk (by decide), ha, by omega, e1⟩, by dsimp only at e3 ⊢; omega⟩
  ·rw [pR] at h
   split at h
   ·rename_i h0; cases h; exact ⟨⟨hb, by omega⟩, by split <;> omega⟩
   ·rename_i h0
    split at h
    ·cases h
    ·rename_i q2 h2
     have hq2 : q.1 + (if b.len = 0 then 0 else 1) ≤ q2.1 := by
      split at h2
      ·obtain ⟨_, rfl⟩ := ab5 h2; dsimp only; split <;> omega
      ·cases h2; split <;> omega
     split at h
     ·cases h
     ·rename_i a3 q3 h3
      obtain ⟨e1, e2⟩ := ih.e _ _ _ _ h3
      obtain ⟨g1, g2⟩ := ih.r _ _ _ _ _ (hb.snoc e1) (by rw [ExL.len_snoc]; omega) h
      rw [aro, if_neg (by rw [ExL.len_snoc]; omega)] at g2
      exact ⟨g1, by split at hq2 <;> split <;> omega⟩
mutual
theorem WXt.ok {ts : List Tok} (h : ∀ k ∈ ts, k.2.2.length ≤ 4096) : ∀ (e : Ex), WXt ts e → OKX e
 | .name p s, hw => by rw [WXt] at hw; rw [OKX]; exact h _ hw.1
 | .text p s, hw => by rw [WXt] at hw; rw [OKX]; exact h _ hw
 | .regex p s, hw => by rw [WXt] at hw; rw [OKX]; exact h _ hw
 | .keyed p a, hw => by rw [WXt] at hw; rw [OKX]; exact WXt.ok h a hw.2
 | .unary p o a, hw => by rw [WXt] at hw; rw [OKX]; exact ⟨by rcases hw.1.2 with rfl | rfl | rfl <;> decide, WXt.ok h a hw.2⟩
 | .binary p o a b, hw => by rw [WXt] at hw; rw [OKX]; exact ⟨hw.1.2, WXt.ok h a hw.2.1, WXt.ok h b hw.2.2⟩
 | .call p w l, hw => by rw [WXt] at hw; rw [OKX]; exact ⟨h _ hw.1, WXl.ok h l hw.2.2.2⟩
theorem WXl.ok {ts : List Tok} (h : ∀ k ∈ ts, k.2.2.length ≤ 4096) : ∀ (l : ExL), WXl ts l → OKL l
 | .nil, _ => by rw [OKL]; trivial
 | .cons a r, hw => by rw [WXl] at hw; rw [OKL]; exact ⟨WXt.ok h a hw.1, WXl.ok h r hw.2⟩
end
def WDs (ts : List Tok) (l : List r9) : Prop := ∀ d ∈ l, (((1, d.1, d.2.1) : Tok) ∈ ts ∧ d4 d.2.1 = 0) ∧ WXt ts d.2.2
theorem ary (d : r9) : ∀ l : List r9, wD (l ++ [d]) = wD l + wX d.2.2 + 1
 | [] => by simp only [List.nil_append, wD]; omega
 | x :: r => by simp only [List.cons_append, wD, ary d r]; omega
theorem aw7 {ts : List Tok} : ∀ {f : Nat} {l : List r9} {q : PSx} {l2 : List r9} {q2 : PSx}, WDs ts l → pD ts (BIG ts) f l q = .ok (l2, q2) → WDs ts l2 ∧ q.1 + wD l2 ≤ q2.1 + wD l
 | 0, _, _, _, _, _, h => by rw [pD] at h; cases h
 | f + 1, l, q, l2, q2, hl, h => by
  rw [art] at h
  split at h
  ·split at h
   ·cases h
   ·rename_i hk
    have hk1 : (b3 ts (q.1 + 1)).1 = 1 ∧ d4 (b3 ts (q.1 + 1)).2.2 = 0 := by
     rw [not_or] at hk; exact ⟨Decidable.not_not.1 hk.1, Decidable.not_not.1 hk.2⟩
    split at h
    ·cases h
    ·rename_i q3 h3
     obtain ⟨_, rfl⟩ := ab5 h3
     split at h
     ·cases h
     ·rename_i b q4 h4
      obtain ⟨e1, e2⟩ := (wf ts _).e _ _ _ _ h4
      split at h
      ·cases h
      ·rename_i q5 h5
       obtain ⟨_, rfl⟩ := ab5 h5
       have := aw7 (fun d hd => by
        rcases List.mem_append.1 hd with hd | hd
        ·exact hl d hd
        ·rw [List.mem_singleton.1 hd]; exact ⟨⟨akh hk1.1 (by decide), hk1.2⟩, e1⟩) h
       rw [ary] at this
       exact ⟨this.1, by dsimp only at e2 this ⊢; omega⟩
  ·cases h; exact ⟨hl, Nat.le_refl _⟩
theorem asb {ts : List Tok} {l : List r9} {a : Ex} (h : x5 ts = .ok (l, a)) : WDs ts l ∧ WXt ts a ∧ wD l + wX a ≤ ts.length := by
 rw [aet] at h
 unfold aow at h
 split at h
 ·cases h
 ·rename_i l2 q h2
  obtain ⟨h3, h4⟩ := aw7 (fun d hd => by cases hd) h2
  split at h
  ·cases h
  ·rename_i a2 q1 h5
   obtain ⟨e1, e2⟩ := (wf ts _).e _ _ _ _ h5
   have h6 := (ab4 h5).2.1
   split at h
   ·cases h
    rw [wD] at h4
    dsimp only at h4
    exact ⟨h3, e1, by omega⟩
   ·cases h
theorem aqf {t : List UInt8} (h : (b6 t).2.1 = 0) : ∀ k ∈ (b6 t).1, k.2.2.length ≤ 4096 := by
 have hs := ae3 h
 have hg := aap (t := t) (a := 0) ⟨by omega, by omega⟩
 obtain ⟨ks, e, hk⟩ := ajp hg.1 hg.2 (aka h hs) (fun k hk => by cases hk)
 rw [e]
 intro x hx
 rcases List.mem_append.1 hx with hx | hx
 ·have := (hk x hx).2; omega
 ·rw [List.mem_singleton.1 hx]; exact Nat.zero_le _
theorem as2 {t : List UInt8} {l : List r9} {a : Ex} (h : s7 t = .ok (l, a)) : (b6 t).2.1 = 0 ∧ x5 (b6 t).1 = .ok (l, a) := by
 unfold s7 at h
 split at h
 ·rename_i h0; exact ⟨h0, h⟩
 ·cases h
theorem ajo {t : List UInt8} {l : List r9} {a : Ex} (h : s7 t = .ok (l, a)) : OKP l a := by
 obtain ⟨h0, h1⟩ := as2 h
 obtain ⟨h2, h3, h4⟩ := asb h1
 have hs := aqf h0
 have hlen := amd t
 exact ⟨fun d hd => ⟨hs _ (h2 d hd).1.1, WXt.ok hs _ (h2 d hd).2⟩, WXt.ok hs _ h3, by omega⟩
end Go.Proofs.YtifajndacnfcbaaDoor
set_option maxRecDepth 100000
namespace Go.Proofs.YtifajndacnfcbaaDoor
open Go Go.RowKit
theorem ak1 : e9 Tryd.prog 71 0 = some 0 := by kernel_rfl
theorem alp : e9 Tryd.prog 73 0 = some 0 := by kernel_rfl
theorem ak7 : e9 Tryd.prog 74 0 = some 0 := by kernel_rfl
theorem alh : e9 Tryd.prog 76 0 = some 0 := by kernel_rfl
theorem aky : e9 Tryd.prog 78 0 = some 0 := by kernel_rfl
theorem alj : e9 Tryd.prog 80 0 = some 0 := by kernel_rfl
theorem alo : e9 Tryd.prog 83 0 = some 0 := by kernel_rfl
def ael (e_0 : Int) (_ : List UInt8) (K : Int → Prop) : Prop :=
 K e_0
theorem am1  (e_0 : Int) (e_1 : List UInt8) (K : Int → Prop) (h : ael e_0 e_1 K) :
  d7 Tryd.prog 23 [Value.agg [zI e_0, st e_1].toArray] [] [] (fun o => (∃ (v : Int), K v ∧ o = .ret (zI v) []) ∨ (False)) := by
 unfold ael at h
 refine c7 (n := 5) (L0 := [(0, Value.agg [zI e_0, st e_1].toArray)]) Tryd.func23 rfl rfl rfl rfl (fun w0 M Q hE => ?_)
 refine a7 (fun _ hK => ?_)
 refine a6 ?_
 refine WL.make (MV.box (cs := [zI e_0, st e_1]) rfl rfl) rfl rfl rfl (fun b => ?_)
 refine wA ?_
 refine WL.nil ?_
 refine kg (hK [(1, zP b)] _ ?_)
 refine a7 (fun _ hK_1' => ?_)
 refine a6 ?_
 refine wv (OV.fieldAddr0 rfl ak1) ?_
 refine wv (OV.load rfl (At.own 0 rfl) rfl b4) ?_
 refine wA ?_
 refine WL.nil ?_
 refine kg (hK_1' [(2, zI e_0)] _ ?_)
 refine b8 ?_
 exact hE.ret [] rfl rfl (.inl ⟨_, h, rfl⟩) (d6.of1 rfl (RV.tmp rfl))
def aec (e_0 : Int) (_ : List UInt8) (K : Int → Prop) : Prop :=
 K e_0
theorem anh  (e_0 : Int) (e_1 : List UInt8) (K : Int → Prop) (h : aec e_0 e_1 K) :
  d7 Tryd.prog 24 [Value.agg [zI e_0, st e_1].toArray] [] [] (fun o => (∃ (v : Int), K v ∧ o = .ret (zI v) []) ∨ (False)) := by
 unfold aec at h
 refine c7 (n := 5) (L0 := [(0, Value.agg [zI e_0, st e_1].toArray)]) Tryd.func24 rfl rfl rfl rfl (fun w0 M Q hE => ?_)
 refine a7 (fun _ hK => ?_)
 refine a6 ?_
 refine WL.make (MV.box (cs := [zI e_0, st e_1]) rfl rfl) rfl rfl rfl (fun b => ?_)
 refine wA ?_
 refine WL.nil ?_
 refine kg (hK [(1, zP b)] _ ?_)
 refine a7 (fun _ hK_1' => ?_)
 refine a6 ?_
 refine wv (OV.fieldAddr0 rfl alp) ?_
 refine wv (OV.load rfl (At.own 0 rfl) rfl b4) ?_
 refine wA ?_
 refine WL.nil ?_
 refine kg (hK_1' [(2, zI e_0)] _ ?_)
 refine b8 ?_
 exact hE.ret [] rfl rfl (.inl ⟨_, h, rfl⟩) (d6.of1 rfl (RV.tmp rfl))
def adm (e_0 : Int) (_ : List UInt8) (K : Int → Prop) : Prop :=
 K e_0
theorem ali  (e_0 : Int) (e_1 : List UInt8) (K : Int → Prop) (h : adm e_0 e_1 K) :
  d7 Tryd.prog 25 [Value.agg [zI e_0, st e_1].toArray] [] [] (fun o => (∃ (v : Int), K v ∧ o = .ret (zI v) []) ∨ (False)) := by
 unfold adm at h
 refine c7 (n := 5) (L0 := [(0, Value.agg [zI e_0, st e_1].toArray)]) Tryd.func25 rfl rfl rfl rfl (fun w0 M Q hE => ?_)
 refine a7 (fun _ hK => ?_)
 refine a6 ?_
 refine WL.make (MV.box (cs := [zI e_0, st e_1]) rfl rfl) rfl rfl rfl (fun b => ?_)
 refine wA ?_
 refine WL.nil ?_
 refine kg (hK [(1, zP b)] _ ?_)
 refine a7 (fun _ hK_1' => ?_)
 refine a6 ?_
 refine wv (OV.fieldAddr0 rfl ak7) ?_
 refine wv (OV.load rfl (At.own 0 rfl) rfl b4) ?_
 refine wA ?_
 refine WL.nil ?_
 refine kg (hK_1' [(2, zI e_0)] _ ?_)
 refine b8 ?_
 exact hE.ret [] rfl rfl (.inl ⟨_, h, rfl⟩) (d6.of1 rfl (RV.tmp rfl))
def ads (e_0 : Int) (_ : Value) (K : Int → Prop) : Prop :=
 K e_0
theorem alm  (e_0 : Int) (e_1 : Value) (K : Int → Prop) (h : ads e_0 e_1 K) :
  d7 Tryd.prog 26 [Value.agg [zI e_0, e_1].toArray] [] [] (fun o => (∃ (v : Int), K v ∧ o = .ret (zI v) []) ∨ (False)) := by
 unfold ads at h
 refine c7 (n := 5) (L0 := [(0, Value.agg [zI e_0, e_1].toArray)]) Tryd.func26 rfl rfl rfl rfl (fun w0 M Q hE => ?_)
 refine a7 (fun _ hK => ?_)
 refine a6 ?_
 refine WL.make (MV.box (cs := [zI e_0, e_1]) rfl rfl) rfl rfl rfl (fun b => ?_)
 refine wA ?_
 refine WL.nil ?_
 refine kg (hK [(1, zP b)] _ ?_)
 refine a7 (fun _ hK_1' => ?_)
 refine a6 ?_
 refine wv (OV.fieldAddr0 rfl alh) ?_
 refine wv (OV.load rfl (At.own 0 rfl) rfl b4) ?_
 refine wA ?_
 refine WL.nil ?_
 refine kg (hK_1' [(2, zI e_0)] _ ?_)
 refine b8 ?_
 exact hE.ret [] rfl rfl (.inl ⟨_, h, rfl⟩) (d6.of1 rfl (RV.tmp rfl))
def adu (e_0 : Int) (_ : List UInt8) (_ : Value) (K : Int → Prop) : Prop :=
 K e_0
theorem aln  (e_0 : Int) (e_1 : List UInt8) (e_2 : Value) (K : Int → Prop) (h : adu e_0 e_1 e_2 K) :
  d7 Tryd.prog 27 [Value.agg [zI e_0, st e_1, e_2].toArray] [] [] (fun o => (∃ (v : Int), K v ∧ o = .ret (zI v) []) ∨ (False)) := by
 unfold adu at h
 refine c7 (n := 5) (L0 := [(0, Value.agg [zI e_0, st e_1, e_2].toArray)]) Tryd.func27 rfl rfl rfl rfl (fun w0 M Q hE => ?_)
 refine a7 (fun _ hK => ?_)
 refine a6 ?_
 refine WL.make (MV.box (cs := [zI e_0, st e_1, e_2]) rfl rfl) rfl rfl rfl (fun b => ?_)
 refine wA ?_
 refine WL.nil ?_
 refine kg (hK [(1, zP b)] _ ?_)
 refine a7 (fun _ hK_1' => ?_)
 refine a6 ?_
 refine wv (OV.fieldAddr0 rfl aky) ?_
 refine wv (OV.load rfl (At.own 0 rfl) rfl b4) ?_
 refine wA ?_
 refine WL.nil ?_
 refine kg (hK_1' [(2, zI e_0)] _ ?_)
 refine b8 ?_
 exact hE.ret [] rfl rfl (.inl ⟨_, h, rfl⟩) (d6.of1 rfl (RV.tmp rfl))
def ac8 (e_0 : Int) (_ : List UInt8) (_ : Value) (_ : Value) (K : Int → Prop) : Prop :=
 K e_0
theorem akm  (e_0 : Int) (e_1 : List UInt8) (e_2 : Value) (e_3 : Value) (K : Int → Prop) (h : ac8 e_0 e_1 e_2 e_3 K) :
  d7 Tryd.prog 28 [Value.agg [zI e_0, st e_1, e_2, e_3].toArray] [] [] (fun o => (∃ (v : Int), K v ∧ o = .ret (zI v) []) ∨ (False)) := by
 unfold ac8 at h
 refine c7 (n := 5) (L0 := [(0, Value.agg [zI e_0, st e_1, e_2, e_3].toArray)]) Tryd.func28 rfl rfl rfl rfl (fun w0 M Q hE => ?_)
 refine a7 (fun _ hK => ?_)
 refine a6 ?_
 refine WL.make (MV.box (cs := [zI e_0, st e_1, e_2, e_3]) rfl rfl) rfl rfl rfl (fun b => ?_)
 refine wA ?_
 refine WL.nil ?_
 refine kg (hK [(1, zP b)] _ ?_)
 refine a7 (fun _ hK_1' => ?_)
 refine a6 ?_
 refine wv (OV.fieldAddr0 rfl alj) ?_
 refine wv (OV.load rfl (At.own 0 rfl) rfl b4) ?_
 refine wA ?_
 refine WL.nil ?_
 refine kg (hK_1' [(2, zI e_0)] _ ?_)
 refine b8 ?_
 exact hE.ret [] rfl rfl (.inl ⟨_, h, rfl⟩) (d6.of1 rfl (RV.tmp rfl))
def aeo (e_0 : Int) (_ : List UInt8) (_ : Value) (K : Int → Prop) : Prop :=
 K e_0
theorem anx  (e_0 : Int) (e_1 : List UInt8) (e_2 : Value) (K : Int → Prop) (h : aeo e_0 e_1 e_2 K) :
  d7 Tryd.prog 29 [Value.agg [zI e_0, st e_1, e_2].toArray] [] [] (fun o => (∃ (v : Int), K v ∧ o = .ret (zI v) []) ∨ (False)) := by
 unfold aeo at h
 refine c7 (n := 5) (L0 := [(0, Value.agg [zI e_0, st e_1, e_2].toArray)]) Tryd.func29 rfl rfl rfl rfl (fun w0 M Q hE => ?_)
 refine a7 (fun _ hK => ?_)
 refine a6 ?_
 refine WL.make (MV.box (cs := [zI e_0, st e_1, e_2]) rfl rfl) rfl rfl rfl (fun b => ?_)
 refine wA ?_
 refine WL.nil ?_
 refine kg (hK [(1, zP b)] _ ?_)
 refine a7 (fun _ hK_1' => ?_)
 refine a6 ?_
 refine wv (OV.fieldAddr0 rfl alo) ?_
 refine wv (OV.load rfl (At.own 0 rfl) rfl b4) ?_
 refine wA ?_
 refine WL.nil ?_
 refine kg (hK_1' [(2, zI e_0)] _ ?_)
 refine b8 ?_
 exact hE.ret [] rfl rfl (.inl ⟨_, h, rfl⟩) (d6.of1 rfl (RV.tmp rfl))
abbrev plX : Ex → Int := ax6
theorem abs {v : Int} {x : Out} (h : (∃ d : Int, d = v ∧ x = .ret (.int .i64 d) []) ∨ False) : x = .ret (.int .i64 v) [] := by
 rcases h with ⟨d, rfl, rfl⟩ | h
 ·rfl
 ·exact h.elim
theorem aws : af1 Tryd.prog 71 "Place" = some 23 := by kernel_rfl
theorem awz : ado Tryd.prog 71 = true := by kernel_rfl
theorem avy : l6 Tryd.prog 23 = true := by kernel_rfl
theorem av1 : af1 Tryd.prog 73 "Place" = some 24 := by kernel_rfl
theorem awf : ado Tryd.prog 73 = true := by kernel_rfl
theorem awj : l6 Tryd.prog 24 = true := by kernel_rfl
theorem avd : af1 Tryd.prog 74 "Place" = some 25 := by kernel_rfl
theorem aul : ado Tryd.prog 74 = true := by kernel_rfl
theorem aud : l6 Tryd.prog 25 = true := by kernel_rfl
theorem aug : af1 Tryd.prog 76 "Place" = some 26 := by kernel_rfl
theorem avc : ado Tryd.prog 76 = true := by kernel_rfl
theorem avg : l6 Tryd.prog 26 = true := by kernel_rfl
theorem avh : af1 Tryd.prog 78 "Place" = some 27 := by kernel_rfl
theorem ava : ado Tryd.prog 78 = true := by kernel_rfl
theorem auj : l6 Tryd.prog 27 = true := by kernel_rfl
theorem ase : af1 Tryd.prog 80 "Place" = some 28 := by kernel_rfl
theorem asc : ado Tryd.prog 80 = true := by kernel_rfl
theorem atv : l6 Tryd.prog 28 = true := by kernel_rfl
theorem awi : af1 Tryd.prog 83 "Place" = some 29 := by kernel_rfl
theorem awb : ado Tryd.prog 83 = true := by kernel_rfl
theorem awh : l6 Tryd.prog 29 = true := by kernel_rfl
theorem ari {B : List (Nat × Obj)} {e : Ex} {u : Value} (h : TV B e u) : avt Tryd.prog u "Place" [] (.int .i64 (plX e)) := by
 cases e with
 | name p s =>
  rw [TV] at h; subst h
  exact ⟨_, _, _, rfl, aws, awz, avy, (am1 p s (fun d => d = p) (by unfold ael; rfl)).weak fun x h => abs h⟩
 | text p s =>
  rw [TV] at h; subst h
  exact ⟨_, _, _, rfl, av1, awf, awj, (anh p s (fun d => d = p) (by unfold aec; rfl)).weak fun x h => abs h⟩
 | regex p s =>
  rw [TV] at h; subst h
  exact ⟨_, _, _, rfl, avd, aul, aud, (ali p s (fun d => d = p) (by unfold adm; rfl)).weak fun x h => abs h⟩
 | keyed p a =>
  rw [TV] at h; obtain ⟨u1, _, rfl⟩ := h
  exact ⟨_, _, _, rfl, aug, avc, avg, (alm p u1 (fun d => d = p) (by unfold ads; rfl)).weak fun x h => abs h⟩
 | unary p o a =>
  rw [TV] at h; obtain ⟨u1, _, rfl⟩ := h
  exact ⟨_, _, _, rfl, avh, ava, auj, (aln p o u1 (fun d => d = p) (by unfold adu; rfl)).weak fun x h => abs h⟩
 | binary p o a b =>
  rw [TV] at h; obtain ⟨u1, u2, _, _, rfl⟩ := h
  exact ⟨_, _, _, rfl, ase, asc, atv, (akm p o u1 u2 (fun d => d = p) (by unfold ac8; rfl)).weak fun x h => abs h⟩
 | call p w l =>
  rw [TV] at h; obtain ⟨us, u1, b, cs, _, _, _, rfl⟩ := h
  exact ⟨_, _, _, rfl, awi, awb, awh, (anx p w u1 (fun d => d = p) (by unfold aeo; rfl)).weak fun x h => abs h⟩
theorem auu {B : List (Nat × Obj)} {e : Ex} {u : Value} (h : TV B e u) : ∃ T v, u = Value.iface T v := by
 obtain ⟨_, T, r, h1, _⟩ := ari h
 exact ⟨T, r, h1⟩
end Go.Proofs.YtifajndacnfcbaaDoor
namespace Go.Proofs.YtifajndacnfcbaaDoor
open Go Go.RowKit
section
variable {P : Program} {ops : Array Oper} {Q : Exit → Act → World → Prop} {C : Cx} {L : Sl} {H : List HA} {rest : List Oper} {o : Oper}
theorem At.pool {B : List (Nat × Obj)} {b : Nat} {ob : Obj} (i : Nat) (hi : H[i]? = some (pool B)) (hb : (b, ob) ∈ B) : At C H b ob := fun w hp => by
 obtain ⟨F, h1, _⟩ := hp.own
 exact (h1.mem_pool hi _ hb).1
def aoj (C : Cx) (H : List HA) (R : List (Nat × Obj)) : Prop := ∀ q ∈ R, At C H q.1 q.2
theorem aoj.pool {B R2 : List (Nat × Obj)} (i : Nat) (hi : H[i]? = some (pool B)) (hr : ∀ q ∈ R2, q ∈ C.R) : aoj C H (B ++ R2) := fun q hq => by
 rcases List.mem_append.1 hq with hq | hq
 ·exact At.pool i hi hq
 ·exact At.old (hr q hq)
section
variable {x y : Operand} {ty t e' : TypeId} {p : String} {e : Array Edge} {g : Option (Nat × Bool)} {d : Option Tmp} {v u : Value} {T sz n : Nat} {xs : List Value} {B1 : List (Nat × Obj)} {kk : IntKind}
end
end
theorem OV.neqNilX {P : Program} {C : Cx} {L : Sl} {H : List HA} {x y : Operand} {t t' ty : TypeId} {d : Option Tmp} {p : String} {e : Array Edge} {g : Option (Nat × Bool)} {m : Value} {ms : Array (String × TypeId)} (hx : ev L x = some m) (hm : ∃ T u, m = .iface T u) (hu : P.underlying t = some (.interface ms)) (hy : ev L y = some .nilIface := by rfl) : OV P C L H ⟨d, .binOp .neq t x y t', ty, p, e, g⟩ (.bool true) := by
 obtain ⟨T, u, rfl⟩ := hm
 exact OV.neqNil hx hy hu
theorem afc.more {B B2 : List (Nat × Obj)} {b : Nat} {w m : Value} {ds : List acm} {B1 : List (Nat × Obj)} {l : List r9} {a : Ex} (h : ∀ p ∈ B, p ∈ B2) (hp : afc B b w m ds B1 l a) : afc B2 b w m ds B1 l a :=
 ⟨hp.1.more h, TV.more h _ _ hp.2.1, hp.2.2.1, fun p hq => h _ (hp.2.2.2.1 p hq), h _ hp.2.2.2.2⟩
theorem al3 (te : TypeId) (fre : Nat × Nat) (t : List UInt8) (B : List (Nat × Obj)) (l : List r9) (a : Ex) (h : s7 t = .ok (l, a)) : d7 Tryd.prog 9 [st t] (ac5 te fre) [pool B]
  (fun o => ∃ b dw m ds B1 B2, (afc B2 b dw m ds B1 l a ∧ ∀ x ∈ B, x ∈ B2) ∧ o = .ret (.tuple #[.pointer (some ⟨b, 0, none⟩), .agg [Value.int .i64 0, Value.int .i64 0, st []].toArray]) [pool B2]) :=
 (ail te fre t B).weak fun o ho => by
  rcases ho with ⟨l2, a2, b, w, m, ds, B1, B2, ⟨h1, h2, h3⟩, rfl⟩ | ⟨c, p, B2, ⟨h1, _⟩, rfl⟩
  ·rw [h] at h1; cases h1; exact ⟨b, w, m, ds, B1, B2, ⟨h2, h3⟩, rfl⟩
  ·rw [h] at h1; cases h1
theorem aqw (te : TypeId) (fre : Nat × Nat) (t : List UInt8) (B : List (Nat × Obj)) (c p : Int) (h : s7 t = .error (c, p)) : d7 Tryd.prog 9 [st t] (ac5 te fre) [pool B]
  (fun o => ∃ B2, True ∧ o = .ret (.tuple #[.pointer none, .agg [Value.int .i64 c, Value.int .i64 p, st []].toArray]) [pool B2]) :=
 (ail te fre t B).weak fun o ho => by
  rcases ho with ⟨l2, a2, b, w, m, ds, B1, B2, ⟨h1, h2, h3⟩, rfl⟩ | ⟨c2, p2, B2, ⟨h1, _⟩, rfl⟩
  ·rw [h] at h1; cases h1
  ·rw [h] at h1; cases h1; exact ⟨B2, trivial, rfl⟩
end Go.Proofs.YtifajndacnfcbaaDoor
set_option maxRecDepth 100000
namespace Go.Proofs.YtifajndacnfcbaaDoor
open Go Go.RowKit
theorem ajk : l6 Tryd.prog 9 = true := by kernel_rfl
theorem afu : l6 Tryd.prog 12 = true := by kernel_rfl
def agq (l1 : List r9) (a1 : Ex) (K : Bool → Prop) : Prop :=
 (s7 ([97, 46, 40, 98, 124, 99, 41] : List UInt8) = .ok (l1, a1)) ∧
 (∀ (qb1 : Nat) (dw1 : Value) (mv1 : Value) (ds1 : List acm) (R1 : List (Nat × Obj)) (B : List (Nat × Obj)), (afc B qb1 dw1 mv1 ds1 R1 l1 a1 ∧ ∀ x ∈ ([] : List (Nat × Obj)), x ∈ B) →
  ((qb1, Obj.cells [dw1, mv1].toArray 39 (0, 0)) ∈ B) ∧
  (∃ T u, mv1 = Value.iface T u) ∧
  ((qb1, Obj.cells [dw1, mv1].toArray 39 (0, 0)) ∈ B) ∧
  (avt Tryd.prog mv1 "Place" [] (zI (plX a1))) ∧
  ((decide (plX a1 = 1)) = true → (afc B qb1 dw1 mv1 ds1 R1 l1 a1 ∧ OKP l1 a1)) ∧
  K ((decide (plX a1 = 1)) && (decide (aao l1 a1 = ([97, 32, 46, 32, 40, 98, 32, 124, 32, 99, 41, 10] : List UInt8)))))
theorem apv (te : TypeId) (fre : Nat × Nat) (l1 : List r9) (a1 : Ex) (K : Bool → Prop) (h : agq l1 a1 K) :
  d7 Tryd.prog 8 [] [(0, .cells [st ([124] : List UInt8), st ([38, 45] : List UInt8), st ([62, 62] : List UInt8), st ([126] : List UInt8), st ([46] : List UInt8)].toArray te fre)] [] (fun o => (∃ (v : Bool), K v ∧ o = .ret (zB v) []) ∨ (False)) := by
 unfold agq at h
 refine c7 (n := 34) (L0 := []) Tryd.func8 rfl rfl rfl rfl (fun w0 M Q hE => ?_)
 refine WC.newPool ?_
 refine a7 (fun _ hK => ?_)
 refine a6 ?_
 refine wA ?_
 refine WL.nil ?_
 refine KX.go (hK [] _ ?_) trivial
 refine a7 (fun _ hK_1' => ?_)
 refine a6 ?_
 obtain ⟨o, h⟩ := h
 refine WL.callS ajk rfl (al3 te fre ([97, 46, 40, 98, 124, 99, 41] : List UInt8) ([] : List (Nat × Obj)) l1 a1 o) rfl ⟨.inr (List.mem_of_getElem? (i := 0) rfl), trivial⟩ rfl rfl (fun r H' hS => ?_) (fun c H' hS => ?_)
 ·obtain ⟨qb1, dw1, mv1, ds1, R1, B, hc, ho⟩ := hS
  cases ho
  replace h := h qb1 dw1 mv1 ds1 R1 B hc
  refine wm ?_
  refine wv (OV.extract 0 rfl rfl) ?_
  refine wv (OV.extract 1 rfl rfl) ?_
  refine WL.make (MV.alloc ac4) rfl rfl rfl (fun b => ?_)
  refine wA ?_
  refine WL.storeW (vs := [zI 0, zI 0, st []]) 0 rfl rfl rfl rfl rfl u7 rfl rfl rfl ?_
  refine WL.nil ?_
  refine kg (hK_1' [(1, zP qb1), (2, zP b)] _ ?_)
  refine a7 (fun _ hK_2' => ?_)
  refine a6 ?_
  refine wv (OV.loadR rfl (At.own 0 rfl) v7) ?_
  refine wv (OV.build rfl (cs := [zI 0, zI 0, st []]) rfl) ?_
  refine wv (OV.cast (OV.eqlF (rs := [decide ((0 : Int) = 0), decide ((0 : Int) = 0), decide (([] : List UInt8) = [])]) rfl rfl Tryd.underlying26 adg afx ⟨rfl, ad7, ⟨_, _, rfl, rfl, aab.int Tryd.underlying24⟩, ⟨rfl, b4, ⟨_, _, rfl, rfl, aab.int Tryd.underlying3⟩, ⟨rfl, c6, ⟨_, _, rfl, rfl, aab.str Tryd.underlying9⟩, trivial⟩⟩⟩) (v' := zB true) rfl) ?_
  refine wm ?_
  refine wm ?_
  refine wv (OV.neqPN rfl rfl Tryd.underlying23) ?_
  refine wv (OV.pickT rfl rfl) ?_
  refine wm ?_
  refine wm ?_
  refine wv (OV.nilCheck rfl) ?_
  refine wv (OV.fieldAddr0 rfl ab8) ?_
  obtain ⟨o_1', h⟩ := h
  refine wv (OV.load rfl (At.pool 1 rfl o_1') rfl t7) ?_
  obtain ⟨o_2', h⟩ := h
  refine wv (OV.neqNilX rfl o_2' Tryd.underlying37) ?_
  refine wv (OV.pickT rfl rfl) ?_
  refine wm ?_
  refine wm ?_
  refine wv (OV.nilCheck rfl) ?_
  refine wv (OV.fieldAddr0 rfl ab8) ?_
  obtain ⟨o_3', h⟩ := h
  refine wv (OV.load rfl (At.pool 1 rfl o_3') rfl t7) ?_
  obtain ⟨o_4', h⟩ := h
  refine WL.cv (CV.meth rfl o_4' rfl) rfl rfl rfl ?_
  refine wv (OV.eql rfl rfl) ?_
  refine wv (OV.pickT rfl rfl) ?_
  refine wm ?_
  obtain ⟨o_6', h⟩ := h
  refine WL.cut 4 [(33, zB ((decide (plX a1 = 1)) && (decide (aao l1 a1 = ([97, 32, 46, 32, 40, 98, 32, 124, 32, 99, 41, 10] : List UInt8)))))] ?_ (fun K0_3' hK_3' => ?_)
  rotate_left
  ·refine WL.split (decide (plX a1 = 1)) (fun hb => ?_) (fun hb => ?_)
   ·have o_5' := o_6' hb
    refine WL.set 29 rfl (congrArg zB hb) ?_
    refine wm ?_
    refine WL.cv ⟨_, _, _, EN.fn afu rfl, ai5 te fre B qb1 dw1 mv1 ds1 R1 l1 a1 o_5', aoj.pool 1 rfl (fun _ h => h)⟩ rfl rfl rfl ?_
    refine wv (OV.eqlS rfl rfl) ?_
    refine wv (OV.pickT rfl rfl) ?_
    refine WL.set 33 rfl (bT (v := decide (aao l1 a1 = ([97, 32, 46, 32, 40, 98, 32, 124, 32, 99, 41, 10] : List UInt8))) hb) ?_
    exact WL.end_ (kg hK_3')
   ·refine WL.set 29 rfl (congrArg zB hb) ?_
    refine wk ?_
    refine wk ?_
    refine wk ?_
    refine wv (OV.pickF rfl rfl) ?_
    refine WL.set 33 rfl (bF (v := decide (aao l1 a1 = ([97, 32, 46, 32, 40, 98, 32, 124, 32, 99, 41, 10] : List UInt8))) hb) ?_
    exact WL.end_ (kg hK_3')
  refine wA ?_
  refine WL.nil ?_
  refine kg (hK_2' [(0, zB ((decide (plX a1 = 1)) && (decide (aao l1 a1 = ([97, 32, 46, 32, 40, 98, 32, 124, 32, 99, 41, 10] : List UInt8)))))] _ ?_)
  refine b8 ?_
  exact hE.ret [] rfl rfl (.inl ⟨_, h, rfl⟩) (d6.of1 rfl (RV.tmp rfl))
 ·obtain ⟨qb1, dw1, mv1, ds1, R1, B, hc, ho⟩ := hS
  cases ho
theorem ag7 : s7 ([97, 46, 40, 98, 124, 99, 41] : List UInt8) = .ok ([], .binary 1 [46] (.name 0 [97]) (.binary 4 [124] (.name 3 [98]) (.name 5 [99]))) := by kernel_rfl
theorem ane : aao [] (.binary 1 [46] (.name 0 [97]) (.binary 4 [124] (.name 3 [98]) (.name 5 [99]))) = ([97, 32, 46, 32, 40, 98, 32, 124, 32, 99, 41, 10] : List UInt8) := by kernel_rfl
theorem ahe (te : TypeId) (fre : Nat × Nat) : d7 Tryd.prog 8 [] (ac5 te fre) [] (Ret (.bool true) []) := by
 refine (apv te fre [] (.binary 1 [46] (.name 0 [97]) (.binary 4 [124] (.name 3 [98]) (.name 5 [99]))) (fun b => b = true) ?_).weak ?_
 ·unfold agq
  refine ⟨ag7, fun b w m ds B1 B hp => ⟨hp.1.2.2.2.2, auu hp.1.2.1, hp.1.2.2.2.2, ari hp.1.2.1, fun _ => ⟨hp.1, ajo ag7⟩, ?_⟩⟩
  rw [ane]
  decide
 ·rintro x (⟨b, rfl, rfl⟩ | h)
  ·rfl
  ·exact h.elim
end Go.Proofs.YtifajndacnfcbaaDoor
namespace Go.Proofs.YtifajndacnfcbaaDoor
open Go Go.RowKit
mutual
def shX (d : Int) : Ex → Ex
 | .name p s => .name (p + d) s
 | .text p s => .text (p + d) s
 | .regex p s => .regex (p + d) s
 | .keyed p a => .keyed (p + d) (shX d a)
 | .unary p o a => .unary (p + d) o (shX d a)
 | .binary p o a b => .binary (p + d) o (shX d a) (shX d b)
 | .call p w l => .call (p + d) w (ak9 d l)
def ak9 (d : Int) : ExL → ExL
 | .nil => .nil
 | .cons a r => .cons (shX d a) (ak9 d r)
end
theorem ajv (d : Int) (e : Ex) : rkX (shX d e) = rkX e := by cases e <;> simp only [shX, rkX]
mutual
theorem afq (d : Int) : ∀ e : Ex, l5 (shX d e) = l5 e
 | .name p s => by simp only [shX, l5]
 | .text p s => by simp only [shX, l5]
 | .regex p s => by simp only [shX, l5]
 | .keyed p a => by simp only [shX, l5, ajv, afq d a]
 | .unary p o a => by simp only [shX, l5, ajv, afq d a]
 | .binary p o a b => by simp only [shX, l5, ajv, afq d a, afq d b]
 | .call p w l => by simp only [shX, l5, awu d l]
theorem awu (d : Int) : ∀ l : ExL, abo (ak9 d l) = abo l
 | .nil => by rw [ak9]
 | .cons a r => by simp only [ak9, abo, ajv, afq d a, arn d r]
theorem arn (d : Int) : ∀ l : ExL, ac6 (ak9 d l) = ac6 l
 | .nil => by rw [ak9]
 | .cons a r => by simp only [ak9, ac6, ajv, afq d a, arn d r]
end
def ax8 (d : Int) (e : Int × Int) : Int × Int := if e.1 = -1 then e else (e.1, e.2 + d)
def rS {α : Type} (g : α → α) (d : Int) (n : Nat) : RsX α → RsX α
 | .error e => .error (ax8 d e)
 | .ok (a, q) => .ok (g a, (q.1 + n, q.2))
section
variable {ts pre : List Tok} {d : Int}
structure Shf (ts pre : List Tok) (d : Int) (f : Nat) : Prop where
 e : ∀ l k o, k < ts.length → pE (pre ++ ts.map (shT d)) f l (k + pre.length, o) = rS (shX d) d pre.length (pE ts f l (k, o))
 l : ∀ l b k o, k < ts.length → pL (pre ++ ts.map (shT d)) f l (shX d b) (k + pre.length, o) = rS (shX d) d pre.length (pL ts f l b (k, o))
 p : ∀ k o, k < ts.length → pP (pre ++ ts.map (shT d)) f (k + pre.length, o) = rS (shX d) d pre.length (pP ts f (k, o))
 s : ∀ b k o, k < ts.length → pS (pre ++ ts.map (shT d)) f (shX d b) (k + pre.length, o) = rS (shX d) d pre.length (pS ts f b (k, o))
 a : ∀ k o, k < ts.length → pA (pre ++ ts.map (shT d)) f (k + pre.length, o) = rS (shX d) d pre.length (pA ts f (k, o))
 c : ∀ k o, k < ts.length → (b3 ts k).1 ≠ 0 → pC (pre ++ ts.map (shT d)) f (k + pre.length, o) = rS (shX d) d pre.length (pC ts f (k, o))
 r : ∀ n b k o, k < ts.length → pR (pre ++ ts.map (shT d)) f n (ak9 d b) (k + pre.length, o) = rS (ak9 d) d pre.length (pR ts f n b (k, o))
end
section
variable {ts pre : List Tok} {d : Int}
end
end Go.Proofs.YtifajndacnfcbaaDoor
